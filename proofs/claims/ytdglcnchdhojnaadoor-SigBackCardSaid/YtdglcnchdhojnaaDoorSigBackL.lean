/- SigBack: the walk. -/
import Derived.Test.YtdglcnchdhojnaaDoorSigList
namespace Go.Proofs.YtdglcnchdhojnaaDoor.Sig
open Go.RowKit Go.Proofs.YtdglcnchdhojnaaDoorW.PrintWords Go.Proofs.YtdglcnchdhojnaaDoorW.PrintLast Go.Proofs.YtdglcnchdhojnaaDoor.R Go.Proofs.YtdglcnchdhojnaaDoor.Base
set_option linter.unusedVariables false
set_option linter.unusedSimpArgs false
theorem num_of_name (s : Int) : num (name s) = if isg s = true then s else 0 := by
  unfold name
  by_cases h : 1 ≤ s ∧ s ≤ 31
  · rw [if_pos h, if_pos (isg_iff.2 (by omega)), (num_name s.toNat (by omega) (by omega)).1]
    omega
  · rw [if_neg h, if_neg (fun e => h (by have := isg_iff.1 e; omega))]
    unfold num
    rw [fnd_tab _ 31 1 (by omega) (by omega)]
    decide +kernel
theorem name_small (s : Int) : (name s).size ≤ 281474976710656 := by
  unfold name
  split
  · rename_i h
    have key : ∀ i : Fin 32, (nm i.val).size ≤ 281474976710656 := by decide +kernel
    exact key ⟨s.toNat, by omega⟩
  · decide
theorem ok_of_name (s : Int) : decide (0 < num (name s)) = isg s := by
  rw [num_of_name]
  cases h : isg s with
  | true => rw [if_pos rfl]; exact decide_eq_true (isg_iff.1 h).1
  | false => rw [if_neg (by decide)]; rfl
/-- What the variables hold. -/
structure Gb (w : World) : Prop where
  gs : Gs w
  tb : TabB w
theorem gb_below {w w' : World} (h : Gb w) (hb : Below w.heap.size w w') : Gb w' := ⟨gs_below h.gs hb, tabB_below h.tb hb⟩
theorem is_anyg (v : Int) (w : World) : Calls Tryd.prog 28 #[.int .i64 v] w fun e w' => e = .returned (.bool (isg v)) ∧ Below w.heap.size w w' := is_any v w
set_option maxHeartbeats 4000000 in
set_option maxRecDepth 100000 in
theorem back_law (A : Option Addr) (n c : Nat) (l : List Int) (s : Int) (w : World) (hr : Kd.C (Kd.int .i64) w A n l) (hg : Gb w) :
    Calls Tryd.prog 6 #[.slice A n c, .int .i64 s] w fun e w' => e = .returned (.bool true) ∧ Below w.heap.size w w' := by
  obtain rfl := hr.1
  have HR := Aside0.mk hr
  have HG := Aside0.mk hg
  have HB := Aside0.mk (Below.refl w.heap.size w)
  clear hr hg
  go_enter Tryd.func6, Tryd.ntmps6
  by_cases hlen : l.length > 200
  · have d0 : decide ((200 : Int) < (l.length : Int)) = true := decide_eq_true (by omega)
    go_wp2_with (go_at_call 23; (with_reducible refine (alive_any _ HG.out.gs).mono ?_); rintro e w1 ⟨rfl, hB⟩; have n1 := Aside0.mk (below_trans HB.out (below_sub hB HB.out.size)); clear hB HB; have HB := n1; clear n1)
    go_ret
    exact ⟨rfl, HB.out⟩
  have d0 : decide ((200 : Int) < (l.length : Int)) = false := decide_eq_false (by omega)
  have HLEN := Aside0.mk (show l.length ≤ 4294967296 by omega)
  have hll : l.length ≤ 200 := by omega
  clear hlen
  go_wp2_with (first
    | (go_at_call 23; (with_reducible refine (alive_any _ HG.out.gs).mono ?_); rintro e w1 ⟨rfl, hB⟩; have n0 := Aside0.mk (gb_below HG.out hB); have n1 := Aside0.mk (below_trans HB.out (below_sub hB HB.out.size)); clear hB HG HB; have HG := n0; have HB := n1; clear n0 n1)
    | (go_at_call 38; (with_reducible refine (of_any A _ c l _ (Kd.C_below HR.out HB.out) HLEN.out).mono ?_); rintro e w2 ⟨rfl, hB⟩; have n0 := Aside0.mk (gb_below HG.out hB); have n1 := Aside0.mk (below_trans HB.out (below_sub hB HB.out.size)); clear hB HG HB; have HG := n0; have HB := n1; clear n0 n1))
  have HX := Aside0.mk (ofL_lt l 0 (by decide))
  have HM := Aside0.mk (ofL_hs_is l)
  have HK := Aside0.mk (back l)
  generalize ofL 0 l = X at *
  clear d0
  go_loopw [19] (fun v19 w' => ∃ (k : Nat), k ≤ l.length ∧ v19 = .int .i64 (k : Int) ∧ Aside0 (Gb w') ∧ Aside0 (Below w.heap.size w w')) (fun v19 _ => l.length - (intOf v19).toNat)
  case atStart => exact ⟨0, Nat.zero_le _, rfl, HG, HB⟩
  case round =>
    clear HG HB
    obtain ⟨k, hk, rfl, HG, HB⟩ := hrel
    by_cases hlt : k < l.length
    · obtain ⟨ad, rfl, hc⟩ := at_i64 HR.out k hlt
      have hc := pw_cell_below HB.out hc
      have HM1 := Aside0.mk (HM.out l[k] (List.getElem_mem hlt))
      generalize l[k] = q at *
      have hi0 : (0 : Int) ≤ (k : Int) := by omega
      have hi1 : (k : Int) < (l.length : Int) := by omega
      go_wp2_with (first
        | (go_at_call 14; (with_reducible refine (has_any X q _ HX.out).mono ?_); rintro e w1 ⟨rfl, hB⟩; rw [HM1.out]; have n0 := Aside0.mk (gb_below HG.out hB); have n1 := Aside0.mk (below_trans HB.out (below_sub hB HB.out.size)); clear hB HG HB; have HG := n0; have HB := n1; clear n0 n1)
        | (go_at_call 28; (with_reducible refine (is_anyg q _).mono ?_); rintro e w1 ⟨rfl, hB⟩; have n0 := Aside0.mk (gb_below HG.out hB); have n1 := Aside0.mk (below_trans HB.out (below_sub hB HB.out.size)); clear hB HG HB; have HG := n0; have HB := n1; clear n0 n1))
      go_roundw
      case measure => simp [intOf]; omega
      case rel => exact ⟨k + 1, by omega, by go_num, HG, HB⟩
    · have hge : decide ((k : Int) < (l.length : Int)) = false := decide_eq_false (by omega)
      have HNS := Aside0.mk (name_small s)
      have HOK := Aside0.mk (ok_of_name s)
      have HNN := Aside0.mk (num_of_name s)
      have HW1 := Aside0.mk (wto_lt s HX.out)
      have HW2 := Aside0.mk (wth_lt s HX.out)
      have HW3 := Aside0.mk (wto_hs X s)
      have HW4 := Aside0.mk (wth_hs X s)
      have HLL := Aside0.mk (show (lst (X &&& allN)).length ≤ 4294967296 by have h1 := lst_len (X &&& allN); have h2 := all_lt (x := X); omega)
      obtain ⟨nx, hnx⟩ : ∃ nx, nx = name s := ⟨_, rfl⟩
      rw [← hnx] at HNS HOK HNN
      have HNX := Aside0.mk hnx
      clear hnx
      have hX0 : ((X : Int) == (X : Int)) = true := beq_self_eq_true _
      cases hb : isg s with
      | true =>
        rw [hb] at HOK HNN HW4
        have HIS := Aside0.mk hb
        have e1 : (s == s) = true := beq_self_eq_true _
        have HN1 := Aside0.mk (show num nx = s by rw [HNN.out, if_pos rfl])
        clear hb HNN
        go_wp2_with (first
          | (go_at_call 29; (with_reducible refine (name_any s _ HG.out.gs).mono ?_); rintro e w1 ⟨rfl, hB⟩; rw [← HNX.out]; have n0 := Aside0.mk (gb_below HG.out hB); have n1 := Aside0.mk (below_trans HB.out (below_sub hB HB.out.size)); clear hB HG HB; have HG := n0; have HB := n1; clear n0 n1)
          | (go_at_call 24; (with_reducible refine (number_any nx _ HNS.out HG.out.gs).mono ?_); rintro e w1 ⟨rfl, hB⟩; rw [HOK.out, HN1.out]; have n0 := Aside0.mk (gb_below HG.out hB); have n1 := Aside0.mk (below_trans HB.out (below_sub hB HB.out.size)); clear hB HG HB; have HG := n0; have HB := n1; clear n0 n1)
          | (go_at_call 39; (with_reducible refine (list_any X _ HX.out HG.out.tb).mono ?_); rintro e w1 ⟨A5, n5, c5, rfl, hR, hB⟩; have HR5 := Aside0.mk (R_C hR); have n0 := Aside0.mk (gb_below HG.out hB); have n1 := Aside0.mk (below_trans HB.out (below_sub hB HB.out.size)); clear hB HG HB hR; have HG := n0; have HB := n1; clear n0 n1)
          | (go_at_call 38; (with_reducible refine (of_any A5 n5 c5 _ _ HR5.out HLL.out).mono ?_); rintro e w2 ⟨rfl, hB⟩; rw [HK.out]; have n0 := Aside0.mk (gb_below HG.out hB); have n1 := Aside0.mk (below_trans HB.out (below_sub hB HB.out.size)); clear hB HG HB; have HG := n0; have HB := n1; clear n0 n1)
          | (go_at_call 28; (with_reducible refine (is_anyg s _).mono ?_); rintro e w1 ⟨rfl, hB⟩; rw [HIS.out]; have n0 := Aside0.mk (gb_below HG.out hB); have n1 := Aside0.mk (below_trans HB.out (below_sub hB HB.out.size)); clear hB HG HB; have HG := n0; have HB := n1; clear n0 n1)
          | (go_at_call 40; (with_reducible refine (wto_any X s _ HX.out).mono ?_); rintro e w1 ⟨rfl, hB⟩; have n0 := Aside0.mk (gb_below HG.out hB); have n1 := Aside0.mk (below_trans HB.out (below_sub hB HB.out.size)); clear hB HG HB; have HG := n0; have HB := n1; clear n0 n1)
          | (go_at_call 41; (with_reducible refine (with_any X s _ HX.out).mono ?_); rintro e w1 ⟨rfl, hB⟩; have n0 := Aside0.mk (gb_below HG.out hB); have n1 := Aside0.mk (below_trans HB.out (below_sub hB HB.out.size)); clear hB HG HB; have HG := n0; have HB := n1; clear n0 n1)
          | (go_at_call 14; (with_reducible refine (has_any (wto X s) s _ HW1.out).mono ?_); rintro e w1 ⟨rfl, hB⟩; rw [HW3.out]; have n0 := Aside0.mk (gb_below HG.out hB); have n1 := Aside0.mk (below_trans HB.out (below_sub hB HB.out.size)); clear hB HG HB; have HG := n0; have HB := n1; clear n0 n1)
          | (go_at_call 14; (with_reducible refine (has_any (wth X s) s _ HW2.out).mono ?_); rintro e w1 ⟨rfl, hB⟩; rw [HW4.out]; have n0 := Aside0.mk (gb_below HG.out hB); have n1 := Aside0.mk (below_trans HB.out (below_sub hB HB.out.size)); clear hB HG HB; have HG := n0; have HB := n1; clear n0 n1))
        go_ret
        exact ⟨rfl, HB.out⟩
      | false =>
        rw [hb] at HOK HNN HW4
        have HIS := Aside0.mk hb
        have HN1 := Aside0.mk (show num nx = 0 by rw [HNN.out, if_neg (by decide)])
        clear hb HNN
        go_wp2_with (first
          | (go_at_call 29; (with_reducible refine (name_any s _ HG.out.gs).mono ?_); rintro e w1 ⟨rfl, hB⟩; rw [← HNX.out]; have n0 := Aside0.mk (gb_below HG.out hB); have n1 := Aside0.mk (below_trans HB.out (below_sub hB HB.out.size)); clear hB HG HB; have HG := n0; have HB := n1; clear n0 n1)
          | (go_at_call 24; (with_reducible refine (number_any nx _ HNS.out HG.out.gs).mono ?_); rintro e w1 ⟨rfl, hB⟩; rw [HOK.out, HN1.out]; have n0 := Aside0.mk (gb_below HG.out hB); have n1 := Aside0.mk (below_trans HB.out (below_sub hB HB.out.size)); clear hB HG HB; have HG := n0; have HB := n1; clear n0 n1)
          | (go_at_call 39; (with_reducible refine (list_any X _ HX.out HG.out.tb).mono ?_); rintro e w1 ⟨A5, n5, c5, rfl, hR, hB⟩; have HR5 := Aside0.mk (R_C hR); have n0 := Aside0.mk (gb_below HG.out hB); have n1 := Aside0.mk (below_trans HB.out (below_sub hB HB.out.size)); clear hB HG HB hR; have HG := n0; have HB := n1; clear n0 n1)
          | (go_at_call 38; (with_reducible refine (of_any A5 n5 c5 _ _ HR5.out HLL.out).mono ?_); rintro e w2 ⟨rfl, hB⟩; rw [HK.out]; have n0 := Aside0.mk (gb_below HG.out hB); have n1 := Aside0.mk (below_trans HB.out (below_sub hB HB.out.size)); clear hB HG HB; have HG := n0; have HB := n1; clear n0 n1)
          | (go_at_call 28; (with_reducible refine (is_anyg s _).mono ?_); rintro e w1 ⟨rfl, hB⟩; rw [HIS.out]; have n0 := Aside0.mk (gb_below HG.out hB); have n1 := Aside0.mk (below_trans HB.out (below_sub hB HB.out.size)); clear hB HG HB; have HG := n0; have HB := n1; clear n0 n1)
          | (go_at_call 40; (with_reducible refine (wto_any X s _ HX.out).mono ?_); rintro e w1 ⟨rfl, hB⟩; have n0 := Aside0.mk (gb_below HG.out hB); have n1 := Aside0.mk (below_trans HB.out (below_sub hB HB.out.size)); clear hB HG HB; have HG := n0; have HB := n1; clear n0 n1)
          | (go_at_call 41; (with_reducible refine (with_any X s _ HX.out).mono ?_); rintro e w1 ⟨rfl, hB⟩; have n0 := Aside0.mk (gb_below HG.out hB); have n1 := Aside0.mk (below_trans HB.out (below_sub hB HB.out.size)); clear hB HG HB; have HG := n0; have HB := n1; clear n0 n1)
          | (go_at_call 14; (with_reducible refine (has_any (wto X s) s _ HW1.out).mono ?_); rintro e w1 ⟨rfl, hB⟩; rw [HW3.out]; have n0 := Aside0.mk (gb_below HG.out hB); have n1 := Aside0.mk (below_trans HB.out (below_sub hB HB.out.size)); clear hB HG HB; have HG := n0; have HB := n1; clear n0 n1)
          | (go_at_call 14; (with_reducible refine (has_any (wth X s) s _ HW2.out).mono ?_); rintro e w1 ⟨rfl, hB⟩; rw [HW4.out]; have n0 := Aside0.mk (gb_below HG.out hB); have n1 := Aside0.mk (below_trans HB.out (below_sub hB HB.out.size)); clear hB HG HB; have HG := n0; have HB := n1; clear n0 n1))
        go_ret
        exact ⟨rfl, HB.out⟩
end Go.Proofs.YtdglcnchdhojnaaDoor.Sig
