/- KernMany: the law's walk. -/
import Derived.Test.YtbgodajbdbgdfaaDoorProcSome
namespace Go.Proofs.YtbgodajbdbgdfaaDoor.Kern
open Go.RowKit Go.Proofs.YtbgodajbdbgdfaaDoorW.PrintWords Go.Proofs.YtbgodajbdbgdfaaDoorW.PrintLast Go.Proofs.YtbgodajbdbgdfaaDoor.Sig Go.Proofs.YtbgodajbdbgdfaaDoor.Base Go.Proofs.YtbgodajbdbgdfaaDoor.Seq Go.Maps
set_option linter.unusedVariables false
set_option linter.unusedSimpArgs false
theorem keys_perm {w : World} {base g m n : Nat} {D : Dm} {B : Int → Nat} {v : Value} {f : Tb} {last : Int} {ends : List (Int × Int)} (h : TV w base g m n D B v f last ends) (L : List Int) (hnd : L.Nodup) (hL : ∀ q, q ∈ L ↔ f q ≠ none) : L.Perm (intKeys D) := by
  obtain ⟨es, e, hap, hk⟩ := keys_int h
  have hhas : ∀ q, Maps.has D (.int .i64 q) = true ↔ f q ≠ none := by
    intro q
    constructor
    · intro h1 h2
      rw [h.no q h2] at h1
      cases h1
    · intro h1
      cases hf : f q with
      | none => exact absurd hf h1
      | some r => exact has_true_of_atKey (h.yes q r hf).key
  rw [e]
  refine perm_intKeys hap hk hnd (fun x => ?_)
  rw [hL x, ← hhas x, e]
theorem and_byte (i : Nat) (h : i < 256) : bits .and .i64 (i : Int) 255 = (i : Int) := by
  have key : ∀ k : Fin 256, bits .and .i64 ((k.val : Nat) : Int) 255 = ((k.val : Nat) : Int) := by decide +kernel
  exact key ⟨i, h⟩
theorem one_mem : ∀ q, q ∈ [(1 : Int)] ↔ one 0 q ≠ none := by
  intro q
  rw [List.mem_singleton]
  unfold one
  by_cases h : q = 1
  · rw [if_pos h]; simp [h]
  · rw [if_neg h]; simp [h]
/-- What the loop keeps. -/
structure ManySt (w W : World) (base g : Nat) (f : Tb) (last : Int) (k : Nat) : Prop where
  ex : ∃ ends, ends.length = k ∧ TW W base g f last ends
  bel : Below w.heap.size w W
theorem many_below {w W W' : World} {base g k : Nat} {f : Tb} {last : Int} (h : ManySt w W base g f last k) (hb : Below W.heap.size W W') : ManySt w W' base g f last k := by
  obtain ⟨ends, h1, h2⟩ := h.ex
  exact ⟨⟨ends, h1, TW_below h2 hb⟩, h.bel.trans (hb.mono h.bel.size)⟩
set_option maxHeartbeats 8000000 in
set_option maxRecDepth 100000 in
theorem many_false (k : Nat) (hk : k ≤ 255) (w : World) (ht : TabB w) :
    Calls Tryd.prog 3 #[.int .u8 (k : Int), .bool false] w fun e w' => e = .returned (.bool true) ∧ Below w.heap.size w w' := by
  have HTB := Aside0.mk ht
  have HW1 := Aside0.mk (wf_i64 (x := 1) (by decide) (by decide))
  clear ht
  have hcv : wrap64 (k : Int) = (k : Int) := by unfold wrap64; omega
  go_enter Tryd.func3, Tryd.ntmps3
  go_upto_region 4 with (first
    | (go_at_call 5; (with_reducible refine (kalive_any _ HTB.out).mono ?_); rintro e w1 ⟨rfl, hB⟩; have HB1 := Aside0.mk hB; have HTB1 := Aside0.mk (tabB_below HTB.out hB); clear hB)
    | (go_at_call 6; (with_reducible refine (new_zero _ HTB1.out).mono ?_); rintro e w2 ⟨g, rfl, hT, hB⟩; have HT := Aside0.mk hT; have HB := Aside0.mk (HB1.out.trans (hB.mono HB1.out.size)); clear hB hT))
  have hbw := HB1.out.size
  have HI := Aside0.mk (show ManySt w w2 w1.heap.size g (manyT (min 0 63)) (((min 0 63 : Nat) : Int) + 1) (min 0 63) from ⟨⟨[], rfl, by rw [show min 0 63 = 0 from rfl, many_zero]; exact HT.out⟩, HB.out⟩)
  clear HT HB HTB1 HTB HB1
  generalize w1.heap.size = base at *
  go_wp2
  go_loopw [19] (fun v19 wr => ∃ i : Nat, i ≤ k ∧ v19 = .int .i64 (i : Int) ∧ Aside0 (ManySt w wr base g (manyT (min i 63)) (((min i 63 : Nat) : Int) + 1) (min i 63))) (fun v19 _ => k - (intOf v19).toNat)
  case atStart => exact ⟨0, Nat.zero_le _, rfl, HI⟩
  case round =>
    clear HI
    obtain ⟨i, hi, rfl, HS⟩ := hrel
    obtain ⟨ends, hel, hTW⟩ := HS.out.ex
    obtain ⟨m, n, D, B, v, hT⟩ := hTW
    have HT := Aside0.mk hT
    have hsz := size_of hT (manyL (min i 63)) (manyL_nodup _) (manyL_mem _)
    rw [manyL_len] at hsz
    have HEL := Aside0.mk hel
    have HBL := Aside0.mk HS.out.bel
    by_cases hik : i < k
    · by_cases h63 : i < 63
      · have hmin : min i 63 = i := by omega
        have hmin1 : min (i + 1) 63 = i + 1 := by omega
        rw [hmin] at HT HEL hsz
        have HSZ := Aside0.mk (show Maps.size D < 64 by omega)
        have d63 : decide ((63 : Int) ≤ (i : Int)) = false := decide_eq_false (by omega)
        have hw2 : wrap64 ((i : Int) + 2) = (i : Int) + 2 := by unfold wrap64; omega
        have HW2 := Aside0.mk (wf_i64 (x := (i : Int) + 2) (by omega) (by omega))
        clear hT hsz hel HS
        go_upto_region 10 with (go_at_call 7; (with_reducible refine (fork_any HT.out 1 (p0 0) HW1.out (many_first i) rfl (by omega) HSZ.out).mono ?_); rintro e w3 ⟨rfl, hT2, hB⟩; rw [show (i : Int) + 1 + 1 = (i : Int) + 2 by omega] at hT2 ⊢; have HT2 := Aside0.mk (show TW w3 base g (forkT i) ((i : Int) + 2) ends from hT2); have HB3 := Aside0.mk (below_trans (below_sub HBL.out (Nat.le_refl _)) (below_sub hB hbw)); clear hT2 hB)
        obtain ⟨m2, n2, D2, B2, v2, hT2⟩ := HT2.out
        have HT3 := Aside0.mk hT2
        clear hT2 HT2
        go_wp2_with (go_at_call 9; go_loud (with_reducible refine (exit_any HT3.out ((i : Int) + 2) (i : Int) ⟨1, true, 0, 0, 0, 0⟩ HW2.out (fork_at i) rfl (by have := HEL.out; omega)).mono ?_); rintro e w4 ⟨rfl, hT4, hB⟩; rw [and_byte i (by omega), fork_exit] at hT4; have HN := Aside0.mk (show ManySt w w4 base g (manyT (min (i + 1) 63)) (((min (i + 1) 63 : Nat) : Int) + 1) (min (i + 1) 63) from ⟨⟨ends ++ [((i : Int) + 2, (i : Int))], by simp [HEL.out, hmin1], by rw [hmin1, show ((i + 1 : Nat) : Int) + 1 = (i : Int) + 2 by omega]; exact hT4⟩, HB3.out.trans (hB.mono hbw)⟩); clear hT4 hB)
        go_roundw
        case measure => simp [intOf]; omega
        case rel => exact ⟨i + 1, by omega, by go_num, HN⟩
      · have hmin : min i 63 = 63 := by omega
        have hmin1 : min (i + 1) 63 = 63 := by omega
        rw [hmin] at HT HEL hsz
        have HSZ := Aside0.mk hsz
        have d63 : decide ((63 : Int) ≤ (i : Int)) = true := decide_eq_true (by omega)
        have HN := Aside0.mk (show ManySt w wr base g (manyT (min (i + 1) 63)) (((min (i + 1) 63 : Nat) : Int) + 1) (min (i + 1) 63) from by rw [hmin1, ← hmin]; exact HS.out)
        have HLV := Aside0.mk (show liv (manyT 63) 1 = true by unfold liv; rw [many_first])
        clear hT hsz hel HS
        go_wp2_with (first
          | (go_at_call 7; (with_reducible refine (forkfull_any HT.out 1 HW1.out HLV.out (by have := HSZ.out; omega)).mono ?_); rintro e w3 ⟨rfl, rfl⟩)
          | (go_at_call 8; (with_reducible refine (len_any HT.out).mono ?_); rintro e w5 ⟨rfl, rfl⟩; rw [HSZ.out]))
        go_roundw
        case measure => simp [intOf]; omega
        case rel => exact ⟨i + 1, by omega, by go_num, HN⟩
    · obtain rfl : i = k := by omega
      generalize hmk : min i 63 = q at *
      have hq : q ≤ 63 := by omega
      have HSZ := Aside0.mk hsz
      have HP := Aside0.mk (keys_perm hT (manyL q) (manyL_nodup _) (manyL_mem _))
      have d64 : decide (((q + 1 : Nat) : Int) ≤ 64) = true := decide_eq_true (by omega)
      clear hT hsz hel HS
      go_wp2_with (first
        | (go_at_call 8; (with_reducible refine (len_any HT.out).mono ?_); rintro e w5 ⟨rfl, rfl⟩; rw [HSZ.out])
        | (go_at_call 11; (with_reducible refine (ends_any HT.out (by have := HEL.out; omega)).mono ?_); rintro e w6 ⟨A6, c6, rfl, _, _, hB⟩; rw [HEL.out]; have HT6 := Aside0.mk (HT.out.below hB); have HB6 := Aside0.mk (HBL.out.trans (hB.mono HBL.out.size)); clear hB)
        | (go_at_call 12; (with_reducible refine (children_any HT6.out 1 HW1.out).mono ?_); rintro e w7 ⟨A7, n7, c7, L, rfl, hC, _, hP, _, hB⟩; have e7 := ((hP.trans HP.out.symm).filter (chB (manyT q) 1)).length_eq; rw [hC.1, many_count] at e7; subst e7; have HB7 := Aside0.mk (HB6.out.trans (hB.mono HB6.out.size)); clear hB hC hP))
      go_ret
      exact ⟨rfl, HB7.out⟩
theorem eq_cases (a b : Nat) : ∃ q : Bool, ((a : Int) == (b : Int)) = q := ⟨_, rfl⟩
set_option maxHeartbeats 8000000 in
set_option maxRecDepth 100000 in
theorem many_true (k : Nat) (hk : k ≤ 255) (w : World) (ht : TabB w) :
    Calls Tryd.prog 3 #[.int .u8 (k : Int), .bool true] w fun e w' => e = .returned (.bool true) ∧ Below w.heap.size w w' := by
  have HTB := Aside0.mk ht
  have HW1 := Aside0.mk (wf_i64 (x := 1) (by decide) (by decide))
  clear ht
  have hcv : wrap64 (k : Int) = (k : Int) := by unfold wrap64; omega
  go_enter Tryd.func3, Tryd.ntmps3
  go_upto_region 4 with (first
    | (go_at_call 5; (with_reducible refine (kalive_any _ HTB.out).mono ?_); rintro e w1 ⟨rfl, hB⟩; have HB1 := Aside0.mk hB; have HTB1 := Aside0.mk (tabB_below HTB.out hB); clear hB)
    | (go_at_call 6; (with_reducible refine (new_zero _ HTB1.out).mono ?_); rintro e w2 ⟨g, rfl, hT, hB⟩; have HT := Aside0.mk hT; have HB := Aside0.mk (HB1.out.trans (hB.mono HB1.out.size)); clear hB hT))
  have hbw := HB1.out.size
  have HI := Aside0.mk (show ManySt w w2 w1.heap.size g (one 0) (((0 : Nat) : Int) + 1) 0 from ⟨⟨[], rfl, HT.out⟩, HB.out⟩)
  clear HT HB HTB1 HTB HB1
  generalize w1.heap.size = base at *
  go_wp2
  go_loopw [19] (fun v19 wr => ∃ i : Nat, i ≤ k ∧ v19 = .int .i64 (i : Int) ∧ Aside0 (ManySt w wr base g (one 0) ((i : Int) + 1) i)) (fun v19 _ => k - (intOf v19).toNat)
  case atStart => exact ⟨0, Nat.zero_le _, rfl, HI⟩
  case round =>
    clear HI
    obtain ⟨i, hi, rfl, HS⟩ := hrel
    obtain ⟨ends, hel, hTW⟩ := HS.out.ex
    obtain ⟨m, n, D, B, v, hT⟩ := hTW
    have HT := Aside0.mk hT
    have hsz : Maps.size D = 1 := size_of hT [1] (by decide) one_mem
    have HEL := Aside0.mk hel
    have HBL := Aside0.mk HS.out.bel
    by_cases hik : i < k
    · have HSZ := Aside0.mk (show Maps.size D < 64 by omega)
      have hw2 : wrap64 ((i : Int) + 2) = (i : Int) + 2 := by unfold wrap64; omega
      have HW2 := Aside0.mk (wf_i64 (x := (i : Int) + 2) (by omega) (by omega))
      have hi0 := Aside0.mk (show (0 : Int) ≤ (i : Int) by omega)
      clear hT hsz hel HS
      go_upto_region 10 with (go_at_call 7; (with_reducible refine (fork_any HT.out 1 (p0 0) HW1.out rfl rfl (by omega) HSZ.out).mono ?_); rintro e w3 ⟨rfl, hT2, hB⟩; rw [show (i : Int) + 1 + 1 = (i : Int) + 2 by omega] at hT2 ⊢; have HT2 := Aside0.mk (show TW w3 base g (oneF (i : Int)) ((i : Int) + 2) ends from hT2); have HB3 := Aside0.mk (below_trans (below_sub HBL.out (Nat.le_refl _)) (below_sub hB hbw)); clear hT2 hB)
      obtain ⟨m2, n2, D2, B2, v2, hT2⟩ := HT2.out
      have HT3 := Aside0.mk hT2
      clear hT2 HT2
      go_upto_region 16 with (go_at_call 9; (with_reducible refine (exit_any HT3.out ((i : Int) + 2) (i : Int) ⟨1, true, 0, 0, 0, 0⟩ HW2.out (oneF_at (i : Int)) rfl (by have := HEL.out; omega)).mono ?_); rintro e w4 ⟨rfl, hT4, hB⟩; rw [and_byte i (by omega)] at hT4; have HT4 := Aside0.mk hT4; have HB4 := Aside0.mk (HB3.out.trans (hB.mono hbw)); clear hT4 hB)
      obtain ⟨m4, n4, D4, B4, v4, hT4⟩ := HT4.out
      have HT5 := Aside0.mk hT4
      clear hT4 HT4
      go_wp2_with (go_at_call 10; (with_reducible refine (reap_any HT5.out 1 ((i : Int) + 2) ⟨1, false, (i : Int), 0, 0, 0⟩ HW2.out HW1.out (oneF_exit hi0.out) rfl (oneF_ch hi0.out)).mono ?_); rintro e w5 ⟨rfl, hT6, hB⟩; rw [oneF_reap hi0.out] at hT6; have HN := Aside0.mk (show ManySt w w5 base g (one 0) (((i + 1 : Nat) : Int) + 1) (i + 1) from ⟨⟨ends ++ [((i : Int) + 2, (i : Int))], by simp [HEL.out], by rw [show ((i + 1 : Nat) : Int) + 1 = (i : Int) + 2 by omega]; exact hT6⟩, HB4.out.trans (hB.mono hbw)⟩); clear hT6 hB)
      go_roundw
      case measure => simp [intOf]; omega
      case rel => exact ⟨i + 1, by omega, by go_num, HN⟩
    · obtain rfl : i = k := by omega
      have HSZ := Aside0.mk hsz
      clear hT hsz hel HS
      go_wp2_with (first
        | (go_at_call 8; (with_reducible refine (len_any HT.out).mono ?_); rintro e w5 ⟨rfl, rfl⟩; rw [HSZ.out])
        | (go_at_call 11; (with_reducible refine (ends_any HT.out (by have := HEL.out; omega)).mono ?_); rintro e w6 ⟨A6, c6, rfl, _, _, hB⟩; rw [HEL.out]; have HT6 := Aside0.mk (HT.out.below hB); have HB6 := Aside0.mk (HBL.out.trans (hB.mono HBL.out.size)); clear hB)
        | (go_at_call 12; (with_reducible refine (children_any HT6.out 1 HW1.out).mono ?_); rintro e w7 ⟨A7, n7, c7, L, rfl, _, _, _, _, hB⟩; have HB7 := Aside0.mk (HB6.out.trans (hB.mono HB6.out.size)); clear hB; obtain ⟨bq, hbq⟩ := eq_cases i n7))
      all_goals (go_ret; exact ⟨rfl, HB7.out⟩)
theorem many_law (k : Nat) (hk : k ≤ 255) (b : Bool) (w : World) (ht : TabB w) :
    Calls Tryd.prog 3 #[.int .u8 (k : Int), .bool b] w fun e w' => e = .returned (.bool true) ∧ Below w.heap.size w w' := by
  cases b with
  | false => exact many_false k hk w ht
  | true => exact many_true k hk w ht
end Go.Proofs.YtbgodajbdbgdfaaDoor.Kern
