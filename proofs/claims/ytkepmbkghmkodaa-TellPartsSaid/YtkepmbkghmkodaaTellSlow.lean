/- tell: Slow: its contract; tellAlive. -/
import Derived.Test.YtkepmbkghmkodaaTellRight
namespace Go.Proofs.Ytkepmbkghmkodaa.Tell
open Go.RowKit Go.Proofs.YtkepmbkghmkodaaW.PrintWords Go.Proofs.YtkepmbkghmkodaaW.PrintLast Go.Proofs.Ytkepmbkghmkodaa.Base Go.Proofs.Ytkepmbkghmkodaa.Seq Go.Proofs.Ytkepmbkghmkodaa.MapSum Go.Maps
set_option linter.unusedVariables false
set_option linter.unusedSimpArgs false
def numD (D : Dm) (e : Evt) : Int := match D.atKey (ky e.p e.s) (.lit (.int .i64 0)) with
  | .lit (.int _ x) => x
  | _ => 0
def slw : Dm → Int → List Evt → Int
  | _, m, [] => m
  | D, m, e :: l => if e.k = 1 then slw (D.put (ky e.p e.s) (.lit (.int .i64 e.a))) m l else if e.k = 3 then (if Maps.has D (ky e.p e.s) = true then slw D (max m (wrap64 (e.a - numD D e))) l else slw D m l) else slw D m l
theorem slw_came {D : Dm} {m : Int} {e : Evt} {l : List Evt} (h : e.k = 1) : slw D m (e :: l) = slw (D.put (ky e.p e.s) (.lit (.int .i64 e.a))) m l := by
  rw [slw, if_pos h]
theorem slw_has {D : Dm} {m : Int} {e : Evt} {l : List Evt} (h : e.k = 3) (hh : Maps.has D (ky e.p e.s) = true) : slw D m (e :: l) = slw D (max m (wrap64 (e.a - numD D e))) l := by
  rw [slw, if_neg (by rw [h]; decide), if_pos h, if_pos hh]
theorem slw_hasnt {D : Dm} {m : Int} {e : Evt} {l : List Evt} (h : e.k = 3) (hh : Maps.has D (ky e.p e.s) = false) : slw D m (e :: l) = slw D m l := by
  rw [slw, if_neg (by rw [h]; decide), if_pos h, if_neg (by rw [hh]; decide)]
theorem slw_else {D : Dm} {m : Int} {e : Evt} {l : List Evt} (h : e.k ≠ 1) (h3 : e.k ≠ 3) : slw D m (e :: l) = slw D m l := by
  rw [slw, if_neg h, if_neg h3]
theorem zeroI (w : World) : (zeroValue 3).run Try.prog w = .ok (.int .i64 0) w := by kernel_rfl
set_option maxHeartbeats 8000000 in
set_option maxRecDepth 100000 in
theorem slow_any (A : Option Addr) (n c : Nat) (l : List Evt) (w : World) (hr : kEv.C w A n l) (hW : ∀ e ∈ l, W64 e.p ∧ W64 e.s ∧ W64 e.a) (hl : l.length ≤ 1000) :
    Calls Try.prog 72 #[.slice A n c] w fun r w' => r = .returned (.int .i64 (slw (.map []) 0 l)) ∧ Below w.heap.size w w' := by
  obtain rfl := hr.1
  have HR := Aside0.mk hr
  have HW := Aside0.mk hW
  have hmm := @run_makeMap Try.prog
  have HM0 := Aside0.mk (World.ownsMap_made (H := Unit) w Try.prog 100 (plainElem Try.prog 3))
  have HB0 := Aside0.mk (below_alloc (Below.refl w.heap.size w) (.map #[] 0))
  clear hr hW
  go_enter Try.func72, Try.ntmps72
  go_wp2
  generalize w.alloc (.map #[] 0) = w4 at *
  go_loopw [12, 3] (fun v12 v3 wr => ∃ (k : Nat) (D : Dm) (m : Int), k ≤ l.length ∧ v12 = .int .i64 (k : Int) ∧ v3 = .int .i64 m ∧ Aside0 (wr.ownsMap Try.prog 100 (plainElem Try.prog 3) w.heap.size k D) ∧ Aside0 (Below w.heap.size w wr) ∧ Aside0 (slw (.map []) 0 l = slw D m (l.drop k))) (fun v12 _ _ => l.length - (intOf v12).toNat)
  case atStart => exact ⟨0, .map [], 0, Nat.zero_le _, rfl, rfl, HM0, HB0, ⟨rfl⟩⟩
  case round =>
    clear HM0 HB0
    obtain ⟨k, D, m, hk, rfl, rfl, HM, HB, HEQ⟩ := hrel
    by_cases hlt : k < l.length
    · obtain ⟨ad, rfl, h0, h1, h2, h3⟩ := at_ev HR.out k hlt
      replace h0 := pw_cell_below HB.out h0
      replace h1 := pw_cell_below HB.out h1
      replace h2 := pw_cell_below HB.out h2
      replace h3 := pw_cell_below HB.out h3
      have HDR := Aside0.mk (List.drop_eq_getElem_cons hlt)
      have HWE := Aside0.mk (HW.out l[k] (List.getElem_mem hlt))
      have HKN := Aside0.mk (show k < 1000000 by omega)
      generalize l[k] = e at *
      obtain ⟨kk, a, p, s⟩ := e
      simp only at h0 h1 h2 h3 HWE
      have hi0 : (0 : Int) ≤ (k : Int) := by omega
      have hi1 : (k : Int) < (l.length : Int) := by omega
      have HBL := Aside0.mk (blk_new wr (.cells (ecell ⟨kk, a, p, s⟩) 37))
      have n0 := Aside0.mk (HM.out.kept (grown_of (below_alloc (Below.refl wr.heap.size wr) (.cells (ecell ⟨kk, a, p, s⟩) 37))) (by simp))
      have n1 := Aside0.mk (below_alloc HB.out (.cells (ecell ⟨kk, a, p, s⟩) 37))
      clear HM HB
      have HM := n0
      have HB := n1
      clear n0 n1
      go_upto_region 5 with (fail)
      generalize wr.alloc (.cells (ecell ⟨kk, a, p, s⟩) 37) = wb at *
      generalize wr.heap.size = gb at *
      have b0 : wb.cell? ⟨gb, 0, none⟩ = some (.int .i64 kk) := (blk_cell HBL.out 0).trans rfl
      have b1 : wb.cell? ⟨gb, 1, none⟩ = some (.int .i64 a) := (blk_cell HBL.out 1).trans rfl
      have b2 : wb.cell? ⟨gb, 2, none⟩ = some (.int .i64 p) := (blk_cell HBL.out 2).trans rfl
      have b3 : wb.cell? ⟨gb, 3, none⟩ = some (.int .i64 s) := (blk_cell HBL.out 3).trans rfl
      clear h0 h1 h2 h3
      cases hk1 : kk == 1 with
      | true =>
        have HK := Aside0.mk (slw_came (D := D) (m := m) (l := l.drop (k + 1)) (show (⟨kk, a, p, s⟩ : Evt).k = 1 from eq_of_beq hk1))
        go_wp2_with (go_at_call 109; (with_reducible refine (puti_any w.heap.size k D (⟨kk, a, p, s⟩ : Evt) a _ HM.out HKN.out HWE.out.1 HWE.out.2.1 HWE.out.2.2).mono ?_); rintro r w8 ⟨rfl, hown, hgr⟩; have HM8 := Aside0.mk hown; have HB8 := Aside0.mk (HB.out.trans (below_of hgr (Nat.le_refl _) HB.out.size)); clear hown hgr)
        go_roundw
        case measure => simp [intOf]; omega
        case rel => exact ⟨k + 1, _, m, by omega, by go_num, rfl, HM8, HB8, ⟨by rw [HEQ.out, HDR.out, HK.out]⟩⟩
      | false =>
        have hne1 : (⟨kk, a, p, s⟩ : Evt).k ≠ 1 := fun e => by rw [show kk = 1 from e] at hk1; cases hk1
        cases hk3 : kk == 3 with
        | true =>
          obtain rfl : kk = 3 := eq_of_beq hk3
          clear hk1 hk3 hne1
          have HKE := Aside0.mk (key_thread p s HWE.out.1 HWE.out.2.1)
          have HE3 := Aside0.mk (show (⟨3, a, p, s⟩ : Evt).k = 3 from rfl)
          cases hh : Maps.has D (ky p s) with
          | true =>
            have HH := Aside0.mk hh
            have HS9 := Aside0.mk (show slw (.map []) 0 l = slw D (max m (wrap64 (a - numD D ⟨3, a, p, s⟩))) (l.drop (k + 1)) from HEQ.out.trans ((congrArg (slw D m) HDR.out).trans (slw_has (e := ⟨3, a, p, s⟩) rfl hh)))
            clear hh
            go_wp2_with (first
              | (go_at_call 108; (with_reducible refine (of_any (⟨3, a, p, s⟩ : Evt) _).mono ?_); rintro r w7 ⟨rfl, hB⟩; have n0 := Aside0.mk (HM.out.kept (grown_of hB) (by simp)); have n1 := Aside0.mk (HB.out.trans (below_sub hB HB.out.size)); have b1 := (blk_cell (blk_below HBL.out hB) 1).trans rfl; clear hB HM HB; have HM := n0; have HB := n1; clear n0 n1)
              | (at_lookup; go_loud (refine wpList_lookup_own_ok_int _ rfl _ _ 150 rfl 100 3 .i64 keyTh Try.underlying150 Try.underlying3 (zeroI _) w.heap.size k D rfl HM.out _ (ky p s) rfl HKE.out ?_); intro x hat hwx; rw [HH.out]; have HAT := Aside0.mk hat; clear hat hwx))
            go_roundw
            case measure => simp [intOf]; omega
            case rel =>
              have hn : numD D ⟨3, a, p, s⟩ = x := by
                show (match D.atKey (ky p s) (.lit (.int .i64 0)) with | .lit (.int _ x) => x | _ => 0) = x
                rw [HAT.out]
              have h9 := HS9.out
              rw [hn] at h9
              refine ⟨k + 1, D, max m (wrap64 (a - x)), by omega, by go_num, ?_, ⟨HM.out.mono (n' := k + 1) (Nat.le_succ k)⟩, HB, ⟨h9⟩⟩
              congr 1
              generalize wrap64 (a - x) = y
              split <;> omega
          | false =>
            have HH := Aside0.mk hh
            have HS9 := Aside0.mk (show slw (.map []) 0 l = slw D m (l.drop (k + 1)) from HEQ.out.trans ((congrArg (slw D m) HDR.out).trans (slw_hasnt (e := ⟨3, a, p, s⟩) rfl hh)))
            clear hh
            go_wp2_with (first
              | (go_at_call 108; (with_reducible refine (of_any (⟨3, a, p, s⟩ : Evt) _).mono ?_); rintro r w7 ⟨rfl, hB⟩; have n0 := Aside0.mk (HM.out.kept (grown_of hB) (by simp)); have n1 := Aside0.mk (HB.out.trans (below_sub hB HB.out.size)); clear hB HM HB; have HM := n0; have HB := n1; clear n0 n1)
              | (at_lookup; go_loud (refine wpList_lookup_own_ok_int _ rfl _ _ 150 rfl 100 3 .i64 keyTh Try.underlying150 Try.underlying3 (zeroI _) w.heap.size k D rfl HM.out _ (ky p s) rfl HKE.out ?_); intro x hat hwx; rw [HH.out]; clear hat hwx))
            go_roundw
            case measure => simp [intOf]; omega
            case rel => exact ⟨k + 1, D, m, by omega, by go_num, rfl, ⟨HM.out.mono (n' := k + 1) (Nat.le_succ k)⟩, HB, HS9⟩
        | false =>
          have HK := Aside0.mk (slw_else (D := D) (m := m) (l := l.drop (k + 1)) hne1 (fun e => by rw [show kk = 3 from e] at hk3; cases hk3))
          clear hne1
          go_wp2
          go_roundw
          case measure => simp [intOf]; omega
          case rel => exact ⟨k + 1, D, m, by omega, by go_num, rfl, ⟨HM.out.mono (n' := k + 1) (Nat.le_succ k)⟩, HB, ⟨by rw [HEQ.out, HDR.out, HK.out]⟩⟩
    · have hkl : k = l.length := by omega
      subst hkl
      have HF := Aside0.mk (show slw (.map []) 0 l = m by rw [HEQ.out, List.drop_length]; rfl)
      go_wp2
      go_ret
      exact ⟨by rw [HF.out]; rfl, HB.out⟩
end Go.Proofs.Ytkepmbkghmkodaa.Tell
