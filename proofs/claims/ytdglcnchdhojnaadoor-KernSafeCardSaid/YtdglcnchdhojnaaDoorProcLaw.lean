/- KernSafe: the walk. -/
import Derived.Test.YtdglcnchdhojnaaDoorProcAlive
namespace Go.Proofs.YtdglcnchdhojnaaDoor.Kern
open Go.RowKit Go.Proofs.YtdglcnchdhojnaaDoorW.PrintWords Go.Proofs.YtdglcnchdhojnaaDoorW.PrintLast Go.Proofs.YtdglcnchdhojnaaDoor.Sig Go.Proofs.YtdglcnchdhojnaaDoor.Base Go.Proofs.YtdglcnchdhojnaaDoor.Seq Go.Maps
set_option linter.unusedVariables false
set_option linter.unusedSimpArgs false
theorem ris_sg (s : Int) (w : World) : Calls Tryd.prog 21 #[.int .i64 s] w fun e w' => e = .returned (.bool (isg s)) ∧ Below w.heap.size w w' := ris_any s w
theorem liv_at {f : Tb} {q : Int} {r : Pr} (h : f q = some r) : liv f q = r.live := by unfold liv; rw [h]
theorem pend_at {f : Tb} {q : Int} {r : Pr} (h : f q = some r) (hl : r.live = true) : pend f q = r.pen := by unfold pend; rw [h]; exact if_pos hl
theorem how_ign {f : Tb} {q s : Int} {r : Pr} (h : f q = some r) (hl : r.live = true) (hi : hs r.ign s = true) : how f q s = 1 := by unfold how; rw [h]; show (if r.live = true then _ else _) = _; rw [if_pos hl, if_pos hi]
set_option maxHeartbeats 8000000 in
set_option maxRecDepth 100000 in
theorem law_none (x : Nat) (s : Int) (k : Int) (w : World) (hx : x < 4294967296) (hk0 : 0 ≤ k) (hk1 : k ≤ 255) (ht : TabB w) (hi : isg s = false) :
    Calls Tryd.prog 3 #[.int .u32 (x : Int), .int .i64 s, .int .u8 k] w fun e w' => e = .returned (.bool true) ∧ Below w.heap.size w w' := by
  have HTB := Aside0.mk ht
  have HX := Aside0.mk hx
  have HB := Aside0.mk (Below.refl w.heap.size w)
  obtain ⟨N, hN⟩ : ∃ N : Nat, k.tmod 10 = (N : Int) := ⟨(k.tmod 10).toNat, by rw [Int.tmod_eq_emod_of_nonneg hk0]; omega⟩
  have hN9 : N ≤ 9 := by rw [Int.tmod_eq_emod_of_nonneg hk0] at hN; omega
  clear ht hx
  go_enter Tryd.func3, Tryd.ntmps3
  go_wp2_with (first
    | (go_at_call 11; (with_reducible refine (kalive_any _ HTB.out).mono ?_); rintro e w1 ⟨rfl, hB⟩; have n0 := Aside0.mk (tabB_below HTB.out hB); have n1 := Aside0.mk (HB.out.trans (below_sub hB HB.out.size)); clear hB HB HTB; have HTB := n0; have HB := n1; clear n0 n1)
    | (go_at_call 12; (with_reducible refine (new_any x _ HX.out HTB.out).mono ?_); rintro e w2 ⟨g, rfl, hT, hB⟩; have HTW := Aside0.mk hT; have HB2 := Aside0.mk hB; clear hT hB)
    | (simp only [hN]))
  rw [chain_one] at HTW
  have HG := Aside0.mk (flt_hs x s)
  generalize flt x = G at *
  have HBS := Aside0.mk (Nat.le_refl w1.heap.size)
  go_loopw [22, 8] (fun v22 v8 wr => ∃ j : Nat, j ≤ N ∧ v22 = .int .i64 (j : Int) ∧ v8 = .int .i64 ((j : Int) + 1) ∧ Aside0 (TW wr w1.heap.size g (chainT (j + 1) G) ((j : Int) + 1) []) ∧ Aside0 (Below w1.heap.size w1 wr)) (fun v22 _ _ => N - (intOf v22).toNat)
  case atStart => exact ⟨0, Nat.zero_le _, rfl, rfl, HTW, HB2⟩
  clear HTW HB2
  obtain ⟨j, hj, rfl, rfl, HTW, HB2⟩ := hrel
  obtain ⟨m, n, D, B, v, hT⟩ := HTW.out
  have HT := Aside0.mk hT
  have HCN := Aside0.mk (And.intro hT.own.size_le hT.cnt)
  have HQ := Aside0.mk (wf_i64 (x := (j : Int) + 1) (by omega) (by omega))
  have HF := Aside0.mk (chain_at (n := j + 1) (G := G) (q := (j : Int) + 1) (by omega) (by omega))
  clear hT HTW
  by_cases hlt : j < N
  · have hw1 : decide ((j : Int) < (N : Int)) = true := decide_eq_true (by omega)
    have HU := Aside0.mk (chain_upd (j + 1) G)
    go_wp2_with (go_at_call 13; go_loud (with_reducible refine (fork_any HT.out ((j : Int) + 1) _ HQ.out HF.out rfl (by omega) (by have := HCN.out.1; have := HCN.out.2; omega)).mono ?_); rintro e w3 ⟨rfl, hT, hB⟩; have HTW := Aside0.mk hT; have n1 := Aside0.mk (HB2.out.trans hB); clear hT hB HB2; have HB2 := n1; clear n1)
    go_roundw
    case measure => simp [intOf]; omega
    case rel =>
      refine ⟨j + 1, by omega, by go_num, rfl, ⟨?_⟩, HB2⟩
      have T := HTW.out
      rw [show (((j + 1 : Nat) : Int)) = (j : Int) + 1 from rfl] at HU
      rw [HU.out] at T
      exact T
  have hw1 : decide ((j : Int) < (N : Int)) = false := decide_eq_false (by omega)
  have hq9 : (j : Int) + 1 ≤ 1000 := by omega
  clear hj HCN
  generalize (j : Int) + 1 = q at *
  generalize chainT (j + 1) G = f at *
  have HB1 := HB
  clear HB
  have HB := HB2
  clear HB2
  have HHS := Aside0.mk (show hs x s = false by unfold hs; rw [hi]; rfl)
  have HFX := Aside0.mk (show fixed s = false by cases h : fx s with
    | true => have := (fx_isg h).1; rw [hi] at this; cases this
    | false => exact h)
  have HIS := Aside0.mk hi
  have HL := Aside0.mk (liv_at HF.out)
  have HD := Aside0.mk (endd_dead_at (st := bits .and .i64 3 255) HF.out)
  have HDP := Aside0.mk (pend_off HD.out)
  go_wp2_with (first
    | (go_at_call 14; (with_reducible refine (has_any x s _ HX.out).mono ?_); rintro e w9 ⟨rfl, hB⟩; rw [HHS.out]; have n0 := Aside0.mk (HT.out.below hB); have n1 := Aside0.mk (HB.out.trans (below_sub hB (Nat.le_trans HBS.out HB.out.size))); clear hB HB HT; have HT := n0; have HB := n1; clear n0 n1)
    | (go_at_call 15; (with_reducible refine (sfixed_any s _).mono ?_); rintro e w9 ⟨rfl, hB⟩; rw [HFX.out]; have n0 := Aside0.mk (HT.out.below hB); have n1 := Aside0.mk (HB.out.trans (below_sub hB (Nat.le_trans HBS.out HB.out.size))); clear hB HB HT; have HT := n0; have HB := n1; clear n0 n1)
    | (go_at_call 21; (with_reducible refine (ris_sg s _).mono ?_); rintro e w9 ⟨rfl, hB⟩; rw [HIS.out]; have n0 := Aside0.mk (HT.out.below hB); have n1 := Aside0.mk (HB.out.trans (below_sub hB (Nat.le_trans HBS.out HB.out.size))); clear hB HB HT; have HT := n0; have HB := n1; clear n0 n1)
    | (go_at_call 17; (with_reducible refine (liv_any HT.out q HQ.out).mono ?_); rintro e w9 ⟨rfl, rfl⟩; rw [HL.out])
    | (go_at_call 22; (with_reducible refine (exit_any HT.out q 3 _ HQ.out HF.out rfl (by decide)).mono ?_); rintro e w9 ⟨rfl, hT, hB⟩; obtain ⟨m9, n9, D9, B9, v9, hT9⟩ := hT; have n0 := Aside0.mk hT9; have n1 := Aside0.mk (HB.out.trans hB); clear hB HB HT hT9; have HT := n0; have HB := n1; clear n0 n1; skip)
    | (go_at_call 17; (with_reducible refine (liv_any HT.out q HQ.out).mono ?_); rintro e w9 ⟨rfl, rfl⟩; rw [HD.out])
    | (go_at_call 16; (with_reducible refine (sendno_any HT.out q s HQ.out HD.out).mono ?_); rintro e w9 ⟨rfl, rfl⟩)
    | (go_at_call 19; (with_reducible refine (pend_any HT.out q HQ.out).mono ?_); rintro e w9 ⟨rfl, rfl⟩; rw [HDP.out]))
  go_ret
  exact ⟨rfl, HB1.out.trans (below_sub HB.out HB1.out.size)⟩
set_option maxHeartbeats 8000000 in
set_option maxRecDepth 100000 in
theorem law_fixed (x : Nat) (s : Int) (k : Int) (w : World) (hx : x < 4294967296) (hk0 : 0 ≤ k) (hk1 : k ≤ 255) (ht : TabB w) (hf : fx s = true) :
    Calls Tryd.prog 3 #[.int .u32 (x : Int), .int .i64 s, .int .u8 k] w fun e w' => e = .returned (.bool true) ∧ Below w.heap.size w w' := by
  have HTB := Aside0.mk ht
  have HX := Aside0.mk hx
  have HB := Aside0.mk (Below.refl w.heap.size w)
  obtain ⟨N, hN⟩ : ∃ N : Nat, k.tmod 10 = (N : Int) := ⟨(k.tmod 10).toNat, by rw [Int.tmod_eq_emod_of_nonneg hk0]; omega⟩
  have hN9 : N ≤ 9 := by rw [Int.tmod_eq_emod_of_nonneg hk0] at hN; omega
  clear ht hx
  go_enter Tryd.func3, Tryd.ntmps3
  go_wp2_with (first
    | (go_at_call 11; (with_reducible refine (kalive_any _ HTB.out).mono ?_); rintro e w1 ⟨rfl, hB⟩; have n0 := Aside0.mk (tabB_below HTB.out hB); have n1 := Aside0.mk (HB.out.trans (below_sub hB HB.out.size)); clear hB HB HTB; have HTB := n0; have HB := n1; clear n0 n1)
    | (go_at_call 12; (with_reducible refine (new_any x _ HX.out HTB.out).mono ?_); rintro e w2 ⟨g, rfl, hT, hB⟩; have HTW := Aside0.mk hT; have HB2 := Aside0.mk hB; clear hT hB)
    | (simp only [hN]))
  rw [chain_one] at HTW
  have HG := Aside0.mk (flt_hs x s)
  generalize flt x = G at *
  have HBS := Aside0.mk (Nat.le_refl w1.heap.size)
  go_loopw [22, 8] (fun v22 v8 wr => ∃ j : Nat, j ≤ N ∧ v22 = .int .i64 (j : Int) ∧ v8 = .int .i64 ((j : Int) + 1) ∧ Aside0 (TW wr w1.heap.size g (chainT (j + 1) G) ((j : Int) + 1) []) ∧ Aside0 (Below w1.heap.size w1 wr)) (fun v22 _ _ => N - (intOf v22).toNat)
  case atStart => exact ⟨0, Nat.zero_le _, rfl, rfl, HTW, HB2⟩
  clear HTW HB2
  obtain ⟨j, hj, rfl, rfl, HTW, HB2⟩ := hrel
  obtain ⟨m, n, D, B, v, hT⟩ := HTW.out
  have HT := Aside0.mk hT
  have HCN := Aside0.mk (And.intro hT.own.size_le hT.cnt)
  have HQ := Aside0.mk (wf_i64 (x := (j : Int) + 1) (by omega) (by omega))
  have HF := Aside0.mk (chain_at (n := j + 1) (G := G) (q := (j : Int) + 1) (by omega) (by omega))
  clear hT HTW
  by_cases hlt : j < N
  · have hw1 : decide ((j : Int) < (N : Int)) = true := decide_eq_true (by omega)
    have HU := Aside0.mk (chain_upd (j + 1) G)
    go_wp2_with (go_at_call 13; go_loud (with_reducible refine (fork_any HT.out ((j : Int) + 1) _ HQ.out HF.out rfl (by omega) (by have := HCN.out.1; have := HCN.out.2; omega)).mono ?_); rintro e w3 ⟨rfl, hT, hB⟩; have HTW := Aside0.mk hT; have n1 := Aside0.mk (HB2.out.trans hB); clear hT hB HB2; have HB2 := n1; clear n1)
    go_roundw
    case measure => simp [intOf]; omega
    case rel =>
      refine ⟨j + 1, by omega, by go_num, rfl, ⟨?_⟩, HB2⟩
      have T := HTW.out
      rw [show (((j + 1 : Nat) : Int)) = (j : Int) + 1 from rfl] at HU
      rw [HU.out] at T
      exact T
  have hw1 : decide ((j : Int) < (N : Int)) = false := decide_eq_false (by omega)
  have hq9 : (j : Int) + 1 ≤ 1000 := by omega
  clear hj HCN
  generalize (j : Int) + 1 = q at *
  generalize chainT (j + 1) G = f at *
  have HB1 := HB
  clear HB
  have HB := HB2
  clear HB2
  have HHS := Aside0.mk (rfl : hs x s = hs x s)
  have HFX := Aside0.mk (show fixed s = true from hf)
  have HI2 := Aside0.mk (fx_isg hf).1
  have HM2 := Aside0.mk (fx_isg hf).2
  have HIS := HI2
  have HF2 := Aside0.mk hf
  have HHG := Aside0.mk (show hs G s = false by rw [HG.out, hf]; exact Bool.and_false _)
  have HL := Aside0.mk (liv_at HF.out)
  have HD := Aside0.mk (endd_dead_at (st := 128 + s) HF.out)
  have HDP := Aside0.mk (pend_off HD.out)
  clear hf
  cases hxs : hs x s with
  | true =>
    go_wp2_with (first
      | (go_at_call 14; (with_reducible refine (has_any x s _ HX.out).mono ?_); rintro e w9 ⟨rfl, hB⟩; rw [hxs]; have n0 := Aside0.mk (HT.out.below hB); have n1 := Aside0.mk (HB.out.trans (below_sub hB (Nat.le_trans HBS.out HB.out.size))); clear hB HB HT; have HT := n0; have HB := n1; clear n0 n1)
      | (go_at_call 15; (with_reducible refine (sfixed_any s _).mono ?_); rintro e w9 ⟨rfl, hB⟩; rw [HFX.out]; have n0 := Aside0.mk (HT.out.below hB); have n1 := Aside0.mk (HB.out.trans (below_sub hB (Nat.le_trans HBS.out HB.out.size))); clear hB HB HT; have HT := n0; have HB := n1; clear n0 n1)
      | (go_at_call 20; (with_reducible refine (putno_any HT.out q s 1 HQ.out HL.out HI2.out HF2.out).mono ?_); rintro e w9 ⟨rfl, hB⟩; have n0 := Aside0.mk (HT.out.below hB); have n1 := Aside0.mk (HB.out.trans (below_sub hB (Nat.le_trans HBS.out HB.out.size))); clear hB HB HT; have HT := n0; have HB := n1; clear n0 n1)
      | (go_at_call 20; (with_reducible refine (putno_any HT.out q s 2 HQ.out HL.out HI2.out HF2.out).mono ?_); rintro e w9 ⟨rfl, hB⟩; have n0 := Aside0.mk (HT.out.below hB); have n1 := Aside0.mk (HB.out.trans (below_sub hB (Nat.le_trans HBS.out HB.out.size))); clear hB HB HT; have HT := n0; have HB := n1; clear n0 n1)
      | (go_at_call 16; (with_reducible refine (send_end HT.out q s _ HQ.out HF.out rfl HI2.out HHG.out (hs_zero s) HM2.out (by decide)).mono ?_); rintro e w9 ⟨rfl, hT, hB⟩; obtain ⟨m9, n9, D9, B9, v9, hT9⟩ := hT; have n0 := Aside0.mk hT9; have n1 := Aside0.mk (HB.out.trans hB); clear hB HB HT hT9; have HT := n0; have HB := n1; clear n0 n1; skip)
      | (go_at_call 17; (with_reducible refine (liv_any HT.out q HQ.out).mono ?_); rintro e w9 ⟨rfl, rfl⟩; rw [HD.out])
      | (go_at_call 21; (with_reducible refine (ris_sg s _).mono ?_); rintro e w9 ⟨rfl, hB⟩; rw [HIS.out]; have n0 := Aside0.mk (HT.out.below hB); have n1 := Aside0.mk (HB.out.trans (below_sub hB (Nat.le_trans HBS.out HB.out.size))); clear hB HB HT; have HT := n0; have HB := n1; clear n0 n1)
      | (go_at_call 22; (with_reducible refine (exitno_any HT.out q 3 HQ.out HD.out).mono ?_); rintro e w9 ⟨rfl, rfl⟩)
      | (go_at_call 16; (with_reducible refine (sendno_any HT.out q s HQ.out HD.out).mono ?_); rintro e w9 ⟨rfl, rfl⟩)
      | (go_at_call 19; (with_reducible refine (pend_any HT.out q HQ.out).mono ?_); rintro e w9 ⟨rfl, rfl⟩; rw [HDP.out]))
    go_ret
    exact ⟨rfl, HB1.out.trans (below_sub HB.out HB1.out.size)⟩
  | false =>
    go_wp2_with (first
      | (go_at_call 14; (with_reducible refine (has_any x s _ HX.out).mono ?_); rintro e w9 ⟨rfl, hB⟩; rw [hxs]; have n0 := Aside0.mk (HT.out.below hB); have n1 := Aside0.mk (HB.out.trans (below_sub hB (Nat.le_trans HBS.out HB.out.size))); clear hB HB HT; have HT := n0; have HB := n1; clear n0 n1)
      | (go_at_call 15; (with_reducible refine (sfixed_any s _).mono ?_); rintro e w9 ⟨rfl, hB⟩; rw [HFX.out]; have n0 := Aside0.mk (HT.out.below hB); have n1 := Aside0.mk (HB.out.trans (below_sub hB (Nat.le_trans HBS.out HB.out.size))); clear hB HB HT; have HT := n0; have HB := n1; clear n0 n1)
      | (go_at_call 20; (with_reducible refine (putno_any HT.out q s 1 HQ.out HL.out HI2.out HF2.out).mono ?_); rintro e w9 ⟨rfl, hB⟩; have n0 := Aside0.mk (HT.out.below hB); have n1 := Aside0.mk (HB.out.trans (below_sub hB (Nat.le_trans HBS.out HB.out.size))); clear hB HB HT; have HT := n0; have HB := n1; clear n0 n1)
      | (go_at_call 20; (with_reducible refine (putno_any HT.out q s 2 HQ.out HL.out HI2.out HF2.out).mono ?_); rintro e w9 ⟨rfl, hB⟩; have n0 := Aside0.mk (HT.out.below hB); have n1 := Aside0.mk (HB.out.trans (below_sub hB (Nat.le_trans HBS.out HB.out.size))); clear hB HB HT; have HT := n0; have HB := n1; clear n0 n1)
      | (go_at_call 16; (with_reducible refine (send_end HT.out q s _ HQ.out HF.out rfl HI2.out HHG.out (hs_zero s) HM2.out (by decide)).mono ?_); rintro e w9 ⟨rfl, hT, hB⟩; obtain ⟨m9, n9, D9, B9, v9, hT9⟩ := hT; have n0 := Aside0.mk hT9; have n1 := Aside0.mk (HB.out.trans hB); clear hB HB HT hT9; have HT := n0; have HB := n1; clear n0 n1; skip)
      | (go_at_call 17; (with_reducible refine (liv_any HT.out q HQ.out).mono ?_); rintro e w9 ⟨rfl, rfl⟩; rw [HD.out])
      | (go_at_call 21; (with_reducible refine (ris_sg s _).mono ?_); rintro e w9 ⟨rfl, hB⟩; rw [HIS.out]; have n0 := Aside0.mk (HT.out.below hB); have n1 := Aside0.mk (HB.out.trans (below_sub hB (Nat.le_trans HBS.out HB.out.size))); clear hB HB HT; have HT := n0; have HB := n1; clear n0 n1)
      | (go_at_call 22; (with_reducible refine (exitno_any HT.out q 3 HQ.out HD.out).mono ?_); rintro e w9 ⟨rfl, rfl⟩)
      | (go_at_call 16; (with_reducible refine (sendno_any HT.out q s HQ.out HD.out).mono ?_); rintro e w9 ⟨rfl, rfl⟩)
      | (go_at_call 19; (with_reducible refine (pend_any HT.out q HQ.out).mono ?_); rintro e w9 ⟨rfl, rfl⟩; rw [HDP.out]))
    go_ret
    exact ⟨rfl, HB1.out.trans (below_sub HB.out HB1.out.size)⟩
set_option maxHeartbeats 8000000 in
set_option maxRecDepth 100000 in
theorem law_ign (x : Nat) (s : Int) (k : Int) (w : World) (hx : x < 4294967296) (hk0 : 0 ≤ k) (hk1 : k ≤ 255) (ht : TabB w) (hf : fx s = false) (hi : isg s = true) (hg : hs x s = true) :
    Calls Tryd.prog 3 #[.int .u32 (x : Int), .int .i64 s, .int .u8 k] w fun e w' => e = .returned (.bool true) ∧ Below w.heap.size w w' := by
  have HTB := Aside0.mk ht
  have HX := Aside0.mk hx
  have HB := Aside0.mk (Below.refl w.heap.size w)
  obtain ⟨N, hN⟩ : ∃ N : Nat, k.tmod 10 = (N : Int) := ⟨(k.tmod 10).toNat, by rw [Int.tmod_eq_emod_of_nonneg hk0]; omega⟩
  have hN9 : N ≤ 9 := by rw [Int.tmod_eq_emod_of_nonneg hk0] at hN; omega
  clear ht hx
  go_enter Tryd.func3, Tryd.ntmps3
  go_wp2_with (first
    | (go_at_call 11; (with_reducible refine (kalive_any _ HTB.out).mono ?_); rintro e w1 ⟨rfl, hB⟩; have n0 := Aside0.mk (tabB_below HTB.out hB); have n1 := Aside0.mk (HB.out.trans (below_sub hB HB.out.size)); clear hB HB HTB; have HTB := n0; have HB := n1; clear n0 n1)
    | (go_at_call 12; (with_reducible refine (new_any x _ HX.out HTB.out).mono ?_); rintro e w2 ⟨g, rfl, hT, hB⟩; have HTW := Aside0.mk hT; have HB2 := Aside0.mk hB; clear hT hB)
    | (simp only [hN]))
  rw [chain_one] at HTW
  have HG := Aside0.mk (flt_hs x s)
  generalize flt x = G at *
  have HBS := Aside0.mk (Nat.le_refl w1.heap.size)
  go_loopw [22, 8] (fun v22 v8 wr => ∃ j : Nat, j ≤ N ∧ v22 = .int .i64 (j : Int) ∧ v8 = .int .i64 ((j : Int) + 1) ∧ Aside0 (TW wr w1.heap.size g (chainT (j + 1) G) ((j : Int) + 1) []) ∧ Aside0 (Below w1.heap.size w1 wr)) (fun v22 _ _ => N - (intOf v22).toNat)
  case atStart => exact ⟨0, Nat.zero_le _, rfl, rfl, HTW, HB2⟩
  clear HTW HB2
  obtain ⟨j, hj, rfl, rfl, HTW, HB2⟩ := hrel
  obtain ⟨m, n, D, B, v, hT⟩ := HTW.out
  have HT := Aside0.mk hT
  have HCN := Aside0.mk (And.intro hT.own.size_le hT.cnt)
  have HQ := Aside0.mk (wf_i64 (x := (j : Int) + 1) (by omega) (by omega))
  have HF := Aside0.mk (chain_at (n := j + 1) (G := G) (q := (j : Int) + 1) (by omega) (by omega))
  clear hT HTW
  by_cases hlt : j < N
  · have hw1 : decide ((j : Int) < (N : Int)) = true := decide_eq_true (by omega)
    have HU := Aside0.mk (chain_upd (j + 1) G)
    go_wp2_with (go_at_call 13; go_loud (with_reducible refine (fork_any HT.out ((j : Int) + 1) _ HQ.out HF.out rfl (by omega) (by have := HCN.out.1; have := HCN.out.2; omega)).mono ?_); rintro e w3 ⟨rfl, hT, hB⟩; have HTW := Aside0.mk hT; have n1 := Aside0.mk (HB2.out.trans hB); clear hT hB HB2; have HB2 := n1; clear n1)
    go_roundw
    case measure => simp [intOf]; omega
    case rel =>
      refine ⟨j + 1, by omega, by go_num, rfl, ⟨?_⟩, HB2⟩
      have T := HTW.out
      rw [show (((j + 1 : Nat) : Int)) = (j : Int) + 1 from rfl] at HU
      rw [HU.out] at T
      exact T
  have hw1 : decide ((j : Int) < (N : Int)) = false := decide_eq_false (by omega)
  have hq9 : (j : Int) + 1 ≤ 1000 := by omega
  clear hj HCN
  generalize (j : Int) + 1 = q at *
  generalize chainT (j + 1) G = f at *
  have HB1 := HB
  clear HB
  have HB := HB2
  clear HB2
  have HHS := Aside0.mk hg
  have HFX := Aside0.mk (show fixed s = false from hf)
  have HI2 := Aside0.mk hi
  have HIS := HI2
  have HF2 := Aside0.mk hf
  have HHG := Aside0.mk (show hs G s = true by rw [HG.out, hf, hg]; rfl)
  have HL := Aside0.mk (liv_at HF.out)
  have HP0 := Aside0.mk (pend_at HF.out rfl)
  have HOW := Aside0.mk (how_ign (s := s) HF.out rfl HHG.out)
  obtain ⟨r1, hr1⟩ : ∃ r1 : Pr, r1 = putR ⟨q - 1, true, 0, G, 0, 0⟩ s 2 := ⟨_, rfl⟩
  have e1 : r1 = ⟨q - 1, true, 0, wto G s, wth (wto 0 s) s, 0⟩ := by rw [hr1]; rfl
  obtain ⟨f1, hf1⟩ : ∃ f1 : Tb, f1 = upd f q (some r1) := ⟨_, rfl⟩
  have HF1 := Aside0.mk (show f1 q = some r1 by rw [hf1]; exact upd_same _ _ _)
  have HE1 := Aside0.mk (show upd f q (some (putR ⟨q - 1, true, 0, G, 0, 0⟩ s 2)) = f1 by rw [hf1, hr1])
  have HA1 := Aside0.mk (show hs r1.ign s = false by rw [e1]; exact wto_hs G s)
  have HA2 := Aside0.mk (show hs r1.ca s = true by rw [e1]; exact (wth_hs _ s).trans hi)
  have HV1 := Aside0.mk (show r1.live = true by rw [e1])
  obtain ⟨r2, hr2⟩ : ∃ r2 : Pr, r2 = { r1 with pen := wth r1.pen s } := ⟨_, rfl⟩
  have e2 : r2.pen = wth 0 s := by rw [hr2, e1]
  obtain ⟨f2, hf2⟩ : ∃ f2 : Tb, f2 = upd f1 q (some r2) := ⟨_, rfl⟩
  have HF2' := Aside0.mk (show f2 q = some r2 by rw [hf2]; exact upd_same _ _ _)
  have HE2 := Aside0.mk (show upd f1 q (some { r1 with pen := wth r1.pen s }) = f2 by rw [hf2, hr2])
  have HV2 := Aside0.mk (show r2.live = true by rw [hr2, e1])
  have HP2 := Aside0.mk (show pend f2 q = wth 0 s by rw [pend_at HF2'.out HV2.out, e2])
  have HQ2 := Aside0.mk (show hs (wth 0 s) s = true from (wth_hs 0 s).trans hi)
  have HW2 := Aside0.mk (wth_lt (x := 0) s (by decide))
  obtain ⟨r3, hr3⟩ : ∃ r3 : Pr, r3 = putR r2 s 0 := ⟨_, rfl⟩
  have e3 : r3.pen = 0 := by rw [hr3]; show wto r2.pen s = 0; rw [e2]; exact wto_wth s hi
  have HV3 := Aside0.mk (show r3.live = true by rw [hr3]; exact HV2.out)
  obtain ⟨f3, hf3⟩ : ∃ f3 : Tb, f3 = upd f2 q (some r3) := ⟨_, rfl⟩
  have HF3 := Aside0.mk (show f3 q = some r3 by rw [hf3]; exact upd_same _ _ _)
  have HE3 := Aside0.mk (show upd f2 q (some (putR r2 s 0)) = f3 by rw [hf3, hr3])
  have HP3 := Aside0.mk (show pend f3 q = 0 by rw [pend_at HF3.out HV3.out, e3])
  have HL3 := Aside0.mk (show liv f3 q = true by rw [liv_at HF3.out]; exact HV3.out)
  have HD := Aside0.mk (endd_dead_at (st := bits .and .i64 3 255) HF3.out)
  have HDP := Aside0.mk (pend_off HD.out)
  clear hf hi hg hr1 e1 hf1 hr2 e2 hf2 hr3 e3 hf3
  go_wp2_with (first
    | (go_at_call 14; (with_reducible refine (has_any x s _ HX.out).mono ?_); rintro e w9 ⟨rfl, hB⟩; rw [HHS.out]; have n0 := Aside0.mk (HT.out.below hB); have n1 := Aside0.mk (HB.out.trans (below_sub hB (Nat.le_trans HBS.out HB.out.size))); clear hB HB HT; have HT := n0; have HB := n1; clear n0 n1)
    | (go_at_call 15; (with_reducible refine (sfixed_any s _).mono ?_); rintro e w9 ⟨rfl, hB⟩; rw [HFX.out]; have n0 := Aside0.mk (HT.out.below hB); have n1 := Aside0.mk (HB.out.trans (below_sub hB (Nat.le_trans HBS.out HB.out.size))); clear hB HB HT; have HT := n0; have HB := n1; clear n0 n1)
    | (go_at_call 16; (with_reducible refine (send_ign HT.out q s _ HQ.out HF.out rfl HI2.out HHG.out).mono ?_); rintro e w9 ⟨rfl, hB⟩; have n0 := Aside0.mk (HT.out.below hB); have n1 := Aside0.mk (HB.out.trans (below_sub hB (Nat.le_trans HBS.out HB.out.size))); clear hB HB HT; have HT := n0; have HB := n1; clear n0 n1)
    | (go_at_call 17; (with_reducible refine (liv_any HT.out q HQ.out).mono ?_); rintro e w9 ⟨rfl, rfl⟩; rw [HL.out])
    | (go_at_call 18; (with_reducible refine (how_any HT.out q s HQ.out).mono ?_); rintro e w9 ⟨rfl, hB⟩; rw [HOW.out]; have n0 := Aside0.mk (HT.out.below hB); have n1 := Aside0.mk (HB.out.trans (below_sub hB (Nat.le_trans HBS.out HB.out.size))); clear hB HB HT; have HT := n0; have HB := n1; clear n0 n1)
    | (go_at_call 19; (with_reducible refine (pend_any HT.out q HQ.out).mono ?_); rintro e w9 ⟨rfl, rfl⟩; rw [HP0.out])
    | (go_at_call 21; (with_reducible refine (ris_sg s _).mono ?_); rintro e w9 ⟨rfl, hB⟩; rw [HIS.out]; have n0 := Aside0.mk (HT.out.below hB); have n1 := Aside0.mk (HB.out.trans (below_sub hB (Nat.le_trans HBS.out HB.out.size))); clear hB HB HT; have HT := n0; have HB := n1; clear n0 n1)
    | (go_at_call 20; (with_reducible refine (put2_any HT.out q s _ HQ.out HF.out rfl HI2.out HF2.out).mono ?_); rintro e w9 ⟨rfl, hT, hB⟩; rw [HE1.out] at hT; obtain ⟨m9, n9, D9, B9, v9, hT9⟩ := hT; have n0 := Aside0.mk hT9; have n1 := Aside0.mk (HB.out.trans hB); clear hB HB HT hT9; have HT := n0; have HB := n1; clear n0 n1)
    | (go_at_call 16; (with_reducible refine (send_ca HT.out q s r1 HQ.out HF1.out HV1.out HI2.out HA1.out HA2.out).mono ?_); rintro e w9 ⟨rfl, hT, hB⟩; rw [HE2.out] at hT; obtain ⟨m9, n9, D9, B9, v9, hT9⟩ := hT; have n0 := Aside0.mk hT9; have n1 := Aside0.mk (HB.out.trans hB); clear hB HB HT hT9; have HT := n0; have HB := n1; clear n0 n1)
    | (go_at_call 19; (with_reducible refine (pend_any HT.out q HQ.out).mono ?_); rintro e w9 ⟨rfl, rfl⟩; rw [HP2.out])
    | (go_at_call 14; (with_reducible refine (has_any (wth 0 s) s _ HW2.out).mono ?_); rintro e w9 ⟨rfl, hB⟩; rw [HQ2.out]; have n0 := Aside0.mk (HT.out.below hB); have n1 := Aside0.mk (HB.out.trans (below_sub hB (Nat.le_trans HBS.out HB.out.size))); clear hB HB HT; have HT := n0; have HB := n1; clear n0 n1)
    | (go_at_call 20; (with_reducible refine (put0_any HT.out q s r2 HQ.out HF2'.out HV2.out HI2.out HF2.out).mono ?_); rintro e w9 ⟨rfl, hT, hB⟩; rw [HE3.out] at hT; obtain ⟨m9, n9, D9, B9, v9, hT9⟩ := hT; have n0 := Aside0.mk hT9; have n1 := Aside0.mk (HB.out.trans hB); clear hB HB HT hT9; have HT := n0; have HB := n1; clear n0 n1)
    | (go_at_call 19; (with_reducible refine (pend_any HT.out q HQ.out).mono ?_); rintro e w9 ⟨rfl, rfl⟩; rw [HP3.out])
    | (go_at_call 17; (with_reducible refine (liv_any HT.out q HQ.out).mono ?_); rintro e w9 ⟨rfl, rfl⟩; rw [HL3.out])
    | (go_at_call 22; (with_reducible refine (exit_any HT.out q 3 r3 HQ.out HF3.out HV3.out (by decide)).mono ?_); rintro e w9 ⟨rfl, hT, hB⟩; obtain ⟨m9, n9, D9, B9, v9, hT9⟩ := hT; have n0 := Aside0.mk hT9; have n1 := Aside0.mk (HB.out.trans hB); clear hB HB HT hT9; have HT := n0; have HB := n1; clear n0 n1; skip)
    | (go_at_call 17; (with_reducible refine (liv_any HT.out q HQ.out).mono ?_); rintro e w9 ⟨rfl, rfl⟩; rw [HD.out])
    | (go_at_call 16; (with_reducible refine (sendno_any HT.out q s HQ.out HD.out).mono ?_); rintro e w9 ⟨rfl, rfl⟩)
    | (go_at_call 19; (with_reducible refine (pend_any HT.out q HQ.out).mono ?_); rintro e w9 ⟨rfl, rfl⟩; rw [HDP.out]))
  go_ret
  exact ⟨rfl, HB1.out.trans (below_sub HB.out HB1.out.size)⟩
set_option maxHeartbeats 8000000 in
set_option maxRecDepth 100000 in
theorem law_not (x : Nat) (s : Int) (k : Int) (w : World) (hx : x < 4294967296) (hk0 : 0 ≤ k) (hk1 : k ≤ 255) (ht : TabB w) (hf : fx s = false) (hi : isg s = true) (hg : hs x s = false) :
    Calls Tryd.prog 3 #[.int .u32 (x : Int), .int .i64 s, .int .u8 k] w fun e w' => e = .returned (.bool true) ∧ Below w.heap.size w w' := by
  have HTB := Aside0.mk ht
  have HX := Aside0.mk hx
  have HB := Aside0.mk (Below.refl w.heap.size w)
  obtain ⟨N, hN⟩ : ∃ N : Nat, k.tmod 10 = (N : Int) := ⟨(k.tmod 10).toNat, by rw [Int.tmod_eq_emod_of_nonneg hk0]; omega⟩
  have hN9 : N ≤ 9 := by rw [Int.tmod_eq_emod_of_nonneg hk0] at hN; omega
  clear ht hx
  go_enter Tryd.func3, Tryd.ntmps3
  go_wp2_with (first
    | (go_at_call 11; (with_reducible refine (kalive_any _ HTB.out).mono ?_); rintro e w1 ⟨rfl, hB⟩; have n0 := Aside0.mk (tabB_below HTB.out hB); have n1 := Aside0.mk (HB.out.trans (below_sub hB HB.out.size)); clear hB HB HTB; have HTB := n0; have HB := n1; clear n0 n1)
    | (go_at_call 12; (with_reducible refine (new_any x _ HX.out HTB.out).mono ?_); rintro e w2 ⟨g, rfl, hT, hB⟩; have HTW := Aside0.mk hT; have HB2 := Aside0.mk hB; clear hT hB)
    | (simp only [hN]))
  rw [chain_one] at HTW
  have HG := Aside0.mk (flt_hs x s)
  generalize flt x = G at *
  have HBS := Aside0.mk (Nat.le_refl w1.heap.size)
  go_loopw [22, 8] (fun v22 v8 wr => ∃ j : Nat, j ≤ N ∧ v22 = .int .i64 (j : Int) ∧ v8 = .int .i64 ((j : Int) + 1) ∧ Aside0 (TW wr w1.heap.size g (chainT (j + 1) G) ((j : Int) + 1) []) ∧ Aside0 (Below w1.heap.size w1 wr)) (fun v22 _ _ => N - (intOf v22).toNat)
  case atStart => exact ⟨0, Nat.zero_le _, rfl, rfl, HTW, HB2⟩
  clear HTW HB2
  obtain ⟨j, hj, rfl, rfl, HTW, HB2⟩ := hrel
  obtain ⟨m, n, D, B, v, hT⟩ := HTW.out
  have HT := Aside0.mk hT
  have HCN := Aside0.mk (And.intro hT.own.size_le hT.cnt)
  have HQ := Aside0.mk (wf_i64 (x := (j : Int) + 1) (by omega) (by omega))
  have HF := Aside0.mk (chain_at (n := j + 1) (G := G) (q := (j : Int) + 1) (by omega) (by omega))
  clear hT HTW
  by_cases hlt : j < N
  · have hw1 : decide ((j : Int) < (N : Int)) = true := decide_eq_true (by omega)
    have HU := Aside0.mk (chain_upd (j + 1) G)
    go_wp2_with (go_at_call 13; go_loud (with_reducible refine (fork_any HT.out ((j : Int) + 1) _ HQ.out HF.out rfl (by omega) (by have := HCN.out.1; have := HCN.out.2; omega)).mono ?_); rintro e w3 ⟨rfl, hT, hB⟩; have HTW := Aside0.mk hT; have n1 := Aside0.mk (HB2.out.trans hB); clear hT hB HB2; have HB2 := n1; clear n1)
    go_roundw
    case measure => simp [intOf]; omega
    case rel =>
      refine ⟨j + 1, by omega, by go_num, rfl, ⟨?_⟩, HB2⟩
      have T := HTW.out
      rw [show (((j + 1 : Nat) : Int)) = (j : Int) + 1 from rfl] at HU
      rw [HU.out] at T
      exact T
  have hw1 : decide ((j : Int) < (N : Int)) = false := decide_eq_false (by omega)
  have hq9 : (j : Int) + 1 ≤ 1000 := by omega
  clear hj HCN
  generalize (j : Int) + 1 = q at *
  generalize chainT (j + 1) G = f at *
  have HB1 := HB
  clear HB
  have HB := HB2
  clear HB2
  have HHS := Aside0.mk hg
  have HFX := Aside0.mk (show fixed s = false from hf)
  have HI2 := Aside0.mk hi
  have HIS := HI2
  have HF2 := Aside0.mk hf
  have HHG := Aside0.mk (show hs G s = false by rw [HG.out, hf, hg]; rfl)
  have HL := Aside0.mk (liv_at HF.out)
  have HP0 := Aside0.mk (pend_at HF.out rfl)
  obtain ⟨r1, hr1⟩ : ∃ r1 : Pr, r1 = putR ⟨q - 1, true, 0, G, 0, 0⟩ s 2 := ⟨_, rfl⟩
  have e1 : r1 = ⟨q - 1, true, 0, wto G s, wth (wto 0 s) s, 0⟩ := by rw [hr1]; rfl
  obtain ⟨f1, hf1⟩ : ∃ f1 : Tb, f1 = upd f q (some r1) := ⟨_, rfl⟩
  have HF1 := Aside0.mk (show f1 q = some r1 by rw [hf1]; exact upd_same _ _ _)
  have HE1 := Aside0.mk (show upd f q (some (putR ⟨q - 1, true, 0, G, 0, 0⟩ s 2)) = f1 by rw [hf1, hr1])
  have HA1 := Aside0.mk (show hs r1.ign s = false by rw [e1]; exact wto_hs G s)
  have HA2 := Aside0.mk (show hs r1.ca s = true by rw [e1]; exact (wth_hs _ s).trans hi)
  have HV1 := Aside0.mk (show r1.live = true by rw [e1])
  obtain ⟨r2, hr2⟩ : ∃ r2 : Pr, r2 = { r1 with pen := wth r1.pen s } := ⟨_, rfl⟩
  have e2 : r2.pen = wth 0 s := by rw [hr2, e1]
  obtain ⟨f2, hf2⟩ : ∃ f2 : Tb, f2 = upd f1 q (some r2) := ⟨_, rfl⟩
  have HF2' := Aside0.mk (show f2 q = some r2 by rw [hf2]; exact upd_same _ _ _)
  have HE2 := Aside0.mk (show upd f1 q (some { r1 with pen := wth r1.pen s }) = f2 by rw [hf2, hr2])
  have HV2 := Aside0.mk (show r2.live = true by rw [hr2, e1])
  have HP2 := Aside0.mk (show pend f2 q = wth 0 s by rw [pend_at HF2'.out HV2.out, e2])
  have HQ2 := Aside0.mk (show hs (wth 0 s) s = true from (wth_hs 0 s).trans hi)
  have HW2 := Aside0.mk (wth_lt (x := 0) s (by decide))
  obtain ⟨r3, hr3⟩ : ∃ r3 : Pr, r3 = putR r2 s 0 := ⟨_, rfl⟩
  have e3 : r3.pen = 0 := by rw [hr3]; show wto r2.pen s = 0; rw [e2]; exact wto_wth s hi
  have HV3 := Aside0.mk (show r3.live = true by rw [hr3]; exact HV2.out)
  obtain ⟨f3, hf3⟩ : ∃ f3 : Tb, f3 = upd f2 q (some r3) := ⟨_, rfl⟩
  have HF3 := Aside0.mk (show f3 q = some r3 by rw [hf3]; exact upd_same _ _ _)
  have HE3 := Aside0.mk (show upd f2 q (some (putR r2 s 0)) = f3 by rw [hf3, hr3])
  have HP3 := Aside0.mk (show pend f3 q = 0 by rw [pend_at HF3.out HV3.out, e3])
  have HL3 := Aside0.mk (show liv f3 q = true by rw [liv_at HF3.out]; exact HV3.out)
  have HD := Aside0.mk (endd_dead_at (st := bits .and .i64 3 255) HF3.out)
  have HDP := Aside0.mk (pend_off HD.out)
  clear hf hi hg hr1 e1 hf1 hr2 e2 hf2 hr3 e3 hf3
  go_wp2_with (first
    | (go_at_call 14; (with_reducible refine (has_any x s _ HX.out).mono ?_); rintro e w9 ⟨rfl, hB⟩; rw [HHS.out]; have n0 := Aside0.mk (HT.out.below hB); have n1 := Aside0.mk (HB.out.trans (below_sub hB (Nat.le_trans HBS.out HB.out.size))); clear hB HB HT; have HT := n0; have HB := n1; clear n0 n1)
    | (go_at_call 15; (with_reducible refine (sfixed_any s _).mono ?_); rintro e w9 ⟨rfl, hB⟩; rw [HFX.out]; have n0 := Aside0.mk (HT.out.below hB); have n1 := Aside0.mk (HB.out.trans (below_sub hB (Nat.le_trans HBS.out HB.out.size))); clear hB HB HT; have HT := n0; have HB := n1; clear n0 n1)
    | (go_at_call 21; (with_reducible refine (ris_sg s _).mono ?_); rintro e w9 ⟨rfl, hB⟩; rw [HIS.out]; have n0 := Aside0.mk (HT.out.below hB); have n1 := Aside0.mk (HB.out.trans (below_sub hB (Nat.le_trans HBS.out HB.out.size))); clear hB HB HT; have HT := n0; have HB := n1; clear n0 n1)
    | (go_at_call 20; (with_reducible refine (put2_any HT.out q s _ HQ.out HF.out rfl HI2.out HF2.out).mono ?_); rintro e w9 ⟨rfl, hT, hB⟩; rw [HE1.out] at hT; obtain ⟨m9, n9, D9, B9, v9, hT9⟩ := hT; have n0 := Aside0.mk hT9; have n1 := Aside0.mk (HB.out.trans hB); clear hB HB HT hT9; have HT := n0; have HB := n1; clear n0 n1)
    | (go_at_call 16; (with_reducible refine (send_ca HT.out q s r1 HQ.out HF1.out HV1.out HI2.out HA1.out HA2.out).mono ?_); rintro e w9 ⟨rfl, hT, hB⟩; rw [HE2.out] at hT; obtain ⟨m9, n9, D9, B9, v9, hT9⟩ := hT; have n0 := Aside0.mk hT9; have n1 := Aside0.mk (HB.out.trans hB); clear hB HB HT hT9; have HT := n0; have HB := n1; clear n0 n1)
    | (go_at_call 19; (with_reducible refine (pend_any HT.out q HQ.out).mono ?_); rintro e w9 ⟨rfl, rfl⟩; rw [HP2.out])
    | (go_at_call 14; (with_reducible refine (has_any (wth 0 s) s _ HW2.out).mono ?_); rintro e w9 ⟨rfl, hB⟩; rw [HQ2.out]; have n0 := Aside0.mk (HT.out.below hB); have n1 := Aside0.mk (HB.out.trans (below_sub hB (Nat.le_trans HBS.out HB.out.size))); clear hB HB HT; have HT := n0; have HB := n1; clear n0 n1)
    | (go_at_call 20; (with_reducible refine (put0_any HT.out q s r2 HQ.out HF2'.out HV2.out HI2.out HF2.out).mono ?_); rintro e w9 ⟨rfl, hT, hB⟩; rw [HE3.out] at hT; obtain ⟨m9, n9, D9, B9, v9, hT9⟩ := hT; have n0 := Aside0.mk hT9; have n1 := Aside0.mk (HB.out.trans hB); clear hB HB HT hT9; have HT := n0; have HB := n1; clear n0 n1)
    | (go_at_call 19; (with_reducible refine (pend_any HT.out q HQ.out).mono ?_); rintro e w9 ⟨rfl, rfl⟩; rw [HP3.out])
    | (go_at_call 17; (with_reducible refine (liv_any HT.out q HQ.out).mono ?_); rintro e w9 ⟨rfl, rfl⟩; rw [HL3.out])
    | (go_at_call 22; (with_reducible refine (exit_any HT.out q 3 r3 HQ.out HF3.out HV3.out (by decide)).mono ?_); rintro e w9 ⟨rfl, hT, hB⟩; obtain ⟨m9, n9, D9, B9, v9, hT9⟩ := hT; have n0 := Aside0.mk hT9; have n1 := Aside0.mk (HB.out.trans hB); clear hB HB HT hT9; have HT := n0; have HB := n1; clear n0 n1; skip)
    | (go_at_call 17; (with_reducible refine (liv_any HT.out q HQ.out).mono ?_); rintro e w9 ⟨rfl, rfl⟩; rw [HD.out])
    | (go_at_call 16; (with_reducible refine (sendno_any HT.out q s HQ.out HD.out).mono ?_); rintro e w9 ⟨rfl, rfl⟩)
    | (go_at_call 19; (with_reducible refine (pend_any HT.out q HQ.out).mono ?_); rintro e w9 ⟨rfl, rfl⟩; rw [HDP.out]))
  go_ret
  exact ⟨rfl, HB1.out.trans (below_sub HB.out HB1.out.size)⟩
theorem safe_law (x : Nat) (s : Int) (k : Int) (w : World) (hx : x < 4294967296) (hk0 : 0 ≤ k) (hk1 : k ≤ 255) (ht : TabB w) :
    Calls Tryd.prog 3 #[.int .u32 (x : Int), .int .i64 s, .int .u8 k] w fun e w' => e = .returned (.bool true) ∧ Below w.heap.size w w' := by
  cases hf : fx s with
  | true => exact law_fixed x s k w hx hk0 hk1 ht hf
  | false =>
    cases hi : isg s with
    | false => exact law_none x s k w hx hk0 hk1 ht hi
    | true =>
      cases hg : hs x s with
      | true => exact law_ign x s k w hx hk0 hk1 ht hf hi hg
      | false => exact law_not x s k w hx hk0 hk1 ht hf hi hg
end Go.Proofs.YtdglcnchdhojnaaDoor.Kern
