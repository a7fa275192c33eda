/- texts of this claim, one behind the other: WordSame -/
import Derived.Test.YtkecpfjmdokieaaDoorG1
/- deadfallref03.Same at two rows of one and the same value: it is true. -/
namespace Go.Proofs.YtkecpfjmdokieaaDoor.Word
open Go.RowKit Go.Proofs.YtkecpfjmdokieaaDoorW.PrintWords Go.Proofs.YtkecpfjmdokieaaDoorW.PrintLast Go.Proofs.YtkecpfjmdokieaaDoor.Base Go.Proofs.YtkecpfjmdokieaaDoor.Seq Go.Proofs.YtkecpfjmdokieaaDoor.P Go.Proofs.YtkecpfjmdokieaaDoor.NodeOps
set_option linter.unusedVariables false
set_option linter.unusedSimpArgs false
set_option maxHeartbeats 4000000 in
set_option maxRecDepth 100000 in
theorem same03 : ∀ (N : Nat) (l : List Pt), SizeOf.sizeOf l < N → ∀ (A B : Option Addr) (n c m d : Nat) (w : World), Kd.C k33 w A n l → Kd.C k33 w B m l →
    Calls Tryd.prog 15 #[.slice A n c, .slice B m d] w fun e w' => e = .returned (.bool true) ∧ Below w.heap.size w w'
  | 0, l, hN, A, B, n, c, m, d, w, h, h2 => absurd hN (Nat.not_lt_zero _)
  | N + 1, l, hN, A, B, n, c, m, d, w, h, h2 => by
    have hn : l.length = n := h.1
    obtain rfl : m = n := h2.1.symm.trans hn
    have hl := h.2.1
    have HC := Aside0.mk h
    have HD := Aside0.mk h2
    have IH := Aside0.mk (same03 N)
    have HN := Aside0.mk hN
    clear h hN h2
    go_enter Tryd.func15, Tryd.ntmps15
    go_wp2
    go_loopw [13] (fun v13 w' => ∃ k : Nat, k ≤ m ∧ v13 = .int .i64 (k : Int) ∧ Aside0 (Below w.heap.size w w')) (fun v13 _ => m - (intOf v13).toNat)
    case atStart => exact ⟨0, Nat.zero_le _, rfl, ⟨Below.refl _ _⟩⟩
    case round =>
      obtain ⟨k, hk, rfl, HB⟩ := hrel
      by_cases hkn : k < m
      · obtain ⟨ad, A4, c4, e, d0, d1, d2, d3, d4, hl4, h4⟩ := at_T33 (Kd.C_below HC.out HB.out) (k : Int) (by omega) (by omega)
        obtain ⟨bd, B4, b4, e2, f0, f1, f2, f3, f4, hm4, g4⟩ := at_T33 (Kd.C_below HD.out HB.out) (k : Int) (by omega) (by omega)
        have hsz : SizeOf.sizeOf (rd_T33 l (k : Int)).f4 < SizeOf.sizeOf l := by
          rw [rd_in l k (by omega)]
          exact size_in (List.getElem_mem _)
        rw [Int.toNat_natCast] at d0 d1 d2 d3 d4 f0 f1 f2 f3 f4
        subst e
        subst e2
        have H4 := Aside0.mk h4
        have G4 := Aside0.mk g4
        have HSZ := Aside0.mk (show SizeOf.sizeOf (rd_T33 l (k : Int)).f4 < N by have := HN.out; omega)
        generalize rd_T33 l (k : Int) = y at *
        clear h4 hsz g4
        go_upto_region 6 with (fail)
        refine region_seq (fun w_ => Below wr.heap.size wr w_) []
          [(0, some 16, .pure), (1, some 17, .pure), (2, some 18, .pure), (3, some 19, .pure), (5, some 21, .pure), (6, some 22, .pure), (7, some 23, .pure), (8, some 24, .pure), (4, some 20, .held), (9, some 25, .held), (10, some 26, .pure), (11, some 27, .pure), (12, some 28, .pure), (13, some 29, .pure), (14, some 30, .pure), (15, some 31, .pure), (17, some 33, .pure), (18, some 34, .pure), (19, some 35, .pure), (20, some 36, .pure), (16, some 32, .held), (21, some 37, .held), (22, some 38, .pure), (23, some 39, .pure), (24, some 40, .pure), (25, some 41, .pure), (26, some 42, .pure), (27, some 43, .pure), (28, some 44, .pure), (30, some 46, .pure), (31, some 47, .pure), (32, some 48, .pure), (33, some 49, .pure), (29, some 45, .held), (34, some 50, .held), (35, some 51, .pure), (36, some 52, .pure), (37, some 53, .pure), (38, some 54, .pure), (39, some 55, .pure), (40, some 56, .pure), (41, some 57, .pure), (43, some 59, .pure), (44, some 60, .pure), (45, some 61, .pure), (46, some 62, .pure), (42, some 58, .held), (47, some 63, .held), (48, some 64, .pure), (49, some 65, .pure), (50, some 66, .pure), (51, some 67, .pure), (52, some 68, .pure), (53, some 69, .pure), (54, some 70, .pure), (56, some 72, .pure), (57, some 73, .pure), (58, some 74, .pure), (59, some 75, .pure), (55, some 71, .held), (60, some 76, .held), (61, some 77, .one), (62, some 78, .pure), (63, some 79, .pure)] (by kernel_rfl) (by kernel_rfl) ?_
        have hS := below_drew (Below.refl wr.heap.size wr)
        repeat (first
          | (refine s_pure (v := ?_) (a' := ?_) rfl (fun _ _ _ h => h) rfl ?hy ?ha ?_; (case hy => (intro w_; go_simp; with_reducible rfl)); (case ha => (simp only [Act.put, List.setIfInBounds_toArray, List.set_cons_zero, List.set_cons_succ, i64_w, i32_w]; rfl)))
          | (refine s_held (v := ?_) (a' := ?_) hS rfl (fun _ _ _ h => h) rfl ?hy ?ha ?_; (case hy => (intro w_ hb_; have s0 := pw_cell_below hb_ d0; have s1 := pw_cell_below hb_ d1; have s2 := pw_cell_below hb_ d2; have s3 := pw_cell_below hb_ d3; have s4 := pw_cell_below hb_ d4; have s5 := pw_cell_below hb_ f0; have s6 := pw_cell_below hb_ f1; have s7 := pw_cell_below hb_ f2; have s8 := pw_cell_below hb_ f3; have s9 := pw_cell_below hb_ f4; go_simp; with_reducible rfl)); (case ha => (simp only [Act.put, List.setIfInBounds_toArray, List.set_cons_zero, List.set_cons_succ, i64_w, i32_w]; rfl))))
        refine s_oneL rfl (fun K hK => ?_) rfl
        go_wp2_with (go_at_call 15; (with_reducible refine (IH.out y.f4 HSZ.out A4 B4 _ c4 _ b4 _ (Kd.C_below H4.out hS) (Kd.C_below G4.out hS)).mono ?_); rintro r w7 ⟨rfl, hB⟩)
        have hS2 : Below wr.heap.size wr w7 := hS.trans (below_sub hB hS.size)
        clear hB
        replace hS := hS2
        refine hK _ _ hS2 ?_
        clear hK
        repeat (first
          | (refine s_pure (v := ?_) (a' := ?_) rfl (fun _ _ _ h => h) rfl ?hy ?ha ?_; (case hy => (intro w_; go_simp; with_reducible rfl)); (case ha => (simp only [Act.put, List.setIfInBounds_toArray, List.set_cons_zero, List.set_cons_succ, i64_w, i32_w]; rfl)))
          | (refine s_held (v := ?_) (a' := ?_) hS rfl (fun _ _ _ h => h) rfl ?hy ?ha ?_; (case hy => (intro w_ hb_; have s0 := pw_cell_below hb_ d0; go_simp; with_reducible rfl)); (case ha => (simp only [Act.put, List.setIfInBounds_toArray, List.set_cons_zero, List.set_cons_succ, i64_w, i32_w]; rfl))))
        refine s_tailL _ (by kernel_rfl) ?_
        simp only [opsAt, List.filterMap_nil]
        have HS2 := Aside0.mk (HB.out.trans (below_sub hS2 HB.out.size))
        clear hS hS2 d0 d1 d2 d3 d4 f0 f1 f2 f3 f4
        go_wp2
        go_roundw
        case measure => simp [intOf]; omega
        case rel => exact ⟨k + 1, by omega, by go_num, HS2⟩
      · go_wp2
        go_ret
        exact ⟨rfl, HB.out⟩
end Go.Proofs.YtkecpfjmdokieaaDoor.Word
