/- texts of this claim, one behind the other: WordEq -/
import Derived.Test.YtkecpfjmdokieaaDoorG7
namespace Go.Proofs.YtkecpfjmdokieaaDoor.Word
open Go.RowKit Go.Proofs.YtkecpfjmdokieaaDoorW.PrintWords Go.Proofs.YtkecpfjmdokieaaDoorW.PrintLast Go.Proofs.YtkecpfjmdokieaaDoor.Base Go.Proofs.YtkecpfjmdokieaaDoor.Seq Go.Proofs.YtkecpfjmdokieaaDoor.P Go.Proofs.YtkecpfjmdokieaaDoor.NodeOps
set_option linter.unusedVariables false
set_option linter.unusedSimpArgs false
abbrev SameAt (l l' : List Pt) : Prop := ∀ (A B : Option Addr) (n c m d : Nat) (w : World), Kd.C k33 w A n l → Kd.C k33 w B m l' →
    Calls Tryd.prog 15 #[.slice A n c, .slice B m d] w fun e w' => e = .returned (.bool (eqL l l')) ∧ Below w.heap.size w w'
set_option maxHeartbeats 80000000 in
set_option maxRecDepth 100000 in
theorem same_step (N : Nat) (ihN : ∀ (l l' : List Pt), SizeOf.sizeOf l < N → SameAt l l') (l l' : List Pt) (hN : SizeOf.sizeOf l < N + 1) : SameAt l l' := by
    intro A B n c m d w h h2
    have hn : l.length = n := h.1
    have hm : l'.length = m := h2.1
    by_cases hnm : n = m
    · subst hnm
      have HC := Aside0.mk h
      have HD := Aside0.mk h2
      have IH := Aside0.mk ihN
      have HN := Aside0.mk hN
      have HLL := Aside0.mk (hn.trans hm.symm)
      have hl := h.2.1
      clear h hN h2 ihN
      go_enter Tryd.func15, Tryd.ntmps15
      go_wp2
      go_loopw [13] (fun v13 w' => ∃ k : Nat, k ≤ n ∧ v13 = .int .i64 (k : Int) ∧ Aside0 (Below w.heap.size w w') ∧ Aside0 (∀ i, i < k → rd_T33 l (i : Int) = rd_T33 l' (i : Int))) (fun v13 _ => n - (intOf v13).toNat)
      case atStart => exact ⟨0, Nat.zero_le _, rfl, ⟨Below.refl _ _⟩, ⟨fun i h => absurd h (Nat.not_lt_zero _)⟩⟩
      case round =>
        obtain ⟨k, hk, rfl, HB, HE⟩ := hrel
        by_cases hkn : k < n
        · obtain ⟨ad, A4, c4, e, d0, d1, d2, d3, d4, hl4, h4⟩ := at_T33 (Kd.C_below HC.out HB.out) (k : Int) (by omega) (by omega)
          obtain ⟨bd, B4, b4, e2, f0, f1, f2, f3, f4, hm4, g4⟩ := at_T33 (Kd.C_below HD.out HB.out) (k : Int) (by omega) (by omega)
          have hsz : SizeOf.sizeOf (rd_T33 l (k : Int)).f4 < SizeOf.sizeOf l := by
            rw [rd_in l k (by omega)]
            exact size_in (List.getElem_mem _)
          rw [Int.toNat_natCast] at d0 d1 d2 d3 d4 f0 f1 f2 f3 f4
          subst e
          subst e2
          have H4 := Aside0.mk h4
          have G4 := Aside0.mk g4
          have HSZ := Aside0.mk (show SizeOf.sizeOf (rd_T33 l (k : Int)).f4 < N by have := HN.out; omega)
          have HNE := Aside0.mk (fun h => eqL_no (ne_at (a := l) (b := l') k h))
          have HYES := Aside0.mk (fun (h : rd_T33 l (k : Int) = rd_T33 l' (k : Int)) => (show ∀ i, i < k + 1 → rd_T33 l (i : Int) = rd_T33 l' (i : Int) from fun i hi => by
            by_cases hik : i < k
            · exact HE.out i hik
            · obtain rfl : i = k := by omega
              exact h))
          generalize rd_T33 l (k : Int) = y at *
          generalize rd_T33 l' (k : Int) = z at *
          clear h4 hsz g4
          go_upto_region 6 with (fail)
          by_cases q0 : y.f0 = z.f0
          · have b0 : (y.f0 != z.f0) = false := bne_eq_false_iff_eq.mpr q0
            have Q0 := Aside0.mk q0
            clear q0
            by_cases q1 : y.f1 = z.f1
            · have b1 : (y.f1 != z.f1) = false := bne_eq_false_iff_eq.mpr q1
              have b1e : (y.f1 == z.f1) = true := beq_iff_eq.mpr q1
              have Q1 := Aside0.mk q1
              clear q1
              by_cases q2 : y.f2.toList = z.f2.toList
              · have b2 : (y.f2.toList != z.f2.toList) = false := bne_eq_false_iff_eq.mpr q2
                have b2e : (y.f2.toList == z.f2.toList) = true := beq_iff_eq.mpr q2
                have Q2 := Aside0.mk q2
                clear q2
                by_cases q3 : y.f3.toList = z.f3.toList
                · have b3 : (y.f3.toList != z.f3.toList) = false := bne_eq_false_iff_eq.mpr q3
                  have b3e : (y.f3.toList == z.f3.toList) = true := beq_iff_eq.mpr q3
                  have Q3 := Aside0.mk q3
                  clear q3
                  have HEQ := Aside0.mk (show y = z ↔ eqL y.f4 z.f4 = true by
                    have := Q0.out; have := Q1.out; have := bytes_eq Q2.out; have := bytes_eq Q3.out
                    rw [eqL_is]
                    cases y; cases z; simp_all)
                  refine region_seq (fun w_ => Below wr.heap.size wr w_) []
                    [(0, some 16, .pure), (1, some 17, .pure), (2, some 18, .pure), (3, some 19, .pure), (5, some 21, .pure), (6, some 22, .pure), (7, some 23, .pure), (8, some 24, .pure), (4, some 20, .held), (9, some 25, .held), (10, some 26, .pure), (11, some 27, .pure), (12, some 28, .pure), (13, some 29, .pure), (14, some 30, .pure), (15, some 31, .pure), (17, some 33, .pure), (18, some 34, .pure), (19, some 35, .pure), (20, some 36, .pure), (16, some 32, .held), (21, some 37, .held), (22, some 38, .pure), (23, some 39, .pure), (24, some 40, .pure), (25, some 41, .pure), (26, some 42, .pure), (27, some 43, .pure), (28, some 44, .pure), (30, some 46, .pure), (31, some 47, .pure), (32, some 48, .pure), (33, some 49, .pure), (29, some 45, .held), (34, some 50, .held), (35, some 51, .pure), (36, some 52, .pure), (37, some 53, .pure), (38, some 54, .pure), (39, some 55, .pure), (40, some 56, .pure), (41, some 57, .pure), (43, some 59, .pure), (44, some 60, .pure), (45, some 61, .pure), (46, some 62, .pure), (42, some 58, .held), (47, some 63, .held), (48, some 64, .pure), (49, some 65, .pure), (50, some 66, .pure), (51, some 67, .pure), (52, some 68, .pure), (53, some 69, .pure), (54, some 70, .pure), (56, some 72, .pure), (57, some 73, .pure), (58, some 74, .pure), (59, some 75, .pure), (55, some 71, .held), (60, some 76, .held), (61, some 77, .one), (62, some 78, .pure), (63, some 79, .pure)] (by kernel_rfl) (by kernel_rfl) ?_
                  have hS := below_drew (Below.refl wr.heap.size wr)
                  repeat (first
                    | (refine s_pure (v := ?_) (a' := ?_) rfl (fun _ _ _ h => h) rfl ?hy ?ha ?_; (case hy => (intro w_; go_simp; with_reducible rfl)); (case ha => (simp only [Act.put, List.setIfInBounds_toArray, List.set_cons_zero, List.set_cons_succ, i64_w, i32_w]; rfl)))
                    | (refine s_held (v := ?_) (a' := ?_) hS rfl (fun _ _ _ h => h) rfl ?hy ?ha ?_; (case hy => (intro w_ hb_; have s0 := pw_cell_below hb_ d0; have s1 := pw_cell_below hb_ d1; have s2 := pw_cell_below hb_ d2; have s3 := pw_cell_below hb_ d3; have s4 := pw_cell_below hb_ d4; have s5 := pw_cell_below hb_ f0; have s6 := pw_cell_below hb_ f1; have s7 := pw_cell_below hb_ f2; have s8 := pw_cell_below hb_ f3; have s9 := pw_cell_below hb_ f4; go_simp; with_reducible rfl)); (case ha => (simp only [Act.put, List.setIfInBounds_toArray, List.set_cons_zero, List.set_cons_succ, i64_w, i32_w]; rfl))))
                  refine s_oneL rfl (fun K hK => ?_) rfl
                  go_wp2_with (go_at_call 15; (with_reducible refine (IH.out y.f4 z.f4 HSZ.out A4 B4 _ c4 _ b4 _ (Kd.C_below H4.out hS) (Kd.C_below G4.out hS)).mono ?_); rintro r w7 ⟨rfl, hB⟩)
                  have hS2 : Below wr.heap.size wr w7 := hS.trans (below_sub hB hS.size)
                  clear hB
                  replace hS := hS2
                  refine hK _ _ hS2 ?_
                  clear hK
                  cases hq : eqL y.f4 z.f4
                  ·
                    repeat (first
                      | (refine s_pure (v := ?_) (a' := ?_) rfl (fun _ _ _ h => h) rfl ?hy ?ha ?_; (case hy => (intro w_; go_simp; with_reducible rfl)); (case ha => (simp only [Act.put, List.setIfInBounds_toArray, List.set_cons_zero, List.set_cons_succ, i64_w, i32_w]; rfl)))
                      | (refine s_held (v := ?_) (a' := ?_) hS rfl (fun _ _ _ h => h) rfl ?hy ?ha ?_; (case hy => (intro w_ hb_; have s0 := pw_cell_below hb_ d0; go_simp; with_reducible rfl)); (case ha => (simp only [Act.put, List.setIfInBounds_toArray, List.set_cons_zero, List.set_cons_succ, i64_w, i32_w]; rfl))))
                    refine s_tailL _ (by kernel_rfl) ?_
                    simp only [opsAt, List.filterMap_nil]
                    have HR := Aside0.mk (HNE.out fun e => by rw [HEQ.out.1 e] at hq; cases hq)
                    have HS2 := Aside0.mk (HB.out.trans (below_sub hS2 HB.out.size))
                    clear hS hS2 d0 d1 d2 d3 d4 f0 f1 f2 f3 f4
                    go_wp2
                    go_ret
                    exact ⟨congrArg (fun b => Ending.returned (.bool b)) HR.out.symm, HS2.out⟩
                  ·
                    repeat (first
                      | (refine s_pure (v := ?_) (a' := ?_) rfl (fun _ _ _ h => h) rfl ?hy ?ha ?_; (case hy => (intro w_; go_simp; with_reducible rfl)); (case ha => (simp only [Act.put, List.setIfInBounds_toArray, List.set_cons_zero, List.set_cons_succ, i64_w, i32_w]; rfl)))
                      | (refine s_held (v := ?_) (a' := ?_) hS rfl (fun _ _ _ h => h) rfl ?hy ?ha ?_; (case hy => (intro w_ hb_; have s0 := pw_cell_below hb_ d0; go_simp; with_reducible rfl)); (case ha => (simp only [Act.put, List.setIfInBounds_toArray, List.set_cons_zero, List.set_cons_succ, i64_w, i32_w]; rfl))))
                    refine s_tailL _ (by kernel_rfl) ?_
                    simp only [opsAt, List.filterMap_nil]
                    have HR := Aside0.mk (HYES.out (HEQ.out.2 hq))
                    have HS2 := Aside0.mk (HB.out.trans (below_sub hS2 HB.out.size))
                    clear hS hS2 d0 d1 d2 d3 d4 f0 f1 f2 f3 f4
                    go_wp2
                    go_roundw
                    case measure => simp [intOf]; omega
                    case rel => exact ⟨k + 1, by omega, by go_num, HS2, HR⟩
                · have b3 : (y.f3.toList != z.f3.toList) = true := bne_iff_ne.mpr q3
                  have b3e : (y.f3.toList == z.f3.toList) = false := beq_eq_false_iff_ne.mpr q3
                  have HR := Aside0.mk (HNE.out fun e => q3 (by rw [e]))
                  clear q3
                  refine region_seq (fun w_ => Below wr.heap.size wr w_) []
                    [(0, some 16, .pure), (1, some 17, .pure), (2, some 18, .pure), (3, some 19, .pure), (5, some 21, .pure), (6, some 22, .pure), (7, some 23, .pure), (8, some 24, .pure), (4, some 20, .held), (9, some 25, .held), (10, some 26, .pure), (11, some 27, .pure), (12, some 28, .pure), (13, some 29, .pure), (14, some 30, .pure), (15, some 31, .pure), (17, some 33, .pure), (18, some 34, .pure), (19, some 35, .pure), (20, some 36, .pure), (16, some 32, .held), (21, some 37, .held), (22, some 38, .pure), (23, some 39, .pure), (24, some 40, .pure), (25, some 41, .pure), (26, some 42, .pure), (27, some 43, .pure), (28, some 44, .pure), (30, some 46, .pure), (31, some 47, .pure), (32, some 48, .pure), (33, some 49, .pure), (29, some 45, .held), (34, some 50, .held), (35, some 51, .pure), (36, some 52, .pure), (37, some 53, .pure), (38, some 54, .pure), (39, some 55, .pure), (40, some 56, .pure), (41, some 57, .pure), (43, some 59, .pure), (44, some 60, .pure), (45, some 61, .pure), (46, some 62, .pure), (42, some 58, .held), (47, some 63, .held), (48, some 64, .pure), (49, some 65, .pure), (50, some 66, .pure), (51, some 67, .pure), (52, some 68, .pure), (53, some 69, .pure), (54, some 70, .pure), (56, some 72, .pure), (57, some 73, .pure), (58, some 74, .pure), (59, some 75, .pure), (55, some 71, .held), (60, some 76, .held), (61, some 77, .one), (62, some 78, .pure), (63, some 79, .pure)] (by kernel_rfl) (by kernel_rfl) ?_
                  have hS := below_drew (Below.refl wr.heap.size wr)
                  repeat (first
                    | (refine s_pure (v := ?_) (a' := ?_) rfl (fun _ _ _ h => h) rfl ?hy ?ha ?_; (case hy => (intro w_; go_simp; with_reducible rfl)); (case ha => (simp only [Act.put, List.setIfInBounds_toArray, List.set_cons_zero, List.set_cons_succ, i64_w, i32_w]; rfl)))
                    | (refine s_held (v := ?_) (a' := ?_) hS rfl (fun _ _ _ h => h) rfl ?hy ?ha ?_; (case hy => (intro w_ hb_; have s0 := pw_cell_below hb_ d0; have s1 := pw_cell_below hb_ d1; have s2 := pw_cell_below hb_ d2; have s3 := pw_cell_below hb_ d3; have s4 := pw_cell_below hb_ d4; have s5 := pw_cell_below hb_ f0; have s6 := pw_cell_below hb_ f1; have s7 := pw_cell_below hb_ f2; have s8 := pw_cell_below hb_ f3; have s9 := pw_cell_below hb_ f4; go_simp; with_reducible rfl)); (case ha => (simp only [Act.put, List.setIfInBounds_toArray, List.set_cons_zero, List.set_cons_succ, i64_w, i32_w]; rfl)))
                    | (refine s_off (a' := ?_) rfl (fun _ _ _ h => h) rfl ?ha ?_; (case ha => (simp only [Act.put, List.setIfInBounds_toArray, List.set_cons_zero, List.set_cons_succ, i64_w, i32_w]; rfl)))
                    | (refine s_offHeld (a' := ?_) hS rfl (fun _ _ _ h => h) rfl ?ha ?_; (case ha => (simp only [Act.put, List.setIfInBounds_toArray, List.set_cons_zero, List.set_cons_succ, i64_w, i32_w]; rfl)))
                    | (refine s_offOne (a' := ?_) rfl rfl rfl ?ha ?_; (case ha => (simp only [Act.put, List.setIfInBounds_toArray, List.set_cons_zero, List.set_cons_succ, i64_w, i32_w]; rfl))))
                  refine s_tailL _ (by kernel_rfl) ?_
                  simp only [opsAt, List.filterMap_nil]
                  have HS2 := Aside0.mk (HB.out.trans (below_sub hS HB.out.size))
                  clear hS d0 d1 d2 d3 d4 f0 f1 f2 f3 f4
                  go_wp2
                  go_ret
                  exact ⟨congrArg (fun b => Ending.returned (.bool b)) HR.out.symm, HS2.out⟩
              · have b2 : (y.f2.toList != z.f2.toList) = true := bne_iff_ne.mpr q2
                have b2e : (y.f2.toList == z.f2.toList) = false := beq_eq_false_iff_ne.mpr q2
                have HR := Aside0.mk (HNE.out fun e => q2 (by rw [e]))
                clear q2
                refine region_seq (fun w_ => Below wr.heap.size wr w_) []
                  [(0, some 16, .pure), (1, some 17, .pure), (2, some 18, .pure), (3, some 19, .pure), (5, some 21, .pure), (6, some 22, .pure), (7, some 23, .pure), (8, some 24, .pure), (4, some 20, .held), (9, some 25, .held), (10, some 26, .pure), (11, some 27, .pure), (12, some 28, .pure), (13, some 29, .pure), (14, some 30, .pure), (15, some 31, .pure), (17, some 33, .pure), (18, some 34, .pure), (19, some 35, .pure), (20, some 36, .pure), (16, some 32, .held), (21, some 37, .held), (22, some 38, .pure), (23, some 39, .pure), (24, some 40, .pure), (25, some 41, .pure), (26, some 42, .pure), (27, some 43, .pure), (28, some 44, .pure), (30, some 46, .pure), (31, some 47, .pure), (32, some 48, .pure), (33, some 49, .pure), (29, some 45, .held), (34, some 50, .held), (35, some 51, .pure), (36, some 52, .pure), (37, some 53, .pure), (38, some 54, .pure), (39, some 55, .pure), (40, some 56, .pure), (41, some 57, .pure), (43, some 59, .pure), (44, some 60, .pure), (45, some 61, .pure), (46, some 62, .pure), (42, some 58, .held), (47, some 63, .held), (48, some 64, .pure), (49, some 65, .pure), (50, some 66, .pure), (51, some 67, .pure), (52, some 68, .pure), (53, some 69, .pure), (54, some 70, .pure), (56, some 72, .pure), (57, some 73, .pure), (58, some 74, .pure), (59, some 75, .pure), (55, some 71, .held), (60, some 76, .held), (61, some 77, .one), (62, some 78, .pure), (63, some 79, .pure)] (by kernel_rfl) (by kernel_rfl) ?_
                have hS := below_drew (Below.refl wr.heap.size wr)
                repeat (first
                  | (refine s_pure (v := ?_) (a' := ?_) rfl (fun _ _ _ h => h) rfl ?hy ?ha ?_; (case hy => (intro w_; go_simp; with_reducible rfl)); (case ha => (simp only [Act.put, List.setIfInBounds_toArray, List.set_cons_zero, List.set_cons_succ, i64_w, i32_w]; rfl)))
                  | (refine s_held (v := ?_) (a' := ?_) hS rfl (fun _ _ _ h => h) rfl ?hy ?ha ?_; (case hy => (intro w_ hb_; have s0 := pw_cell_below hb_ d0; have s1 := pw_cell_below hb_ d1; have s2 := pw_cell_below hb_ d2; have s3 := pw_cell_below hb_ d3; have s4 := pw_cell_below hb_ d4; have s5 := pw_cell_below hb_ f0; have s6 := pw_cell_below hb_ f1; have s7 := pw_cell_below hb_ f2; have s8 := pw_cell_below hb_ f3; have s9 := pw_cell_below hb_ f4; go_simp; with_reducible rfl)); (case ha => (simp only [Act.put, List.setIfInBounds_toArray, List.set_cons_zero, List.set_cons_succ, i64_w, i32_w]; rfl)))
                  | (refine s_off (a' := ?_) rfl (fun _ _ _ h => h) rfl ?ha ?_; (case ha => (simp only [Act.put, List.setIfInBounds_toArray, List.set_cons_zero, List.set_cons_succ, i64_w, i32_w]; rfl)))
                  | (refine s_offHeld (a' := ?_) hS rfl (fun _ _ _ h => h) rfl ?ha ?_; (case ha => (simp only [Act.put, List.setIfInBounds_toArray, List.set_cons_zero, List.set_cons_succ, i64_w, i32_w]; rfl)))
                  | (refine s_offOne (a' := ?_) rfl rfl rfl ?ha ?_; (case ha => (simp only [Act.put, List.setIfInBounds_toArray, List.set_cons_zero, List.set_cons_succ, i64_w, i32_w]; rfl))))
                refine s_tailL _ (by kernel_rfl) ?_
                simp only [opsAt, List.filterMap_nil]
                have HS2 := Aside0.mk (HB.out.trans (below_sub hS HB.out.size))
                clear hS d0 d1 d2 d3 d4 f0 f1 f2 f3 f4
                go_wp2
                go_ret
                exact ⟨congrArg (fun b => Ending.returned (.bool b)) HR.out.symm, HS2.out⟩
            · have b1 : (y.f1 != z.f1) = true := bne_iff_ne.mpr q1
              have b1e : (y.f1 == z.f1) = false := beq_eq_false_iff_ne.mpr q1
              have HR := Aside0.mk (HNE.out fun e => q1 (by rw [e]))
              clear q1
              refine region_seq (fun w_ => Below wr.heap.size wr w_) []
                [(0, some 16, .pure), (1, some 17, .pure), (2, some 18, .pure), (3, some 19, .pure), (5, some 21, .pure), (6, some 22, .pure), (7, some 23, .pure), (8, some 24, .pure), (4, some 20, .held), (9, some 25, .held), (10, some 26, .pure), (11, some 27, .pure), (12, some 28, .pure), (13, some 29, .pure), (14, some 30, .pure), (15, some 31, .pure), (17, some 33, .pure), (18, some 34, .pure), (19, some 35, .pure), (20, some 36, .pure), (16, some 32, .held), (21, some 37, .held), (22, some 38, .pure), (23, some 39, .pure), (24, some 40, .pure), (25, some 41, .pure), (26, some 42, .pure), (27, some 43, .pure), (28, some 44, .pure), (30, some 46, .pure), (31, some 47, .pure), (32, some 48, .pure), (33, some 49, .pure), (29, some 45, .held), (34, some 50, .held), (35, some 51, .pure), (36, some 52, .pure), (37, some 53, .pure), (38, some 54, .pure), (39, some 55, .pure), (40, some 56, .pure), (41, some 57, .pure), (43, some 59, .pure), (44, some 60, .pure), (45, some 61, .pure), (46, some 62, .pure), (42, some 58, .held), (47, some 63, .held), (48, some 64, .pure), (49, some 65, .pure), (50, some 66, .pure), (51, some 67, .pure), (52, some 68, .pure), (53, some 69, .pure), (54, some 70, .pure), (56, some 72, .pure), (57, some 73, .pure), (58, some 74, .pure), (59, some 75, .pure), (55, some 71, .held), (60, some 76, .held), (61, some 77, .one), (62, some 78, .pure), (63, some 79, .pure)] (by kernel_rfl) (by kernel_rfl) ?_
              have hS := below_drew (Below.refl wr.heap.size wr)
              repeat (first
                | (refine s_pure (v := ?_) (a' := ?_) rfl (fun _ _ _ h => h) rfl ?hy ?ha ?_; (case hy => (intro w_; go_simp; with_reducible rfl)); (case ha => (simp only [Act.put, List.setIfInBounds_toArray, List.set_cons_zero, List.set_cons_succ, i64_w, i32_w]; rfl)))
                | (refine s_held (v := ?_) (a' := ?_) hS rfl (fun _ _ _ h => h) rfl ?hy ?ha ?_; (case hy => (intro w_ hb_; have s0 := pw_cell_below hb_ d0; have s1 := pw_cell_below hb_ d1; have s2 := pw_cell_below hb_ d2; have s3 := pw_cell_below hb_ d3; have s4 := pw_cell_below hb_ d4; have s5 := pw_cell_below hb_ f0; have s6 := pw_cell_below hb_ f1; have s7 := pw_cell_below hb_ f2; have s8 := pw_cell_below hb_ f3; have s9 := pw_cell_below hb_ f4; go_simp; with_reducible rfl)); (case ha => (simp only [Act.put, List.setIfInBounds_toArray, List.set_cons_zero, List.set_cons_succ, i64_w, i32_w]; rfl)))
                | (refine s_off (a' := ?_) rfl (fun _ _ _ h => h) rfl ?ha ?_; (case ha => (simp only [Act.put, List.setIfInBounds_toArray, List.set_cons_zero, List.set_cons_succ, i64_w, i32_w]; rfl)))
                | (refine s_offHeld (a' := ?_) hS rfl (fun _ _ _ h => h) rfl ?ha ?_; (case ha => (simp only [Act.put, List.setIfInBounds_toArray, List.set_cons_zero, List.set_cons_succ, i64_w, i32_w]; rfl)))
                | (refine s_offOne (a' := ?_) rfl rfl rfl ?ha ?_; (case ha => (simp only [Act.put, List.setIfInBounds_toArray, List.set_cons_zero, List.set_cons_succ, i64_w, i32_w]; rfl))))
              refine s_tailL _ (by kernel_rfl) ?_
              simp only [opsAt, List.filterMap_nil]
              have HS2 := Aside0.mk (HB.out.trans (below_sub hS HB.out.size))
              clear hS d0 d1 d2 d3 d4 f0 f1 f2 f3 f4
              go_wp2
              go_ret
              exact ⟨congrArg (fun b => Ending.returned (.bool b)) HR.out.symm, HS2.out⟩
          · have b0 : (y.f0 != z.f0) = true := bne_iff_ne.mpr q0
            have HR := Aside0.mk (HNE.out fun e => q0 (by rw [e]))
            clear q0
            refine region_seq (fun w_ => Below wr.heap.size wr w_) []
              [(0, some 16, .pure), (1, some 17, .pure), (2, some 18, .pure), (3, some 19, .pure), (5, some 21, .pure), (6, some 22, .pure), (7, some 23, .pure), (8, some 24, .pure), (4, some 20, .held), (9, some 25, .held), (10, some 26, .pure), (11, some 27, .pure), (12, some 28, .pure), (13, some 29, .pure), (14, some 30, .pure), (15, some 31, .pure), (17, some 33, .pure), (18, some 34, .pure), (19, some 35, .pure), (20, some 36, .pure), (16, some 32, .held), (21, some 37, .held), (22, some 38, .pure), (23, some 39, .pure), (24, some 40, .pure), (25, some 41, .pure), (26, some 42, .pure), (27, some 43, .pure), (28, some 44, .pure), (30, some 46, .pure), (31, some 47, .pure), (32, some 48, .pure), (33, some 49, .pure), (29, some 45, .held), (34, some 50, .held), (35, some 51, .pure), (36, some 52, .pure), (37, some 53, .pure), (38, some 54, .pure), (39, some 55, .pure), (40, some 56, .pure), (41, some 57, .pure), (43, some 59, .pure), (44, some 60, .pure), (45, some 61, .pure), (46, some 62, .pure), (42, some 58, .held), (47, some 63, .held), (48, some 64, .pure), (49, some 65, .pure), (50, some 66, .pure), (51, some 67, .pure), (52, some 68, .pure), (53, some 69, .pure), (54, some 70, .pure), (56, some 72, .pure), (57, some 73, .pure), (58, some 74, .pure), (59, some 75, .pure), (55, some 71, .held), (60, some 76, .held), (61, some 77, .one), (62, some 78, .pure), (63, some 79, .pure)] (by kernel_rfl) (by kernel_rfl) ?_
            have hS := below_drew (Below.refl wr.heap.size wr)
            repeat (first
              | (refine s_pure (v := ?_) (a' := ?_) rfl (fun _ _ _ h => h) rfl ?hy ?ha ?_; (case hy => (intro w_; go_simp; with_reducible rfl)); (case ha => (simp only [Act.put, List.setIfInBounds_toArray, List.set_cons_zero, List.set_cons_succ, i64_w, i32_w]; rfl)))
              | (refine s_held (v := ?_) (a' := ?_) hS rfl (fun _ _ _ h => h) rfl ?hy ?ha ?_; (case hy => (intro w_ hb_; have s0 := pw_cell_below hb_ d0; have s1 := pw_cell_below hb_ d1; have s2 := pw_cell_below hb_ d2; have s3 := pw_cell_below hb_ d3; have s4 := pw_cell_below hb_ d4; have s5 := pw_cell_below hb_ f0; have s6 := pw_cell_below hb_ f1; have s7 := pw_cell_below hb_ f2; have s8 := pw_cell_below hb_ f3; have s9 := pw_cell_below hb_ f4; go_simp; with_reducible rfl)); (case ha => (simp only [Act.put, List.setIfInBounds_toArray, List.set_cons_zero, List.set_cons_succ, i64_w, i32_w]; rfl)))
              | (refine s_off (a' := ?_) rfl (fun _ _ _ h => h) rfl ?ha ?_; (case ha => (simp only [Act.put, List.setIfInBounds_toArray, List.set_cons_zero, List.set_cons_succ, i64_w, i32_w]; rfl)))
              | (refine s_offHeld (a' := ?_) hS rfl (fun _ _ _ h => h) rfl ?ha ?_; (case ha => (simp only [Act.put, List.setIfInBounds_toArray, List.set_cons_zero, List.set_cons_succ, i64_w, i32_w]; rfl)))
              | (refine s_offOne (a' := ?_) rfl rfl rfl ?ha ?_; (case ha => (simp only [Act.put, List.setIfInBounds_toArray, List.set_cons_zero, List.set_cons_succ, i64_w, i32_w]; rfl))))
            refine s_tailL _ (by kernel_rfl) ?_
            simp only [opsAt, List.filterMap_nil]
            have HS2 := Aside0.mk (HB.out.trans (below_sub hS HB.out.size))
            clear hS d0 d1 d2 d3 d4 f0 f1 f2 f3 f4
            go_wp2
            go_ret
            exact ⟨congrArg (fun b => Ending.returned (.bool b)) HR.out.symm, HS2.out⟩
        · go_wp2
          go_ret
          exact ⟨congrArg (fun b => Ending.returned (.bool b)) (eqL_yes (eq_at HLL.out fun i hi => HE.out i (by omega))).symm, HB.out⟩
    · have HR := Aside0.mk (eqL_no (a := l) (b := l') fun e => hnm (by rw [← hn, ← hm, e]))
      have hne : (((n : Int)) != (m : Int)) = true := bne_iff_ne.mpr (by omega)
      have HC := Aside0.mk (Below.refl w.heap.size w)
      clear h hN h2 hn hm hnm
      go_enter Tryd.func15, Tryd.ntmps15
      go_wp2
      go_ret
      exact ⟨congrArg (fun b => Ending.returned (.bool b)) HR.out.symm, HC.out⟩
theorem same_all : ∀ (N : Nat) (l l' : List Pt), SizeOf.sizeOf l < N → SameAt l l'
  | 0, l, l', hN => absurd hN (Nat.not_lt_zero _)
  | N + 1, l, l', hN => same_step N (same_all N) l l' hN
theorem same_any (N : Nat) (l l' : List Pt) (hN : SizeOf.sizeOf l < N) (A B : Option Addr) (n c m d : Nat) (w : World) (h : Kd.C k33 w A n l) (h2 : Kd.C k33 w B m l') :
    Calls Tryd.prog 15 #[.slice A n c, .slice B m d] w fun e w' => e = .returned (.bool (eqL l l')) ∧ Below w.heap.size w w' := same_all N l l' hN A B n c m d w h h2
end Go.Proofs.YtkecpfjmdokieaaDoor.Word
