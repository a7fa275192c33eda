/- Same of deadfallref05 at one and the same node, whatever is in it. -/
import Derived.Test.YtkepmbkghmkodaaSameNode
namespace Go.Proofs.Ytkepmbkghmkodaa.SameEq
open Go.RowKit Go.Proofs.YtkepmbkghmkodaaW.PrintWords Go.Proofs.YtkepmbkghmkodaaW.PrintLast Go.Proofs.Ytkepmbkghmkodaa.Base Go.Proofs.Ytkepmbkghmkodaa.Seq Go.Proofs.Ytkepmbkghmkodaa.Q
set_option linter.unusedVariables false
set_option linter.unusedSimpArgs false
theorem size_alloc (w : World) (o : Obj) : (w.alloc o).heap.size = w.heap.size + 1 := by simp
set_option maxHeartbeats 8000000 in
set_option maxRecDepth 100000 in
theorem same05 : ∀ (N : Nat) (x : S52), SizeOf.sizeOf x < N → Eq05 x
  | 0, x, hN, cs, w, h => absurd hN (Nat.not_lt_zero _)
  | N + 1, x, hN, cs, w, h => by
    obtain ⟨A3, c3, A4, c4, A5, c5, A6, c6, A7, c7, rfl, l3, g3, l4, g4, l5, g5, l6, g6, l7, g7⟩ := k52_open h
    have IH := Aside0.mk (same05 N)
    have HN := Aside0.mk hN
    have H1 := Aside0.mk (blk_below (blk_new w (.cells #[Value.int .i64 x.f0, .string x.f1, .bool x.f2, .slice A3 x.f3.length c3, .slice A4 x.f4.length c4, .slice A5 x.f5.length c5, .slice A6 x.f6.length c6, .slice A7 x.f7.length c7] 52)) (below_alloc (Below.refl _ _) (.cells #[Value.int .i64 x.f0, .string x.f1, .bool x.f2, .slice A3 x.f3.length c3, .slice A4 x.f4.length c4, .slice A5 x.f5.length c5, .slice A6 x.f6.length c6, .slice A7 x.f7.length c7] 52)))
    have hgg : (w.alloc (.cells #[Value.int .i64 x.f0, .string x.f1, .bool x.f2, .slice A3 x.f3.length c3, .slice A4 x.f4.length c4, .slice A5 x.f5.length c5, .slice A6 x.f6.length c6, .slice A7 x.f7.length c7] 52)).heap.size = w.heap.size + 1 := size_alloc _ _
    have H2 := Aside0.mk (blk_new (w.alloc (.cells #[Value.int .i64 x.f0, .string x.f1, .bool x.f2, .slice A3 x.f3.length c3, .slice A4 x.f4.length c4, .slice A5 x.f5.length c5, .slice A6 x.f6.length c6, .slice A7 x.f7.length c7] 52)) (.cells #[Value.int .i64 x.f0, .string x.f1, .bool x.f2, .slice A3 x.f3.length c3, .slice A4 x.f4.length c4, .slice A5 x.f5.length c5, .slice A6 x.f6.length c6, .slice A7 x.f7.length c7] 52))
    rw [hgg] at H2
    have HB := Aside0.mk (below_alloc (below_alloc (Below.refl w.heap.size w) (.cells #[Value.int .i64 x.f0, .string x.f1, .bool x.f2, .slice A3 x.f3.length c3, .slice A4 x.f4.length c4, .slice A5 x.f5.length c5, .slice A6 x.f6.length c6, .slice A7 x.f7.length c7] 52)) (.cells #[Value.int .i64 x.f0, .string x.f1, .bool x.f2, .slice A3 x.f3.length c3, .slice A4 x.f4.length c4, .slice A5 x.f5.length c5, .slice A6 x.f6.length c6, .slice A7 x.f7.length c7] 52))
    have b3 := g3.2.1
    have b4 := g4.2.1
    have b6 := g6.2.1
    have b7 := g7.2.1
    have G3 := Aside0.mk (Kd.C_below g3 HB.out)
    have G4 := Aside0.mk (Kd.C_below g4 HB.out)
    have G5 := Aside0.mk (Kd.C_below g5 HB.out)
    have G6 := Aside0.mk (Kd.C_below g6 HB.out)
    have G7 := Aside0.mk (Kd.C_below g7 HB.out)
    clear h hN g3 g4 g5 g6 g7 hgg
    go_enter Try.func86, Try.ntmps86
    go_upto_region 1 with (fail)
    generalize (w.alloc (.cells #[Value.int .i64 x.f0, .string x.f1, .bool x.f2, .slice A3 x.f3.length c3, .slice A4 x.f4.length c4, .slice A5 x.f5.length c5, .slice A6 x.f6.length c6, .slice A7 x.f7.length c7] 52)).alloc (.cells #[Value.int .i64 x.f0, .string x.f1, .bool x.f2, .slice A3 x.f3.length c3, .slice A4 x.f4.length c4, .slice A5 x.f5.length c5, .slice A6 x.f6.length c6, .slice A7 x.f7.length c7] 52) = w2 at *
    generalize w.heap.size + 1 = g2 at *
    have c0 : w2.cell? ⟨w.heap.size, 0, none⟩ = some (.int .i64 x.f0) := (blk_cell H1.out 0).trans rfl
    have c1 : w2.cell? ⟨w.heap.size, 1, none⟩ = some (.string x.f1) := (blk_cell H1.out 1).trans rfl
    have c2 : w2.cell? ⟨w.heap.size, 2, none⟩ = some (.bool x.f2) := (blk_cell H1.out 2).trans rfl
    have d3 : w2.cell? ⟨w.heap.size, 3, none⟩ = some (.slice A3 x.f3.length c3) := (blk_cell H1.out 3).trans rfl
    have d6 : w2.cell? ⟨w.heap.size, 6, none⟩ = some (.slice A6 x.f6.length c6) := (blk_cell H1.out 6).trans rfl
    have d7 : w2.cell? ⟨w.heap.size, 7, none⟩ = some (.slice A7 x.f7.length c7) := (blk_cell H1.out 7).trans rfl
    have e0 : w2.cell? ⟨g2, 0, none⟩ = some (.int .i64 x.f0) := (blk_cell H2.out 0).trans rfl
    have e1 : w2.cell? ⟨g2, 1, none⟩ = some (.string x.f1) := (blk_cell H2.out 1).trans rfl
    have e2 : w2.cell? ⟨g2, 2, none⟩ = some (.bool x.f2) := (blk_cell H2.out 2).trans rfl
    have e3 : w2.cell? ⟨g2, 3, none⟩ = some (.slice A3 x.f3.length c3) := (blk_cell H2.out 3).trans rfl
    have e6 : w2.cell? ⟨g2, 6, none⟩ = some (.slice A6 x.f6.length c6) := (blk_cell H2.out 6).trans rfl
    have e7 : w2.cell? ⟨g2, 7, none⟩ = some (.slice A7 x.f7.length c7) := (blk_cell H2.out 7).trans rfl
    have HB0 := HB
    clear HB
    go_wp2
    clear c0 c1 c2 e0 e1 e2 d6 d7 e6 e7 d3 e3
    go_loopw [57] (fun v57 w' => ∃ k : Nat, k ≤ x.f3.length ∧ v57 = .int .i64 (k : Int) ∧ Aside0 (Below w2.heap.size w2 w')) (fun v57 _ => x.f3.length - (intOf v57).toNat)
    case atStart => exact ⟨0, Nat.zero_le _, rfl, ⟨Below.refl _ _⟩⟩
    case round =>
      obtain ⟨k, hk, rfl, HB⟩ := hrel
      by_cases hkn : k < x.f3.length
      · obtain ⟨ad, A1, cc, e, d0, d1, hl4, h4⟩ := at_T114 (Kd.C_below G3.out HB.out) (k : Int) (by omega) (by omega)
        rw [Int.toNat_natCast] at d0 d1
        subst e
        have a3 : wr.cell? ⟨w.heap.size, 3, none⟩ = some (.slice (some ad) x.f3.length c3) := (blk_cell (blk_below H1.out HB.out) 3).trans rfl
        have a4 : wr.cell? ⟨g2, 3, none⟩ = some (.slice (some ad) x.f3.length c3) := (blk_cell (blk_below H2.out HB.out) 3).trans rfl
        have H4 := Aside0.mk h4
        generalize rd_T114 x.f3 (k : Int) = y at *
        clear h4
        go_upto_region 6 with (fail)
        refine region_seq (fun w_ => Below wr.heap.size wr w_) []
          [(0, some 60, .pure), (2, some 62, .pure), (6, some 66, .pure), (8, some 68, .pure), (1, some 61, .held), (3, some 63, .pure), (4, some 64, .pure), (5, some 65, .held), (7, some 67, .held), (9, some 69, .pure), (10, some 70, .pure), (11, some 71, .held), (12, some 72, .pure), (13, some 73, .pure), (14, some 74, .pure), (16, some 76, .pure), (20, some 80, .pure), (22, some 82, .pure), (15, some 75, .held), (17, some 77, .pure), (18, some 78, .pure), (19, some 79, .held), (21, some 81, .held), (23, some 83, .pure), (24, some 84, .pure), (25, some 85, .held), (26, some 86, .one), (27, some 87, .pure), (28, some 88, .pure)] (by kernel_rfl) (by kernel_rfl) ?_
        have hS := below_drew (Below.refl wr.heap.size wr)
        repeat (first
          | (refine s_pure (v := ?_) (a' := ?_) rfl (fun _ _ _ h => h) rfl ?hy ?ha ?_; (case hy => (intro w_; go_simp; with_reducible rfl)); (case ha => (simp only [Act.put, List.setIfInBounds_toArray, List.set_cons_zero, List.set_cons_succ, i64_w, i32_w]; rfl)))
          | (refine s_held (v := ?_) (a' := ?_) hS rfl (fun _ _ _ h => h) rfl ?hy ?ha ?_; (case hy => (intro w_ hb_; have s0 := pw_cell_below hb_ a3; have s1 := pw_cell_below hb_ a4; have s2 := pw_cell_below hb_ d0; have s3 := pw_cell_below hb_ d1; go_simp; with_reducible rfl)); (case ha => (simp only [Act.put, List.setIfInBounds_toArray, List.set_cons_zero, List.set_cons_succ, i64_w, i32_w]; rfl))))
        refine s_oneL rfl (fun K hK => ?_) rfl
        go_wp2_with (go_at_call 112; (with_reducible refine (same03 _ y.f1 (Nat.lt_succ_self _) A1 _ cc _ (Kd.C_below H4.out hS)).mono ?_); rintro r w7 ⟨rfl, hB⟩)
        have hS2 : Below wr.heap.size wr w7 := hS.trans (below_sub hB hS.size)
        clear hB
        replace hS := hS2
        clear hS2
        refine hK _ _ hS ?_
        clear hK
        repeat (first
          | (refine s_pure (v := ?_) (a' := ?_) rfl (fun _ _ _ h => h) rfl ?hy ?ha ?_; (case hy => (intro w_; go_simp; with_reducible rfl)); (case ha => (simp only [Act.put, List.setIfInBounds_toArray, List.set_cons_zero, List.set_cons_succ, i64_w, i32_w]; rfl)))
          | (refine s_held (v := ?_) (a' := ?_) hS rfl (fun _ _ _ h => h) rfl ?hy ?ha ?_; (case hy => (intro w_ hb_; have s0 := pw_cell_below hb_ d0; go_simp; with_reducible rfl)); (case ha => (simp only [Act.put, List.setIfInBounds_toArray, List.set_cons_zero, List.set_cons_succ, i64_w, i32_w]; rfl))))
        refine s_tailL _ (by kernel_rfl) ?_
        simp only [opsAt, List.filterMap_nil]
        have HS2 := Aside0.mk (HB.out.trans (below_sub hS HB.out.size))
        clear hS
        clear d0 d1 a3 a4
        go_wp2
        go_roundw
        case measure => simp [intOf]; omega
        case rel => exact ⟨k + 1, by omega, by go_num, HS2⟩
      · have d6 : wr.cell? ⟨w.heap.size, 6, none⟩ = some (.slice A6 x.f6.length c6) := (blk_cell (blk_below H1.out HB.out) 6).trans rfl
        go_wp2
        clear d6
        have H13 := Aside0.mk (blk_below H1.out HB.out)
        have H23 := Aside0.mk (blk_below H2.out HB.out)
        have G43 := Aside0.mk (Kd.C_below G4.out HB.out)
        have G53 := Aside0.mk (Kd.C_below G5.out HB.out)
        have G63 := Aside0.mk (Kd.C_below G6.out HB.out)
        have G73 := Aside0.mk (Kd.C_below G7.out HB.out)
        have HB1 := Aside0.mk (HB0.out.trans (below_sub HB.out HB0.out.size))
        obtain ⟨w3, rfl⟩ : ∃ w3, w3 = wr := ⟨_, rfl⟩
        clear HB HB0 H1 H2 G3 G4 G5 G6 G7 hkn hk
        go_loopw [93] (fun v93 w' => ∃ k : Nat, k ≤ x.f6.length ∧ v93 = .int .i64 (k : Int) ∧ Aside0 (Below w3.heap.size w3 w')) (fun v93 _ => x.f6.length - (intOf v93).toNat)
        case atStart => exact ⟨0, Nat.zero_le _, rfl, ⟨Below.refl _ _⟩⟩
        case round =>
          obtain ⟨k, hk, rfl, HB⟩ := hrel
          by_cases hkn : k < x.f6.length
          · obtain ⟨ad, b, e, d0⟩ := at_b (Kd.C_below G63.out HB.out) k hkn
            subst e
            have a3 : wr.cell? ⟨w.heap.size, 6, none⟩ = some (.slice (some ad) x.f6.length c6) := (blk_cell (blk_below H13.out HB.out) 6).trans rfl
            have a4 : wr.cell? ⟨g2, 6, none⟩ = some (.slice (some ad) x.f6.length c6) := (blk_cell (blk_below H23.out HB.out) 6).trans rfl
            go_upto_region 12 with (fail)
            refine region_seq (fun w_ => Below wr.heap.size wr w_) []
              [(0, some 96, .pure), (2, some 98, .pure), (5, some 101, .pure), (7, some 103, .pure), (1, some 97, .held), (3, some 99, .pure), (4, some 100, .held), (6, some 102, .held), (8, some 104, .pure), (9, some 105, .held), (10, some 106, .pure)] (by kernel_rfl) (by kernel_rfl) ?_
            have hS := below_drew (Below.refl wr.heap.size wr)
            repeat (first
              | (refine s_pure (v := ?_) (a' := ?_) rfl (fun _ _ _ h => h) rfl ?hy ?ha ?_; (case hy => (intro w_; go_simp; with_reducible rfl)); (case ha => (simp only [Act.put, List.setIfInBounds_toArray, List.set_cons_zero, List.set_cons_succ, i64_w, i32_w]; rfl)))
              | (refine s_held (v := ?_) (a' := ?_) hS rfl (fun _ _ _ h => h) rfl ?hy ?ha ?_; (case hy => (intro w_ hb_; have s0 := pw_cell_below hb_ a3; have s1 := pw_cell_below hb_ a4; have s2 := pw_cell_below hb_ d0; go_simp; with_reducible rfl)); (case ha => (simp only [Act.put, List.setIfInBounds_toArray, List.set_cons_zero, List.set_cons_succ, i64_w, i32_w]; rfl))))
            refine s_tailL _ (by kernel_rfl) ?_
            simp only [opsAt, List.filterMap_nil]
            have HS2 := Aside0.mk (HB.out.trans (below_sub hS HB.out.size))
            clear hS
            clear d0 a3 a4
            go_wp2
            go_roundw
            case measure => simp [intOf]; omega
            case rel => exact ⟨k + 1, by omega, by go_num, HS2⟩
          · have d7 : wr.cell? ⟨w.heap.size, 7, none⟩ = some (.slice A7 x.f7.length c7) := (blk_cell (blk_below H13.out HB.out) 7).trans rfl
            go_wp2
            clear d7
            have H14 := Aside0.mk (blk_below H13.out HB.out)
            have H24 := Aside0.mk (blk_below H23.out HB.out)
            have G44 := Aside0.mk (Kd.C_below G43.out HB.out)
            have G54 := Aside0.mk (Kd.C_below G53.out HB.out)
            have G74 := Aside0.mk (Kd.C_below G73.out HB.out)
            have HB2 := Aside0.mk (HB1.out.trans (below_sub HB.out HB1.out.size))
            obtain ⟨w4, rfl⟩ : ∃ w4, w4 = wr := ⟨_, rfl⟩
            clear HB HB1 H13 H23 G43 G53 G63 G73 hkn hk
            go_loopw [111] (fun v111 w' => ∃ k : Nat, k ≤ x.f7.length ∧ v111 = .int .i64 (k : Int) ∧ Aside0 (Below w4.heap.size w4 w')) (fun v111 _ => x.f7.length - (intOf v111).toNat)
            case atStart => exact ⟨0, Nat.zero_le _, rfl, ⟨Below.refl _ _⟩⟩
            case round =>
              obtain ⟨k, hk, rfl, HB⟩ := hrel
              by_cases hkn : k < x.f7.length
              · obtain ⟨ad, B0, q0, B1, q1, e, d0, d1, l0, h0, l1, h1⟩ := at_T116 (Kd.C_below G74.out HB.out) (k : Int) (by omega) (by omega)
                rw [Int.toNat_natCast] at d0 d1
                subst e
                have a3 : wr.cell? ⟨w.heap.size, 7, none⟩ = some (.slice (some ad) x.f7.length c7) := (blk_cell (blk_below H14.out HB.out) 7).trans rfl
                have a4 : wr.cell? ⟨g2, 7, none⟩ = some (.slice (some ad) x.f7.length c7) := (blk_cell (blk_below H24.out HB.out) 7).trans rfl
                have K0 := Aside0.mk h0
                have K1 := Aside0.mk h1
                have HS := Aside0.mk (show ∀ y ∈ (rd_T116 x.f7 (k : Int)).f1, Eq05 y from fun y hy => IH.out y (by have := size_case x k hkn y hy; have := HN.out; omega))
                generalize rd_T116 x.f7 (k : Int) = y at *
                clear h0 h1
                go_upto_region 18 with (fail)
                refine region_seq (fun w_ => Below wr.heap.size wr w_) []
                  [(0, some 114, .pure), (2, some 116, .pure), (6, some 120, .pure), (8, some 122, .pure), (1, some 115, .held), (3, some 117, .pure), (4, some 118, .pure), (5, some 119, .held), (7, some 121, .held), (9, some 123, .pure), (10, some 124, .pure), (11, some 125, .held), (12, some 126, .one), (13, some 127, .pure), (14, some 128, .pure), (15, some 129, .pure), (17, some 131, .pure), (21, some 135, .pure), (23, some 137, .pure), (16, some 130, .held), (18, some 132, .pure), (19, some 133, .pure), (20, some 134, .held), (22, some 136, .held), (24, some 138, .pure), (25, some 139, .pure), (26, some 140, .held), (27, some 141, .one), (28, some 142, .pure), (29, some 143, .pure)] (by kernel_rfl) (by kernel_rfl) ?_
                have hS := below_drew (Below.refl wr.heap.size wr)
                repeat (first
                  | (refine s_pure (v := ?_) (a' := ?_) rfl (fun _ _ _ h => h) rfl ?hy ?ha ?_; (case hy => (intro w_; go_simp; with_reducible rfl)); (case ha => (simp only [Act.put, List.setIfInBounds_toArray, List.set_cons_zero, List.set_cons_succ, i64_w, i32_w]; rfl)))
                  | (refine s_held (v := ?_) (a' := ?_) hS rfl (fun _ _ _ h => h) rfl ?hy ?ha ?_; (case hy => (intro w_ hb_; have s0 := pw_cell_below hb_ a3; have s1 := pw_cell_below hb_ a4; have s2 := pw_cell_below hb_ d0; have s3 := pw_cell_below hb_ d1; go_simp; with_reducible rfl)); (case ha => (simp only [Act.put, List.setIfInBounds_toArray, List.set_cons_zero, List.set_cons_succ, i64_w, i32_w]; rfl))))
                refine s_oneL rfl (fun K hK => ?_) rfl
                go_wp2_with (go_at_call 113; (with_reducible refine (sameWords y.f0 B0 _ q0 _ (Kd.C_below K0.out hS)).mono ?_); rintro r w7 ⟨rfl, hB⟩)
                have hS2 : Below wr.heap.size wr w7 := hS.trans (below_sub hB hS.size)
                clear hB
                replace hS := hS2
                clear hS2
                refine hK _ _ hS ?_
                clear hK
                repeat (first
                  | (refine s_pure (v := ?_) (a' := ?_) rfl (fun _ _ _ h => h) rfl ?hy ?ha ?_; (case hy => (intro w_; go_simp; with_reducible rfl)); (case ha => (simp only [Act.put, List.setIfInBounds_toArray, List.set_cons_zero, List.set_cons_succ, i64_w, i32_w]; rfl)))
                  | (refine s_held (v := ?_) (a' := ?_) hS rfl (fun _ _ _ h => h) rfl ?hy ?ha ?_; (case hy => (intro w_ hb_; have s0 := pw_cell_below hb_ a3; have s1 := pw_cell_below hb_ a4; have s2 := pw_cell_below hb_ d0; have s3 := pw_cell_below hb_ d1; go_simp; with_reducible rfl)); (case ha => (simp only [Act.put, List.setIfInBounds_toArray, List.set_cons_zero, List.set_cons_succ, i64_w, i32_w]; rfl))))
                refine s_oneL rfl (fun K hK => ?_) rfl
                go_wp2_with (go_at_call 114; (with_reducible refine (sameNodes y.f1 HS.out B1 _ q1 _ (Kd.C_below K1.out hS)).mono ?_); rintro r w8 ⟨rfl, hB⟩)
                have hS3 : Below wr.heap.size wr w8 := hS.trans (below_sub hB hS.size)
                clear hB
                replace hS := hS3
                clear hS3
                refine hK _ _ hS ?_
                clear hK
                repeat (first
                  | (refine s_pure (v := ?_) (a' := ?_) rfl (fun _ _ _ h => h) rfl ?hy ?ha ?_; (case hy => (intro w_; go_simp; with_reducible rfl)); (case ha => (simp only [Act.put, List.setIfInBounds_toArray, List.set_cons_zero, List.set_cons_succ, i64_w, i32_w]; rfl)))
                  | (refine s_held (v := ?_) (a' := ?_) hS rfl (fun _ _ _ h => h) rfl ?hy ?ha ?_; (case hy => (intro w_ hb_; have s0 := pw_cell_below hb_ d0; go_simp; with_reducible rfl)); (case ha => (simp only [Act.put, List.setIfInBounds_toArray, List.set_cons_zero, List.set_cons_succ, i64_w, i32_w]; rfl))))
                refine s_tailL _ (by kernel_rfl) ?_
                simp only [opsAt, List.filterMap_nil]
                have HS2 := Aside0.mk (HB.out.trans (below_sub hS HB.out.size))
                clear hS
                clear d0 d1 a3 a4
                go_wp2
                go_roundw
                case measure => simp [intOf]; omega
                case rel => exact ⟨k + 1, by omega, by go_num, HS2⟩
              · have d4 : wr.cell? ⟨w.heap.size, 4, none⟩ = some (.slice A4 x.f4.length c4) := (blk_cell (blk_below H14.out HB.out) 4).trans rfl
                have e4 : wr.cell? ⟨g2, 4, none⟩ = some (.slice A4 x.f4.length c4) := (blk_cell (blk_below H24.out HB.out) 4).trans rfl
                have n5 := Aside0.mk (blk_below H14.out HB.out)
                have n6 := Aside0.mk (blk_below H24.out HB.out)
                have K4 := Aside0.mk (Kd.C_below G44.out HB.out)
                have K5 := Aside0.mk (Kd.C_below G54.out HB.out)
                have HBW := Aside0.mk (HB2.out.trans (below_sub HB.out HB2.out.size))
                have HS := Aside0.mk (show ∀ y ∈ x.f5, Eq05 y from fun y hy => IH.out y (by have := size_kid x y hy; have := HN.out; omega))
                clear HB HB2 H14 H24 G44 G54 G74 IH HN
                go_wp2_with (first
                  | (go_at_call 113; (with_reducible refine (sameWords x.f4 A4 _ c4 _ K4.out).mono ?_); rintro r w7 ⟨rfl, hB⟩; have f5 : w7.cell? ⟨w.heap.size, 5, none⟩ = some (.slice A5 x.f5.length c5) := (blk_cell (blk_below n5.out hB) 5).trans rfl; have h5 : w7.cell? ⟨g2, 5, none⟩ = some (.slice A5 x.f5.length c5) := (blk_cell (blk_below n6.out hB) 5).trans rfl; have K6 := Aside0.mk (Kd.C_below K5.out hB); have HBX := Aside0.mk (HBW.out.trans (below_sub hB HBW.out.size)); clear d4 e4 hB HBW K5 n5 n6)
                  | (go_at_call 114; (with_reducible refine (sameNodes x.f5 HS.out A5 _ c5 _ K6.out).mono ?_); rintro r w8 ⟨rfl, hB⟩; have HBY := Aside0.mk (HBX.out.trans (below_sub hB HBX.out.size)); clear f5 h5 hB HBX K6))
                go_ret
                exact ⟨rfl, HBY.out⟩
end Go.Proofs.Ytkepmbkghmkodaa.SameEq
