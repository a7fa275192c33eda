/- Same of deadfallref05 at one and the same node: it is true. -/
import Derived.Test.YtkepmbkghmkodaaSameEq
namespace Go.Proofs.Ytkepmbkghmkodaa.SameEq
open Go.RowKit Go.Proofs.YtkepmbkghmkodaaW.PrintWords Go.Proofs.YtkepmbkghmkodaaW.PrintLast Go.Proofs.Ytkepmbkghmkodaa.Base Go.Proofs.Ytkepmbkghmkodaa.Seq Go.Proofs.Ytkepmbkghmkodaa.Q
set_option linter.unusedVariables false
set_option linter.unusedSimpArgs false
theorem at_b {w : World} {A : Option Addr} {n : Nat} {xs : List Bool} (h : Kd.C Kd.bool w A n xs) (i : Nat) (hi : i < n) : ∃ ad b, A = some ad ∧ w.cell? (ad.add i) = some (.bool b) := by
  obtain ⟨ad, c, e, _, hK, hc0⟩ := Kd.C_get h false (i : Int) (by omega) (by omega)
  rw [Int.toNat_natCast] at hK hc0
  obtain rfl : c = [.bool (xs.getD i false)] := hK
  refine ⟨ad, xs.getD i false, e, ?_⟩
  have := hc0 0 _ rfl
  rw [show i * Kd.bool.sz + 0 = i by show i * 1 + 0 = i; omega] at this
  exact this
theorem size_case (x : S52) (k : Nat) (hk : k < x.f7.length) (y : S52) (h : y ∈ (rd_T116 x.f7 (k : Int)).f1) : SizeOf.sizeOf y < SizeOf.sizeOf x := by
  unfold rd_T116 at h
  rw [rd_of x.f7 _ k hk] at h
  have h1 := List.sizeOf_lt_of_mem (List.getElem_mem hk)
  have h2 := List.sizeOf_lt_of_mem h
  have h3 : SizeOf.sizeOf (x.f7[k]).f1 < SizeOf.sizeOf x.f7[k] := by cases x.f7[k]; simp; omega
  have h4 : SizeOf.sizeOf x.f7 < SizeOf.sizeOf x := by cases x; simp; omega
  omega
theorem size_kid (x : S52) (y : S52) (h : y ∈ x.f5) : SizeOf.sizeOf y < SizeOf.sizeOf x := by
  have h2 := List.sizeOf_lt_of_mem h
  have h4 : SizeOf.sizeOf x.f5 < SizeOf.sizeOf x := by cases x; simp; omega
  omega
set_option maxHeartbeats 4000000 in
set_option maxRecDepth 100000 in
theorem sameWords (l : List (List S154)) (A : Option Addr) (n c : Nat) (w : World) (h : Kd.C (Kd.slice 154 k154) w A n l) :
    Calls Try.prog 113 #[.slice A n c, .slice A n c] w fun e w' => e = .returned (.bool true) ∧ Below w.heap.size w w' := by
  have hn : l.length = n := h.1
  have hl := h.2.1
  have HC := Aside0.mk h
  clear h
  go_enter Try.func113, Try.ntmps113
  go_wp2
  go_loopw [13] (fun v13 w' => ∃ k : Nat, k ≤ n ∧ v13 = .int .i64 (k : Int) ∧ Aside0 (Below w.heap.size w w')) (fun v13 _ => n - (intOf v13).toNat)
  case atStart => exact ⟨0, Nat.zero_le _, rfl, ⟨Below.refl _ _⟩⟩
  case round =>
    obtain ⟨k, hk, rfl, HB⟩ := hrel
    by_cases hkn : k < n
    · obtain ⟨ad, A0, c0, e, d0, hl4, h4⟩ := at_L4 (Kd.C_below HC.out HB.out) (k : Int) (by omega) (by omega)
      rw [Int.toNat_natCast] at d0
      subst e
      have H4 := Aside0.mk h4
      generalize rd_L4 l (k : Int) = y at *
      clear h4
      go_upto_region 6 with (fail)
      refine region_seq (fun w_ => Below wr.heap.size wr w_) []
        [(0, some 16, .pure), (1, some 17, .pure), (2, some 18, .pure), (4, some 20, .pure), (5, some 21, .pure), (6, some 22, .pure), (3, some 19, .held), (7, some 23, .held), (8, some 24, .one), (9, some 25, .pure)] (by kernel_rfl) (by kernel_rfl) ?_
      have hS := below_drew (Below.refl wr.heap.size wr)
      repeat (first
        | (refine s_pure (v := ?_) (a' := ?_) rfl (fun _ _ _ h => h) rfl ?hy ?ha ?_; (case hy => (intro w_; go_simp; with_reducible rfl)); (case ha => (simp only [Act.put, List.setIfInBounds_toArray, List.set_cons_zero, List.set_cons_succ, i64_w, i32_w]; rfl)))
        | (refine s_held (v := ?_) (a' := ?_) hS rfl (fun _ _ _ h => h) rfl ?hy ?ha ?_; (case hy => (intro w_ hb_; have s0 := pw_cell_below hb_ d0; go_simp; with_reducible rfl)); (case ha => (simp only [Act.put, List.setIfInBounds_toArray, List.set_cons_zero, List.set_cons_succ, i64_w, i32_w]; rfl))))
      refine s_oneL rfl (fun K hK => ?_) rfl
      go_wp2_with (go_at_call 112; (with_reducible refine (same03 _ y (Nat.lt_succ_self _) A0 _ c0 _ (Kd.C_below H4.out hS)).mono ?_); rintro r w7 ⟨rfl, hB⟩)
      have hS2 : Below wr.heap.size wr w7 := hS.trans (below_sub hB hS.size)
      clear hB
      replace hS := hS2
      clear hS2
      refine hK _ _ hS ?_
      clear hK
      repeat (first
        | (refine s_pure (v := ?_) (a' := ?_) rfl (fun _ _ _ h => h) rfl ?hy ?ha ?_; (case hy => (intro w_; go_simp; with_reducible rfl)); (case ha => (simp only [Act.put, List.setIfInBounds_toArray, List.set_cons_zero, List.set_cons_succ, i64_w, i32_w]; rfl)))
        | (refine s_held (v := ?_) (a' := ?_) hS rfl (fun _ _ _ h => h) rfl ?hy ?ha ?_; (case hy => (intro w_ hb_; have s0 := pw_cell_below hb_ d0; go_simp; with_reducible rfl)); (case ha => (simp only [Act.put, List.setIfInBounds_toArray, List.set_cons_zero, List.set_cons_succ, i64_w, i32_w]; rfl))))
      refine s_tailL _ (by kernel_rfl) ?_
      simp only [opsAt, List.filterMap_nil]
      have HS2 := Aside0.mk (HB.out.trans (below_sub hS HB.out.size))
      clear hS
      clear d0
      go_wp2
      go_roundw
      case measure => simp [intOf]; omega
      case rel => exact ⟨k + 1, by omega, by go_num, HS2⟩
    · go_wp2
      go_ret
      exact ⟨rfl, HB.out⟩
/-- What is shown of a node. -/
abbrev Eq05 (y : S52) : Prop := ∀ (cs : List Value) (w : World), k52.K w y cs → Calls Try.prog 86 #[.agg cs.toArray, .agg cs.toArray] w fun e w' => e = .returned (.bool true) ∧ Below w.heap.size w w'
set_option maxHeartbeats 4000000 in
set_option maxRecDepth 100000 in
theorem sameNodes (l : List S52) (hs : ∀ y ∈ l, Eq05 y) (A : Option Addr) (n c : Nat) (w : World) (h : Kd.C k52 w A n l) :
    Calls Try.prog 114 #[.slice A n c, .slice A n c] w fun e w' => e = .returned (.bool true) ∧ Below w.heap.size w w' := by
  have hn : l.length = n := h.1
  have hl := h.2.1
  have HC := Aside0.mk h
  have HSUB := Aside0.mk hs
  clear h hs
  go_enter Try.func114, Try.ntmps114
  go_wp2
  go_loopw [13] (fun v13 w' => ∃ k : Nat, k ≤ n ∧ v13 = .int .i64 (k : Int) ∧ Aside0 (Below w.heap.size w w')) (fun v13 _ => n - (intOf v13).toNat)
  case atStart => exact ⟨0, Nat.zero_le _, rfl, ⟨Below.refl _ _⟩⟩
  case round =>
    obtain ⟨k, hk, rfl, HB⟩ := hrel
    by_cases hkn : k < n
    · obtain ⟨ad, A3, c3, A4, c4, A5, c5, A6, c6, A7, c7, e, d0, d1, d2, d3, d4, d5, d6, d7, l3, g3, l4, g4, l5, g5, l6, g6, l7, g7⟩ := at_T52 (Kd.C_below HC.out HB.out) (k : Int) (by omega) (by omega)
      rw [Int.toNat_natCast] at d0 d1 d2 d3 d4 d5 d6 d7
      subst e
      have HE := Aside0.mk (HSUB.out (rd_T52 l (k : Int)) (by unfold rd_T52; rw [rd_of l _ k (by omega)]; exact List.getElem_mem _))
      have HKK := Aside0.mk (k52_mk wr (rd_T52 l (k : Int)) l3 g3 l4 g4 l5 g5 l6 g6 l7 g7)
      generalize rd_T52 l (k : Int) = y at *
      clear l3 g3 l4 g4 l5 g5 l6 g6 l7 g7
      go_upto_region 6 with (fail)
      refine region_seq (fun w_ => Below wr.heap.size wr w_) []
        [(0, some 16, .pure), (1, some 17, .pure), (2, some 18, .pure), (4, some 20, .pure), (5, some 21, .pure), (6, some 22, .pure), (3, some 19, .held), (7, some 23, .held), (8, some 24, .one), (9, some 25, .pure)] (by kernel_rfl) (by kernel_rfl) ?_
      have hS := below_drew (Below.refl wr.heap.size wr)
      repeat (first
        | (refine s_pure (v := ?_) (a' := ?_) rfl (fun _ _ _ h => h) rfl ?hy ?ha ?_; (case hy => (intro w_; go_simp; with_reducible rfl)); (case ha => (simp only [Act.put, List.setIfInBounds_toArray, List.set_cons_zero, List.set_cons_succ, i64_w, i32_w]; rfl)))
        | (refine s_held (v := ?_) (a' := ?_) hS rfl (fun _ _ _ h => h) rfl ?hy ?ha ?_; (case hy => (intro w_ hb_; have s0 := pw_cell_below hb_ d0; have s1 := pw_cell_below hb_ d1; have s2 := pw_cell_below hb_ d2; have s3 := pw_cell_below hb_ d3; have s4 := pw_cell_below hb_ d4; have s5 := pw_cell_below hb_ d5; have s6 := pw_cell_below hb_ d6; have s7 := pw_cell_below hb_ d7; go_simp; with_reducible rfl)); (case ha => (simp only [Act.put, List.setIfInBounds_toArray, List.set_cons_zero, List.set_cons_succ, i64_w, i32_w]; rfl))))
      refine s_oneL rfl (fun K hK => ?_) rfl
      go_wp2_with (go_at_call 86; (with_reducible refine (HE.out _ _ (Kd.K_below _ hS HKK.out)).mono ?_); rintro r w7 ⟨rfl, hB⟩)
      have hS2 : Below wr.heap.size wr w7 := hS.trans (below_sub hB hS.size)
      clear hB
      replace hS := hS2
      clear hS2
      refine hK _ _ hS ?_
      clear hK
      repeat (first
        | (refine s_pure (v := ?_) (a' := ?_) rfl (fun _ _ _ h => h) rfl ?hy ?ha ?_; (case hy => (intro w_; go_simp; with_reducible rfl)); (case ha => (simp only [Act.put, List.setIfInBounds_toArray, List.set_cons_zero, List.set_cons_succ, i64_w, i32_w]; rfl)))
        | (refine s_held (v := ?_) (a' := ?_) hS rfl (fun _ _ _ h => h) rfl ?hy ?ha ?_; (case hy => (intro w_ hb_; have s0 := pw_cell_below hb_ d0; go_simp; with_reducible rfl)); (case ha => (simp only [Act.put, List.setIfInBounds_toArray, List.set_cons_zero, List.set_cons_succ, i64_w, i32_w]; rfl))))
      refine s_tailL _ (by kernel_rfl) ?_
      simp only [opsAt, List.filterMap_nil]
      have HS2 := Aside0.mk (HB.out.trans (below_sub hS HB.out.size))
      clear hS
      clear d0 d1 d2 d3 d4 d5 d6 d7
      go_wp2
      go_roundw
      case measure => simp [intOf]; omega
      case rel => exact ⟨k + 1, by omega, by go_num, HS2⟩
    · go_wp2
      go_ret
      exact ⟨rfl, HB.out⟩
end Go.Proofs.Ytkepmbkghmkodaa.SameEq
