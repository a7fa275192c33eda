-- printed by a program of this session (wip/pp): a Lean function and a proof for each Go function
import Derived.Test.YtkepmbkghmkodaaQ0
import Derived.Test.YtkepmbkghmkodaaQ4
namespace Go.Proofs.Ytkepmbkghmkodaa.Q
open Go.RowKit Go.Proofs.YtkepmbkghmkodaaW.PrintWords Go.Proofs.YtkepmbkghmkodaaW.PrintLast Go.Proofs.YtkepmbkghmkodaaW.PrintMore
attribute [local go_sem] max2_int min2_int max_two min_two max_three min_three max_four min_four   -- for this text's walks alone
set_option linter.unusedVariables false
set_option linter.unusedSimpArgs false

/-! ### deadfallref15_loops: function 88 -/
def deadfallref15_loops.l0 : Nat → List (S74) → List Int → Int → Option (List Int)
  | 0, _, _, _ => none
  | k + 1, x0, x3, x4 => if x4 ≥ 0 then (if 0 ≤ x4 then (if x4 < (x0.length : Int) then ((deadfallref15_wall.f ((rd_T74 x0 x4).f0)).bind fun t178 => (if t178 = true then (some x3) else ((deadfallref15_loop.f ((rd_T74 x0 x4).f0)).bind fun t180 => (if t180 = true then (if x3.length < 17592186044416 then (deadfallref15_loops.l0 k x0 (x3 ++ [x4]) (wrap64 (x4 - 1))) else (none)) else (deadfallref15_loops.l0 k x0 x3 (wrap64 (x4 - 1))))))) else (none)) else (none)) else (some x3)
def deadfallref15_loops.f (k : Nat) (l0 : List (S74)) : Option (List Int) := deadfallref15_loops.l0 k l0 (([] : List Int)) (wrap64 ((l0.length : Int) - 1))
theorem deadfallref15_loops.mono_l : ∀ k, (∀ y0 y1 y2, LeO (deadfallref15_loops.l0 k y0 y1 y2) (deadfallref15_loops.l0 (k + 1) y0 y1 y2))
  | 0 => fun _ _ _ r h => by simp [deadfallref15_loops.l0] at h
  | k + 1 => by
    have ih0 := deadfallref15_loops.mono_l k
    · intro y0 y1 y2
      unfold deadfallref15_loops.l0
      repeat' first
      | (with_reducible exact ih0 _ _ _)
      | (with_reducible exact LeO.refl _)
      | (with_reducible exact LeO.none _)
      | (with_reducible refine LeO.ite ?_ ?_)
      | (with_reducible refine LeO.bind ?_ (fun _ => ?_))
      | exact ih0 _ _ _
      | exact LeO.none _
      | refine LeO.ite ?_ ?_
      | refine LeO.bind ?_ (fun _ => ?_)
theorem deadfallref15_loops.mono : ∀ a0 k, LeO (deadfallref15_loops.f k a0) (deadfallref15_loops.f (k + 1) a0) := by
  intro a0 k
  have ih0 := deadfallref15_loops.mono_l k
  unfold deadfallref15_loops.f
  repeat' first
      | (with_reducible exact ih0 _ _ _)
      | (with_reducible exact LeO.refl _)
      | (with_reducible exact LeO.none _)
      | (with_reducible refine LeO.ite ?_ ?_)
      | (with_reducible refine LeO.bind ?_ (fun _ => ?_))
      | exact ih0 _ _ _
      | exact LeO.none _
      | refine LeO.ite ?_ ?_
      | refine LeO.bind ?_ (fun _ => ?_)
set_option maxHeartbeats 8000000 in
set_option maxRecDepth 100000 in
theorem deadfallref15_loops.calls (k : Nat) (A0 : Option Addr) (c0 : Nat) (l0 : List (S74)) (r : List Int) (w : World) (hr0 : Kd.C k74 w A0 l0.length l0) (hc0 : l0.length ≤ c0) (h : deadfallref15_loops.f k l0 = some r) :
    Calls Try.prog 88 #[.slice A0 l0.length c0] w fun e w' => ∃ v0_ : Value, e = .returned (v0_) ∧ Kd.R (Kd.int .i64) 3 w' w.heap.size (fun _ => True) v0_ r ∧ Below w.heap.size w w' := by
  have HR0 := Aside0.mk hr0
  have HC0 := Aside0.mk hc0
  clear hr0 hc0
  have HB := Aside0.mk (Below.refl w.heap.size w)
  have H : (deadfallref15_loops.l0 k l0 (([] : List Int)) (wrap64 ((l0.length : Int) - 1))) = some r := h
  clear h
  obtain ⟨y174, hy174⟩ : ∃ y_ : List Int, y_ = (([] : List Int)) := ⟨_, rfl⟩
  replace H : (deadfallref15_loops.l0 k l0 y174 (wrap64 ((l0.length : Int) - 1))) = some r := by first | (rw [hy174]; with_reducible exact H) | (have H2_ := (Option.bind_some _ _).symm.trans H; rw [hy174]; with_reducible exact H2_) | (have H2_ := (Option.bind_some _ _).symm.trans H; with_reducible exact H2_) | with_reducible exact H | (rw [hy174]; exact H) | exact H
  have Ny174 := Aside0.mk hy174
  clear hy174
  have H' := Aside0.mk H
  clear H
  go_enter Try.func88, Try.ntmps88
  go_wp2_with (first | ((with_reducible refine gate_dst (N := 5) rfl ?_); refine Kd.R_lit (Kd.int .i64) _ 3 ?hg (N := 5) ?hd (xs := ([] : List Int)) (inner := []) (ok := fun _ => True) (okp := fun _ => True) ?hr ?hp (fun _ hk => hk) trivial (Below.refl _ _) (Nat.le_refl _) (by simp) ?_; (case hd => rfl); (case hg => rfl); (case hr => first | (go_simp; done) | (go_simp; rfl)); (case hp => exact (Reps.none _ _)); intro v175 w2 ho3 hb hg_ hnew_; clear hg_ hnew_; (first | rw [← Ny174.out] at ho3 | (simp only [Int.reduceToNat] at ho3; rw [← Ny174.out] at ho3)); have n0_ := Aside0.mk (Kd.R_lower ho3 (below_size (by repeat (first | (with_reducible first | exact HB.out | apply below_alloc | apply pw_below_drewN | apply below_drew1) | exact HB.out)))); have n1_ := Aside0.mk (below_step (by repeat (first | (with_reducible first | exact HB.out | apply below_alloc | apply pw_below_drewN | apply below_drew1) | exact HB.out)) hb); clear HB; have HO176 := n0_; have HB := n1_; clear n0_ n1_; clear hb ho3))
  go_loopg [3, 4] k (fun kq v3 v4 w' => ∃ (x3_1 : List Int) (x4_1 : Int), v4 = .int .i64 x4_1 ∧ Aside0 (deadfallref15_loops.l0 kq l0 x3_1 x4_1 = some r) ∧ Aside0 (kq ≤ k) ∧ Aside0 (Kd.R (Kd.int .i64) 3 w' w.heap.size (fun _ => True) v3 x3_1) ∧ Aside0 (Below w.heap.size w w'))
  case atStart => exact ⟨(y174), (wrap64 ((l0.length : Int) - 1)), (by first | rfl | (simp; done) | (simp [*]; done)), H', ⟨Nat.le_refl _⟩, ⟨by (with_reducible repeat (first | apply Kd.R_alloc | apply Kd.R_drewN | apply Kd.R_drew)); exact HO176.out⟩, ⟨by repeat (first | (with_reducible first | exact HB.out | apply below_alloc | apply pw_below_drewN | apply below_drew1) | exact HB.out)⟩⟩
  case round =>
    clear H'
    try clear p2
    obtain ⟨x3_1, x4_1, rfl, HA, HK1, HO_3, HB⟩ := hrel
    cases gk with
    | zero => exact absurd HA.out (by simp [deadfallref15_loops.l0])
    | succ k1 =>
      have H := HA.out
      clear HA
      simp only [deadfallref15_loops.l0] at H
      by_cases c4 : x4_1 ≥ 0
      · rw [if_pos c4] at H
        have c4b0 : decide (0 ≤ x4_1) = true := decide_eq_true c4
        clear c4
        by_cases c5 : 0 ≤ x4_1
        · rw [if_pos c5] at H
          have c5b0 : decide (0 ≤ x4_1) = true := decide_eq_true c5
          clear c5
          by_cases c6 : x4_1 < (l0.length : Int)
          · rw [if_pos c6] at H
            have c6b0 : decide (x4_1 < (l0.length : Int)) = true := decide_eq_true c6
            clear c6
            replace H := Option.bind_eq_some_iff.mp H
            obtain ⟨t178, A70, H⟩ := H
            replace H : (if t178 = true then (some x3_1) else ((deadfallref15_loop.f ((rd_T74 l0 x4_1).f0)).bind fun t180 => (if t180 = true then (if x3_1.length < 17592186044416 then (deadfallref15_loops.l0 k1 l0 (x3_1 ++ [x4_1]) (wrap64 (x4_1 - 1))) else (none)) else (deadfallref15_loops.l0 k1 l0 x3_1 (wrap64 (x4_1 - 1)))))) = some r := H
            have A7 := Aside0.mk A70
            clear A70
            by_cases c8 : t178 = true
            · subst c8
              have H1 : (some x3_1) = some r := by rw [if_pos rfl] at H; exact H
              clear H
              have H := H1
              clear H1
              obtain rfl := Option.some.inj H
              have p177 : 0 ≤ (x4_1 : Int) := of_decide_eq_true (by first | (with_reducible assumption) | assumption)
              have q177 : x4_1 < (l0.length : Int) := of_decide_eq_true (by first | (with_reducible assumption) | assumption)
              obtain ⟨ad177, A177_4, c177_4, A177_5, c177_5, A177_6, c177_6, A177_7, c177_7, A177_8, c177_8, A177_12, c177_12, A177_13, c177_13, e177, hx177_0, hx177_1, hx177_2, hx177_3, hx177_4, hx177_5, hx177_6, hx177_7, hx177_8, hx177_9, hx177_10, hx177_11, hx177_12, hx177_13, hl177_4, hi177_4, hl177_5, hi177_5, hl177_6, hi177_6, hl177_7, hi177_7, hl177_8, hi177_8, hl177_12, hi177_12, hl177_13, hi177_13⟩ := at_T74 HR0.out x4_1 p177 q177
              cases e177
              replace hx177_0 := (HB.out.cell (World.block_lt_of_cell? w _ hx177_0)).trans hx177_0
              replace hx177_1 := (HB.out.cell (World.block_lt_of_cell? w _ hx177_1)).trans hx177_1
              replace hx177_2 := (HB.out.cell (World.block_lt_of_cell? w _ hx177_2)).trans hx177_2
              replace hx177_3 := (HB.out.cell (World.block_lt_of_cell? w _ hx177_3)).trans hx177_3
              replace hx177_4 := (HB.out.cell (World.block_lt_of_cell? w _ hx177_4)).trans hx177_4
              replace hx177_5 := (HB.out.cell (World.block_lt_of_cell? w _ hx177_5)).trans hx177_5
              replace hx177_6 := (HB.out.cell (World.block_lt_of_cell? w _ hx177_6)).trans hx177_6
              replace hx177_7 := (HB.out.cell (World.block_lt_of_cell? w _ hx177_7)).trans hx177_7
              replace hx177_8 := (HB.out.cell (World.block_lt_of_cell? w _ hx177_8)).trans hx177_8
              replace hx177_9 := (HB.out.cell (World.block_lt_of_cell? w _ hx177_9)).trans hx177_9
              replace hx177_10 := (HB.out.cell (World.block_lt_of_cell? w _ hx177_10)).trans hx177_10
              replace hx177_11 := (HB.out.cell (World.block_lt_of_cell? w _ hx177_11)).trans hx177_11
              replace hx177_12 := (HB.out.cell (World.block_lt_of_cell? w _ hx177_12)).trans hx177_12
              replace hx177_13 := (HB.out.cell (World.block_lt_of_cell? w _ hx177_13)).trans hx177_13
              have HR177_4 := Aside0.mk hi177_4
              have HC177_4 := Aside0.mk hl177_4
              clear hi177_4 hl177_4
              have HR177_5 := Aside0.mk hi177_5
              have HC177_5 := Aside0.mk hl177_5
              clear hi177_5 hl177_5
              have HR177_6 := Aside0.mk hi177_6
              have HC177_6 := Aside0.mk hl177_6
              clear hi177_6 hl177_6
              have HR177_7 := Aside0.mk hi177_7
              have HC177_7 := Aside0.mk hl177_7
              clear hi177_7 hl177_7
              have HR177_8 := Aside0.mk hi177_8
              have HC177_8 := Aside0.mk hl177_8
              clear hi177_8 hl177_8
              have HR177_12 := Aside0.mk hi177_12
              have HC177_12 := Aside0.mk hl177_12
              clear hi177_12 hl177_12
              have HR177_13 := Aside0.mk hi177_13
              have HC177_13 := Aside0.mk hl177_13
              clear hi177_13 hl177_13
              replace p177 := eq_true p177
              replace q177 := eq_true q177
              go_wp2_with (first | ((with_reducible refine gate_callee (f := 89) rfl ?_); refine goesL_ (some 18) rfl rfl Try.func89 (by kernel_rfl) rfl #[.int .i64 ((rd_T74 l0 x4_1).f0)] rfl (by (try simp only [List.map_toArray, List.map_cons, List.map_nil]); first | done | rfl | (simp only [List.length_drop, List.length_take]; rfl)) ?_; (with_reducible refine (deadfallref15_wall.calls ((rd_T74 l0 x4_1).f0) true _ A7.out).mono ?_); rintro e w' ⟨rfl, ⟨nd, rfl⟩⟩; refine ⟨_, rfl, ?_⟩))
              go_ret
              exact ⟨_, by first | rfl | (simp [errW_none, errW_some] <;> rfl) | (simp [*, errW_none, errW_some] <;> rfl), by (with_reducible repeat (first | apply Kd.R_alloc | apply Kd.R_drewN | apply Kd.R_drew)); exact HO_3.out, by repeat (first | (with_reducible first | exact HB.out | apply below_alloc | apply pw_below_drewN | apply below_drew1) | exact HB.out)⟩
            · replace c8 := Bool.eq_false_iff.mpr c8
              subst c8
              have H1 : ((deadfallref15_loop.f ((rd_T74 l0 x4_1).f0)).bind fun t180 => (if t180 = true then (if x3_1.length < 17592186044416 then (deadfallref15_loops.l0 k1 l0 (x3_1 ++ [x4_1]) (wrap64 (x4_1 - 1))) else (none)) else (deadfallref15_loops.l0 k1 l0 x3_1 (wrap64 (x4_1 - 1))))) = some r := by rw [if_neg (show ¬ (false = true) by decide)] at H; exact H
              clear H
              have H := H1
              clear H1
              replace H := Option.bind_eq_some_iff.mp H
              obtain ⟨t180, A90, H⟩ := H
              replace H : (if t180 = true then (if x3_1.length < 17592186044416 then (deadfallref15_loops.l0 k1 l0 (x3_1 ++ [x4_1]) (wrap64 (x4_1 - 1))) else (none)) else (deadfallref15_loops.l0 k1 l0 x3_1 (wrap64 (x4_1 - 1)))) = some r := H
              have A9 := Aside0.mk A90
              clear A90
              by_cases c10 : t180 = true
              · subst c10
                have H1 : (if x3_1.length < 17592186044416 then (deadfallref15_loops.l0 k1 l0 (x3_1 ++ [x4_1]) (wrap64 (x4_1 - 1))) else (none)) = some r := by rw [if_pos rfl] at H; exact H
                clear H
                have H := H1
                clear H1
                by_cases c11 : x3_1.length < 17592186044416
                · rw [if_pos c11] at H
                  have LMc11 := Aside0.mk c11
                  clear c11
                  obtain ⟨y181, hy181⟩ : ∃ y_ : List Int, y_ = (x3_1 ++ [x4_1]) := ⟨_, rfl⟩
                  replace H : (deadfallref15_loops.l0 k1 l0 y181 (wrap64 (x4_1 - 1))) = some r := by first | (rw [hy181]; with_reducible exact H) | (have H2_ := (Option.bind_some _ _).symm.trans H; rw [hy181]; with_reducible exact H2_) | (have H2_ := (Option.bind_some _ _).symm.trans H; with_reducible exact H2_) | with_reducible exact H | (rw [hy181]; exact H) | exact H
                  have Ny181 := Aside0.mk hy181
                  clear hy181
                  have H' := Aside0.mk H
                  clear H
                  have p177 : 0 ≤ (x4_1 : Int) := of_decide_eq_true (by first | (with_reducible assumption) | assumption)
                  have q177 : x4_1 < (l0.length : Int) := of_decide_eq_true (by first | (with_reducible assumption) | assumption)
                  obtain ⟨ad177, A177_4, c177_4, A177_5, c177_5, A177_6, c177_6, A177_7, c177_7, A177_8, c177_8, A177_12, c177_12, A177_13, c177_13, e177, hx177_0, hx177_1, hx177_2, hx177_3, hx177_4, hx177_5, hx177_6, hx177_7, hx177_8, hx177_9, hx177_10, hx177_11, hx177_12, hx177_13, hl177_4, hi177_4, hl177_5, hi177_5, hl177_6, hi177_6, hl177_7, hi177_7, hl177_8, hi177_8, hl177_12, hi177_12, hl177_13, hi177_13⟩ := at_T74 HR0.out x4_1 p177 q177
                  cases e177
                  replace hx177_0 := (HB.out.cell (World.block_lt_of_cell? w _ hx177_0)).trans hx177_0
                  replace hx177_1 := (HB.out.cell (World.block_lt_of_cell? w _ hx177_1)).trans hx177_1
                  replace hx177_2 := (HB.out.cell (World.block_lt_of_cell? w _ hx177_2)).trans hx177_2
                  replace hx177_3 := (HB.out.cell (World.block_lt_of_cell? w _ hx177_3)).trans hx177_3
                  replace hx177_4 := (HB.out.cell (World.block_lt_of_cell? w _ hx177_4)).trans hx177_4
                  replace hx177_5 := (HB.out.cell (World.block_lt_of_cell? w _ hx177_5)).trans hx177_5
                  replace hx177_6 := (HB.out.cell (World.block_lt_of_cell? w _ hx177_6)).trans hx177_6
                  replace hx177_7 := (HB.out.cell (World.block_lt_of_cell? w _ hx177_7)).trans hx177_7
                  replace hx177_8 := (HB.out.cell (World.block_lt_of_cell? w _ hx177_8)).trans hx177_8
                  replace hx177_9 := (HB.out.cell (World.block_lt_of_cell? w _ hx177_9)).trans hx177_9
                  replace hx177_10 := (HB.out.cell (World.block_lt_of_cell? w _ hx177_10)).trans hx177_10
                  replace hx177_11 := (HB.out.cell (World.block_lt_of_cell? w _ hx177_11)).trans hx177_11
                  replace hx177_12 := (HB.out.cell (World.block_lt_of_cell? w _ hx177_12)).trans hx177_12
                  replace hx177_13 := (HB.out.cell (World.block_lt_of_cell? w _ hx177_13)).trans hx177_13
                  have HR177_4 := Aside0.mk hi177_4
                  have HC177_4 := Aside0.mk hl177_4
                  clear hi177_4 hl177_4
                  have HR177_5 := Aside0.mk hi177_5
                  have HC177_5 := Aside0.mk hl177_5
                  clear hi177_5 hl177_5
                  have HR177_6 := Aside0.mk hi177_6
                  have HC177_6 := Aside0.mk hl177_6
                  clear hi177_6 hl177_6
                  have HR177_7 := Aside0.mk hi177_7
                  have HC177_7 := Aside0.mk hl177_7
                  clear hi177_7 hl177_7
                  have HR177_8 := Aside0.mk hi177_8
                  have HC177_8 := Aside0.mk hl177_8
                  clear hi177_8 hl177_8
                  have HR177_12 := Aside0.mk hi177_12
                  have HC177_12 := Aside0.mk hl177_12
                  clear hi177_12 hl177_12
                  have HR177_13 := Aside0.mk hi177_13
                  have HC177_13 := Aside0.mk hl177_13
                  clear hi177_13 hl177_13
                  replace p177 := eq_true p177
                  replace q177 := eq_true q177
                  go_wp2_with (first | ((with_reducible refine gate_callee (f := 89) rfl ?_); refine goesL_ (some 18) rfl rfl Try.func89 (by kernel_rfl) rfl #[.int .i64 ((rd_T74 l0 x4_1).f0)] rfl (by (try simp only [List.map_toArray, List.map_cons, List.map_nil]); first | done | rfl | (simp only [List.length_drop, List.length_take]; rfl)) ?_; (with_reducible refine (deadfallref15_wall.calls ((rd_T74 l0 x4_1).f0) false _ A7.out).mono ?_); rintro e w' ⟨rfl, ⟨nd, rfl⟩⟩; refine ⟨_, rfl, ?_⟩; have p179 : 0 ≤ (x4_1 : Int) := of_decide_eq_true (by first | (with_reducible assumption) | assumption); have q179 : x4_1 < (l0.length : Int) := of_decide_eq_true (by first | (with_reducible assumption) | assumption); obtain ⟨ad179, A179_4, c179_4, A179_5, c179_5, A179_6, c179_6, A179_7, c179_7, A179_8, c179_8, A179_12, c179_12, A179_13, c179_13, e179, hx179_0, hx179_1, hx179_2, hx179_3, hx179_4, hx179_5, hx179_6, hx179_7, hx179_8, hx179_9, hx179_10, hx179_11, hx179_12, hx179_13, hl179_4, hi179_4, hl179_5, hi179_5, hl179_6, hi179_6, hl179_7, hi179_7, hl179_8, hi179_8, hl179_12, hi179_12, hl179_13, hi179_13⟩ := at_T74 HR0.out x4_1 p179 q179; obtain rfl : ad177 = ad179 := (by injection e179); replace hx179_0 := (HB.out.cell (World.block_lt_of_cell? w _ hx179_0)).trans hx179_0; replace hx179_1 := (HB.out.cell (World.block_lt_of_cell? w _ hx179_1)).trans hx179_1; replace hx179_2 := (HB.out.cell (World.block_lt_of_cell? w _ hx179_2)).trans hx179_2; replace hx179_3 := (HB.out.cell (World.block_lt_of_cell? w _ hx179_3)).trans hx179_3; replace hx179_4 := (HB.out.cell (World.block_lt_of_cell? w _ hx179_4)).trans hx179_4; replace hx179_5 := (HB.out.cell (World.block_lt_of_cell? w _ hx179_5)).trans hx179_5; replace hx179_6 := (HB.out.cell (World.block_lt_of_cell? w _ hx179_6)).trans hx179_6; replace hx179_7 := (HB.out.cell (World.block_lt_of_cell? w _ hx179_7)).trans hx179_7; replace hx179_8 := (HB.out.cell (World.block_lt_of_cell? w _ hx179_8)).trans hx179_8; replace hx179_9 := (HB.out.cell (World.block_lt_of_cell? w _ hx179_9)).trans hx179_9; replace hx179_10 := (HB.out.cell (World.block_lt_of_cell? w _ hx179_10)).trans hx179_10; replace hx179_11 := (HB.out.cell (World.block_lt_of_cell? w _ hx179_11)).trans hx179_11; replace hx179_12 := (HB.out.cell (World.block_lt_of_cell? w _ hx179_12)).trans hx179_12; replace hx179_13 := (HB.out.cell (World.block_lt_of_cell? w _ hx179_13)).trans hx179_13; have HR179_4 := Aside0.mk hi179_4; have HC179_4 := Aside0.mk hl179_4; clear hi179_4 hl179_4; have HR179_5 := Aside0.mk hi179_5; have HC179_5 := Aside0.mk hl179_5; clear hi179_5 hl179_5; have HR179_6 := Aside0.mk hi179_6; have HC179_6 := Aside0.mk hl179_6; clear hi179_6 hl179_6; have HR179_7 := Aside0.mk hi179_7; have HC179_7 := Aside0.mk hl179_7; clear hi179_7 hl179_7; have HR179_8 := Aside0.mk hi179_8; have HC179_8 := Aside0.mk hl179_8; clear hi179_8 hl179_8; have HR179_12 := Aside0.mk hi179_12; have HC179_12 := Aside0.mk hl179_12; clear hi179_12 hl179_12; have HR179_13 := Aside0.mk hi179_13; have HC179_13 := Aside0.mk hl179_13; clear hi179_13 hl179_13; replace p179 := eq_true p179; replace q179 := eq_true q179; have ea_ := Option.some.inj (hx177_4.symm.trans hx179_4); injection ea_ with ea_ en_ ec_; subst ea_; subst ec_; clear en_; have ea_ := Option.some.inj (hx177_5.symm.trans hx179_5); injection ea_ with ea_ en_ ec_; subst ea_; subst ec_; clear en_; have ea_ := Option.some.inj (hx177_6.symm.trans hx179_6); injection ea_ with ea_ en_ ec_; subst ea_; subst ec_; clear en_; have ea_ := Option.some.inj (hx177_7.symm.trans hx179_7); injection ea_ with ea_ en_ ec_; subst ea_; subst ec_; clear en_; have ea_ := Option.some.inj (hx177_8.symm.trans hx179_8); injection ea_ with ea_ en_ ec_; subst ea_; subst ec_; clear en_; have ea_ := Option.some.inj (hx177_12.symm.trans hx179_12); injection ea_ with ea_ en_ ec_; subst ea_; subst ec_; clear en_; have ea_ := Option.some.inj (hx177_13.symm.trans hx179_13); injection ea_ with ea_ en_ ec_; subst ea_; subst ec_; clear en_) | ((with_reducible refine gate_callee (f := 115) rfl ?_); refine goesL_ (some 25) rfl rfl Try.func115 (by kernel_rfl) rfl #[.int .i64 ((rd_T74 l0 x4_1).f0)] rfl (by (try simp only [List.map_toArray, List.map_cons, List.map_nil]); first | done | rfl | (simp only [List.length_drop, List.length_take]; rfl)) ?_; (with_reducible refine (deadfallref15_loop.calls ((rd_T74 l0 x4_1).f0) true _ A9.out).mono ?_); rintro e w' ⟨rfl, ⟨nd, rfl⟩⟩; refine ⟨_, rfl, ?_⟩) | ((with_reducible refine gate_builtin (b := .append) (xs := #[.tmp 26, .tmp 28]) rfl ?_); at_builtin; refine Kd.R_append (Kd.int .i64) (w0 := w) w.heap.size rfl (.tmp 26) (.tmp 28) 58 3 (.int .i64 0) 8 rfl Try.underlying58 info3 rfl (by decide) (by omega) u3 x3_1 x4_1 [.int .i64 x4_1] (fun _ => True) (fun _ => False) rfl rfl ?aP (fun _ hk => hk.elim) ?aF ?aO ?aB ?aS ?aL ?_; (case aP => exact rfl); (case aB => exact (by repeat (first | (with_reducible first | exact HB.out | apply below_alloc | apply pw_below_drewN | apply below_drew1) | exact HB.out))); (case aF => exact (fun _ _ => trivial)); (case aO => exact (by (with_reducible repeat (first | apply Kd.R_alloc | apply Kd.R_drewN | apply Kd.R_drew)); exact HO_3.out)); (case aS => exact (below_size (by repeat (first | (with_reducible first | exact HB.out | apply below_alloc | apply pw_below_drewN | apply below_drew1) | exact HB.out)))); (case aL => have := LMc11.out; omega); intro v182 w12 ho hb hg hat; rw [← Ny181.out] at ho; have n0_ := Aside0.mk (hb); have n1_ := Aside0.mk (ho); clear HB; clear HO_3; have HB := n0_; have HO183 := n1_; clear n0_ n1_; clear ho hb hg hat))
                  go_roundg k1
                  case measure => have := HK1.out; omega
                  case rel => exact ⟨(y181), (wrap64 (x4_1 - 1)), (by first | rfl | (simp; done) | (simp [*]; done)), H', ⟨by have := HK1.out; omega⟩, ⟨by (with_reducible repeat (first | apply Kd.R_alloc | apply Kd.R_drewN | apply Kd.R_drew)); exact HO183.out⟩, ⟨by repeat (first | (with_reducible first | exact HB.out | apply below_alloc | apply pw_below_drewN | apply below_drew1) | exact HB.out)⟩⟩
                · rw [if_neg c11] at H
                  exact absurd H (by simp)
              · replace c10 := Bool.eq_false_iff.mpr c10
                subst c10
                have H1 : (deadfallref15_loops.l0 k1 l0 x3_1 (wrap64 (x4_1 - 1))) = some r := by rw [if_neg (show ¬ (false = true) by decide)] at H; exact H
                clear H
                have H := H1
                clear H1
                have H' := Aside0.mk H
                clear H
                have p177 : 0 ≤ (x4_1 : Int) := of_decide_eq_true (by first | (with_reducible assumption) | assumption)
                have q177 : x4_1 < (l0.length : Int) := of_decide_eq_true (by first | (with_reducible assumption) | assumption)
                obtain ⟨ad177, A177_4, c177_4, A177_5, c177_5, A177_6, c177_6, A177_7, c177_7, A177_8, c177_8, A177_12, c177_12, A177_13, c177_13, e177, hx177_0, hx177_1, hx177_2, hx177_3, hx177_4, hx177_5, hx177_6, hx177_7, hx177_8, hx177_9, hx177_10, hx177_11, hx177_12, hx177_13, hl177_4, hi177_4, hl177_5, hi177_5, hl177_6, hi177_6, hl177_7, hi177_7, hl177_8, hi177_8, hl177_12, hi177_12, hl177_13, hi177_13⟩ := at_T74 HR0.out x4_1 p177 q177
                cases e177
                replace hx177_0 := (HB.out.cell (World.block_lt_of_cell? w _ hx177_0)).trans hx177_0
                replace hx177_1 := (HB.out.cell (World.block_lt_of_cell? w _ hx177_1)).trans hx177_1
                replace hx177_2 := (HB.out.cell (World.block_lt_of_cell? w _ hx177_2)).trans hx177_2
                replace hx177_3 := (HB.out.cell (World.block_lt_of_cell? w _ hx177_3)).trans hx177_3
                replace hx177_4 := (HB.out.cell (World.block_lt_of_cell? w _ hx177_4)).trans hx177_4
                replace hx177_5 := (HB.out.cell (World.block_lt_of_cell? w _ hx177_5)).trans hx177_5
                replace hx177_6 := (HB.out.cell (World.block_lt_of_cell? w _ hx177_6)).trans hx177_6
                replace hx177_7 := (HB.out.cell (World.block_lt_of_cell? w _ hx177_7)).trans hx177_7
                replace hx177_8 := (HB.out.cell (World.block_lt_of_cell? w _ hx177_8)).trans hx177_8
                replace hx177_9 := (HB.out.cell (World.block_lt_of_cell? w _ hx177_9)).trans hx177_9
                replace hx177_10 := (HB.out.cell (World.block_lt_of_cell? w _ hx177_10)).trans hx177_10
                replace hx177_11 := (HB.out.cell (World.block_lt_of_cell? w _ hx177_11)).trans hx177_11
                replace hx177_12 := (HB.out.cell (World.block_lt_of_cell? w _ hx177_12)).trans hx177_12
                replace hx177_13 := (HB.out.cell (World.block_lt_of_cell? w _ hx177_13)).trans hx177_13
                have HR177_4 := Aside0.mk hi177_4
                have HC177_4 := Aside0.mk hl177_4
                clear hi177_4 hl177_4
                have HR177_5 := Aside0.mk hi177_5
                have HC177_5 := Aside0.mk hl177_5
                clear hi177_5 hl177_5
                have HR177_6 := Aside0.mk hi177_6
                have HC177_6 := Aside0.mk hl177_6
                clear hi177_6 hl177_6
                have HR177_7 := Aside0.mk hi177_7
                have HC177_7 := Aside0.mk hl177_7
                clear hi177_7 hl177_7
                have HR177_8 := Aside0.mk hi177_8
                have HC177_8 := Aside0.mk hl177_8
                clear hi177_8 hl177_8
                have HR177_12 := Aside0.mk hi177_12
                have HC177_12 := Aside0.mk hl177_12
                clear hi177_12 hl177_12
                have HR177_13 := Aside0.mk hi177_13
                have HC177_13 := Aside0.mk hl177_13
                clear hi177_13 hl177_13
                replace p177 := eq_true p177
                replace q177 := eq_true q177
                go_wp2_with (first | ((with_reducible refine gate_callee (f := 89) rfl ?_); refine goesL_ (some 18) rfl rfl Try.func89 (by kernel_rfl) rfl #[.int .i64 ((rd_T74 l0 x4_1).f0)] rfl (by (try simp only [List.map_toArray, List.map_cons, List.map_nil]); first | done | rfl | (simp only [List.length_drop, List.length_take]; rfl)) ?_; (with_reducible refine (deadfallref15_wall.calls ((rd_T74 l0 x4_1).f0) false _ A7.out).mono ?_); rintro e w' ⟨rfl, ⟨nd, rfl⟩⟩; refine ⟨_, rfl, ?_⟩; have p179 : 0 ≤ (x4_1 : Int) := of_decide_eq_true (by first | (with_reducible assumption) | assumption); have q179 : x4_1 < (l0.length : Int) := of_decide_eq_true (by first | (with_reducible assumption) | assumption); obtain ⟨ad179, A179_4, c179_4, A179_5, c179_5, A179_6, c179_6, A179_7, c179_7, A179_8, c179_8, A179_12, c179_12, A179_13, c179_13, e179, hx179_0, hx179_1, hx179_2, hx179_3, hx179_4, hx179_5, hx179_6, hx179_7, hx179_8, hx179_9, hx179_10, hx179_11, hx179_12, hx179_13, hl179_4, hi179_4, hl179_5, hi179_5, hl179_6, hi179_6, hl179_7, hi179_7, hl179_8, hi179_8, hl179_12, hi179_12, hl179_13, hi179_13⟩ := at_T74 HR0.out x4_1 p179 q179; obtain rfl : ad177 = ad179 := (by injection e179); replace hx179_0 := (HB.out.cell (World.block_lt_of_cell? w _ hx179_0)).trans hx179_0; replace hx179_1 := (HB.out.cell (World.block_lt_of_cell? w _ hx179_1)).trans hx179_1; replace hx179_2 := (HB.out.cell (World.block_lt_of_cell? w _ hx179_2)).trans hx179_2; replace hx179_3 := (HB.out.cell (World.block_lt_of_cell? w _ hx179_3)).trans hx179_3; replace hx179_4 := (HB.out.cell (World.block_lt_of_cell? w _ hx179_4)).trans hx179_4; replace hx179_5 := (HB.out.cell (World.block_lt_of_cell? w _ hx179_5)).trans hx179_5; replace hx179_6 := (HB.out.cell (World.block_lt_of_cell? w _ hx179_6)).trans hx179_6; replace hx179_7 := (HB.out.cell (World.block_lt_of_cell? w _ hx179_7)).trans hx179_7; replace hx179_8 := (HB.out.cell (World.block_lt_of_cell? w _ hx179_8)).trans hx179_8; replace hx179_9 := (HB.out.cell (World.block_lt_of_cell? w _ hx179_9)).trans hx179_9; replace hx179_10 := (HB.out.cell (World.block_lt_of_cell? w _ hx179_10)).trans hx179_10; replace hx179_11 := (HB.out.cell (World.block_lt_of_cell? w _ hx179_11)).trans hx179_11; replace hx179_12 := (HB.out.cell (World.block_lt_of_cell? w _ hx179_12)).trans hx179_12; replace hx179_13 := (HB.out.cell (World.block_lt_of_cell? w _ hx179_13)).trans hx179_13; have HR179_4 := Aside0.mk hi179_4; have HC179_4 := Aside0.mk hl179_4; clear hi179_4 hl179_4; have HR179_5 := Aside0.mk hi179_5; have HC179_5 := Aside0.mk hl179_5; clear hi179_5 hl179_5; have HR179_6 := Aside0.mk hi179_6; have HC179_6 := Aside0.mk hl179_6; clear hi179_6 hl179_6; have HR179_7 := Aside0.mk hi179_7; have HC179_7 := Aside0.mk hl179_7; clear hi179_7 hl179_7; have HR179_8 := Aside0.mk hi179_8; have HC179_8 := Aside0.mk hl179_8; clear hi179_8 hl179_8; have HR179_12 := Aside0.mk hi179_12; have HC179_12 := Aside0.mk hl179_12; clear hi179_12 hl179_12; have HR179_13 := Aside0.mk hi179_13; have HC179_13 := Aside0.mk hl179_13; clear hi179_13 hl179_13; replace p179 := eq_true p179; replace q179 := eq_true q179; have ea_ := Option.some.inj (hx177_4.symm.trans hx179_4); injection ea_ with ea_ en_ ec_; subst ea_; subst ec_; clear en_; have ea_ := Option.some.inj (hx177_5.symm.trans hx179_5); injection ea_ with ea_ en_ ec_; subst ea_; subst ec_; clear en_; have ea_ := Option.some.inj (hx177_6.symm.trans hx179_6); injection ea_ with ea_ en_ ec_; subst ea_; subst ec_; clear en_; have ea_ := Option.some.inj (hx177_7.symm.trans hx179_7); injection ea_ with ea_ en_ ec_; subst ea_; subst ec_; clear en_; have ea_ := Option.some.inj (hx177_8.symm.trans hx179_8); injection ea_ with ea_ en_ ec_; subst ea_; subst ec_; clear en_; have ea_ := Option.some.inj (hx177_12.symm.trans hx179_12); injection ea_ with ea_ en_ ec_; subst ea_; subst ec_; clear en_; have ea_ := Option.some.inj (hx177_13.symm.trans hx179_13); injection ea_ with ea_ en_ ec_; subst ea_; subst ec_; clear en_) | ((with_reducible refine gate_callee (f := 115) rfl ?_); refine goesL_ (some 25) rfl rfl Try.func115 (by kernel_rfl) rfl #[.int .i64 ((rd_T74 l0 x4_1).f0)] rfl (by (try simp only [List.map_toArray, List.map_cons, List.map_nil]); first | done | rfl | (simp only [List.length_drop, List.length_take]; rfl)) ?_; (with_reducible refine (deadfallref15_loop.calls ((rd_T74 l0 x4_1).f0) false _ A9.out).mono ?_); rintro e w' ⟨rfl, ⟨nd, rfl⟩⟩; refine ⟨_, rfl, ?_⟩))
                go_roundg k1
                case measure => have := HK1.out; omega
                case rel => exact ⟨(x3_1), (wrap64 (x4_1 - 1)), (by first | rfl | (simp; done) | (simp [*]; done)), H', ⟨by have := HK1.out; omega⟩, ⟨by (with_reducible repeat (first | apply Kd.R_alloc | apply Kd.R_drewN | apply Kd.R_drew)); exact HO_3.out⟩, ⟨by repeat (first | (with_reducible first | exact HB.out | apply below_alloc | apply pw_below_drewN | apply below_drew1) | exact HB.out)⟩⟩
          · rw [if_neg c6] at H
            exact absurd H (by simp)
        · rw [if_neg c5] at H
          exact absurd H (by simp)
      · rw [if_neg c4] at H
        have c4b0 : decide (0 ≤ x4_1) = false := decide_eq_false c4
        clear c4
        obtain rfl := Option.some.inj H
        go_wp2
        go_ret
        exact ⟨_, by first | rfl | (simp [errW_none, errW_some] <;> rfl) | (simp [*, errW_none, errW_some] <;> rfl), by (with_reducible repeat (first | apply Kd.R_alloc | apply Kd.R_drewN | apply Kd.R_drew)); exact HO_3.out, by repeat (first | (with_reducible first | exact HB.out | apply below_alloc | apply pw_below_drewN | apply below_drew1) | exact HB.out)⟩

/-! ### deadfallref15_Break: function 38 -/
/-! ### deadfallref15_Saved: function 90 -/
def deadfallref15_Saved.l0 : Nat → List (S74) → Int → Option (Int × Bool)
  | 0, _, _ => none
  | k + 1, x0, x4 => if x4 ≥ 0 then (if 0 ≤ x4 then (if x4 < (x0.length : Int) then (if ((rd_T74 x0 x4).f0) = 12 then (some ((rd_T74 x0 x4).f3, true)) else (if ((rd_T74 x0 x4).f0) = 13 then (some ((rd_T74 x0 x4).f3, true)) else (deadfallref15_Saved.l0 k x0 (wrap64 (x4 - 1))))) else (none)) else (none)) else (some (0, false))
def deadfallref15_Saved.f (k : Nat) (l0 : List (S74)) : Option (Int × Bool) := deadfallref15_Saved.l0 k l0 (wrap64 ((l0.length : Int) - 1))
theorem deadfallref15_Saved.mono_l : ∀ k, (∀ y0 y1, LeO (deadfallref15_Saved.l0 k y0 y1) (deadfallref15_Saved.l0 (k + 1) y0 y1))
  | 0 => fun _ _ r h => by simp [deadfallref15_Saved.l0] at h
  | k + 1 => by
    have ih0 := deadfallref15_Saved.mono_l k
    · intro y0 y1
      unfold deadfallref15_Saved.l0
      repeat' first
      | (with_reducible exact ih0 _ _)
      | (with_reducible exact LeO.refl _)
      | (with_reducible exact LeO.none _)
      | (with_reducible refine LeO.ite ?_ ?_)
      | (with_reducible refine LeO.bind ?_ (fun _ => ?_))
      | exact ih0 _ _
      | exact LeO.none _
      | refine LeO.ite ?_ ?_
      | refine LeO.bind ?_ (fun _ => ?_)
theorem deadfallref15_Saved.mono : ∀ a0 k, LeO (deadfallref15_Saved.f k a0) (deadfallref15_Saved.f (k + 1) a0) := by
  intro a0 k
  have ih0 := deadfallref15_Saved.mono_l k
  unfold deadfallref15_Saved.f
  repeat' first
      | (with_reducible exact ih0 _ _)
      | (with_reducible exact LeO.refl _)
      | (with_reducible exact LeO.none _)
      | (with_reducible refine LeO.ite ?_ ?_)
      | (with_reducible refine LeO.bind ?_ (fun _ => ?_))
      | exact ih0 _ _
      | exact LeO.none _
      | refine LeO.ite ?_ ?_
      | refine LeO.bind ?_ (fun _ => ?_)
set_option maxHeartbeats 8000000 in
set_option maxRecDepth 100000 in
theorem deadfallref15_Saved.calls (k : Nat) (A0 : Option Addr) (c0 : Nat) (l0 : List (S74)) (r1 : Int) (r2 : Bool) (w : World) (hr0 : Kd.C k74 w A0 l0.length l0) (hc0 : l0.length ≤ c0) (h : deadfallref15_Saved.f k l0 = some (r1, r2)) :
    Calls Try.prog 90 #[.slice A0 l0.length c0] w fun e w' => e = .returned (.tuple #[.int .i64 r1, .bool r2]) ∧ Drawn0 w w' := by
  have HR0 := Aside0.mk hr0
  have HC0 := Aside0.mk hc0
  clear hr0 hc0
  have H : (deadfallref15_Saved.l0 k l0 (wrap64 ((l0.length : Int) - 1))) = some (r1, r2) := h
  clear h
  have H' := Aside0.mk H
  clear H
  go_enter Try.func90, Try.ntmps90
  go_wp2
  go_loopg [4] k (fun kq v4 w' => ∃ (x4_1 : Int), v4 = .int .i64 x4_1 ∧ Aside0 (deadfallref15_Saved.l0 kq l0 x4_1 = some (r1, r2)) ∧ Aside0 (kq ≤ k) ∧ Drawn0 w w')
  case atStart => exact ⟨(wrap64 ((l0.length : Int) - 1)), (by first | rfl | (simp; done) | (simp [*]; done)), H', ⟨Nat.le_refl _⟩, by repeat (first | exact Drawn0.refl _ | apply Drawn0.step)⟩
  case round =>
    clear H'
    obtain ⟨x4_1, rfl, HA, HK1, ⟨m1, rfl⟩⟩ := hrel
    cases gk with
    | zero => exact absurd HA.out (by simp [deadfallref15_Saved.l0])
    | succ k1 =>
      have H := HA.out
      clear HA
      simp only [deadfallref15_Saved.l0] at H
      by_cases c2 : x4_1 ≥ 0
      · rw [if_pos c2] at H
        have c2b0 : decide (0 ≤ x4_1) = true := decide_eq_true c2
        clear c2
        by_cases c3 : 0 ≤ x4_1
        · rw [if_pos c3] at H
          have c3b0 : decide (0 ≤ x4_1) = true := decide_eq_true c3
          clear c3
          by_cases c4 : x4_1 < (l0.length : Int)
          · rw [if_pos c4] at H
            have c4b0 : decide (x4_1 < (l0.length : Int)) = true := decide_eq_true c4
            clear c4
            by_cases c5 : ((rd_T74 l0 x4_1).f0) = 12
            · rw [if_pos c5] at H
              have c5b0 : (((rd_T74 l0 x4_1).f0) == 12) = true := beq_iff_eq.mpr c5
              have c5b1 : (((rd_T74 l0 x4_1).f0) != 12) = false := bne_eq_false_iff_eq.mpr c5
              clear c5
              simp only [Option.some.injEq, Prod.mk.injEq] at H
              obtain ⟨rfl, rfl⟩ := H
              have p261 : 0 ≤ (x4_1 : Int) := of_decide_eq_true (by first | (with_reducible assumption) | assumption)
              have q261 : x4_1 < (l0.length : Int) := of_decide_eq_true (by first | (with_reducible assumption) | assumption)
              obtain ⟨ad261, A261_4, c261_4, A261_5, c261_5, A261_6, c261_6, A261_7, c261_7, A261_8, c261_8, A261_12, c261_12, A261_13, c261_13, e261, hx261_0, hx261_1, hx261_2, hx261_3, hx261_4, hx261_5, hx261_6, hx261_7, hx261_8, hx261_9, hx261_10, hx261_11, hx261_12, hx261_13, hl261_4, hi261_4, hl261_5, hi261_5, hl261_6, hi261_6, hl261_7, hi261_7, hl261_8, hi261_8, hl261_12, hi261_12, hl261_13, hi261_13⟩ := at_T74 HR0.out x4_1 p261 q261
              cases e261
              have HR261_4 := Aside0.mk hi261_4
              have HC261_4 := Aside0.mk hl261_4
              clear hi261_4 hl261_4
              have HR261_5 := Aside0.mk hi261_5
              have HC261_5 := Aside0.mk hl261_5
              clear hi261_5 hl261_5
              have HR261_6 := Aside0.mk hi261_6
              have HC261_6 := Aside0.mk hl261_6
              clear hi261_6 hl261_6
              have HR261_7 := Aside0.mk hi261_7
              have HC261_7 := Aside0.mk hl261_7
              clear hi261_7 hl261_7
              have HR261_8 := Aside0.mk hi261_8
              have HC261_8 := Aside0.mk hl261_8
              clear hi261_8 hl261_8
              have HR261_12 := Aside0.mk hi261_12
              have HC261_12 := Aside0.mk hl261_12
              clear hi261_12 hl261_12
              have HR261_13 := Aside0.mk hi261_13
              have HC261_13 := Aside0.mk hl261_13
              clear hi261_13 hl261_13
              replace p261 := eq_true p261
              replace q261 := eq_true q261
              have p262 : 0 ≤ (x4_1 : Int) := of_decide_eq_true (by first | (with_reducible assumption) | assumption)
              have q262 : x4_1 < (l0.length : Int) := of_decide_eq_true (by first | (with_reducible assumption) | assumption)
              obtain ⟨ad262, A262_4, c262_4, A262_5, c262_5, A262_6, c262_6, A262_7, c262_7, A262_8, c262_8, A262_12, c262_12, A262_13, c262_13, e262, hx262_0, hx262_1, hx262_2, hx262_3, hx262_4, hx262_5, hx262_6, hx262_7, hx262_8, hx262_9, hx262_10, hx262_11, hx262_12, hx262_13, hl262_4, hi262_4, hl262_5, hi262_5, hl262_6, hi262_6, hl262_7, hi262_7, hl262_8, hi262_8, hl262_12, hi262_12, hl262_13, hi262_13⟩ := at_T74 HR0.out x4_1 p262 q262
              obtain rfl : ad261 = ad262 := (by injection e262)
              have HR262_4 := Aside0.mk hi262_4
              have HC262_4 := Aside0.mk hl262_4
              clear hi262_4 hl262_4
              have HR262_5 := Aside0.mk hi262_5
              have HC262_5 := Aside0.mk hl262_5
              clear hi262_5 hl262_5
              have HR262_6 := Aside0.mk hi262_6
              have HC262_6 := Aside0.mk hl262_6
              clear hi262_6 hl262_6
              have HR262_7 := Aside0.mk hi262_7
              have HC262_7 := Aside0.mk hl262_7
              clear hi262_7 hl262_7
              have HR262_8 := Aside0.mk hi262_8
              have HC262_8 := Aside0.mk hl262_8
              clear hi262_8 hl262_8
              have HR262_12 := Aside0.mk hi262_12
              have HC262_12 := Aside0.mk hl262_12
              clear hi262_12 hl262_12
              have HR262_13 := Aside0.mk hi262_13
              have HC262_13 := Aside0.mk hl262_13
              clear hi262_13 hl262_13
              replace p262 := eq_true p262
              replace q262 := eq_true q262
              have ea_ := Option.some.inj (hx261_4.symm.trans hx262_4)
              injection ea_ with ea_ en_ ec_
              subst ea_
              subst ec_
              clear en_
              have ea_ := Option.some.inj (hx261_5.symm.trans hx262_5)
              injection ea_ with ea_ en_ ec_
              subst ea_
              subst ec_
              clear en_
              have ea_ := Option.some.inj (hx261_6.symm.trans hx262_6)
              injection ea_ with ea_ en_ ec_
              subst ea_
              subst ec_
              clear en_
              have ea_ := Option.some.inj (hx261_7.symm.trans hx262_7)
              injection ea_ with ea_ en_ ec_
              subst ea_
              subst ec_
              clear en_
              have ea_ := Option.some.inj (hx261_8.symm.trans hx262_8)
              injection ea_ with ea_ en_ ec_
              subst ea_
              subst ec_
              clear en_
              have ea_ := Option.some.inj (hx261_12.symm.trans hx262_12)
              injection ea_ with ea_ en_ ec_
              subst ea_
              subst ec_
              clear en_
              have ea_ := Option.some.inj (hx261_13.symm.trans hx262_13)
              injection ea_ with ea_ en_ ec_
              subst ea_
              subst ec_
              clear en_
              go_wp2
              go_ret2
              exact ⟨by first | rfl | (simp; done) | (simp [*]; done), by repeat (first | exact Drawn0.refl _ | apply Drawn0.step)⟩
            · rw [if_neg c5] at H
              have c5b0 : (((rd_T74 l0 x4_1).f0) == 12) = false := beq_eq_false_iff_ne.mpr c5
              have c5b1 : (((rd_T74 l0 x4_1).f0) != 12) = true := bne_iff_ne.mpr c5
              by_cases c6 : ((rd_T74 l0 x4_1).f0) = 13
              · rw [if_pos c6] at H
                have c6b0 : (((rd_T74 l0 x4_1).f0) == 13) = true := beq_iff_eq.mpr c6
                have c6b1 : (((rd_T74 l0 x4_1).f0) != 13) = false := bne_eq_false_iff_eq.mpr c6
                clear c6
                simp only [Option.some.injEq, Prod.mk.injEq] at H
                obtain ⟨rfl, rfl⟩ := H
                have p261 : 0 ≤ (x4_1 : Int) := of_decide_eq_true (by first | (with_reducible assumption) | assumption)
                have q261 : x4_1 < (l0.length : Int) := of_decide_eq_true (by first | (with_reducible assumption) | assumption)
                obtain ⟨ad261, A261_4, c261_4, A261_5, c261_5, A261_6, c261_6, A261_7, c261_7, A261_8, c261_8, A261_12, c261_12, A261_13, c261_13, e261, hx261_0, hx261_1, hx261_2, hx261_3, hx261_4, hx261_5, hx261_6, hx261_7, hx261_8, hx261_9, hx261_10, hx261_11, hx261_12, hx261_13, hl261_4, hi261_4, hl261_5, hi261_5, hl261_6, hi261_6, hl261_7, hi261_7, hl261_8, hi261_8, hl261_12, hi261_12, hl261_13, hi261_13⟩ := at_T74 HR0.out x4_1 p261 q261
                cases e261
                have HR261_4 := Aside0.mk hi261_4
                have HC261_4 := Aside0.mk hl261_4
                clear hi261_4 hl261_4
                have HR261_5 := Aside0.mk hi261_5
                have HC261_5 := Aside0.mk hl261_5
                clear hi261_5 hl261_5
                have HR261_6 := Aside0.mk hi261_6
                have HC261_6 := Aside0.mk hl261_6
                clear hi261_6 hl261_6
                have HR261_7 := Aside0.mk hi261_7
                have HC261_7 := Aside0.mk hl261_7
                clear hi261_7 hl261_7
                have HR261_8 := Aside0.mk hi261_8
                have HC261_8 := Aside0.mk hl261_8
                clear hi261_8 hl261_8
                have HR261_12 := Aside0.mk hi261_12
                have HC261_12 := Aside0.mk hl261_12
                clear hi261_12 hl261_12
                have HR261_13 := Aside0.mk hi261_13
                have HC261_13 := Aside0.mk hl261_13
                clear hi261_13 hl261_13
                replace p261 := eq_true p261
                replace q261 := eq_true q261
                have p263 : 0 ≤ (x4_1 : Int) := of_decide_eq_true (by first | (with_reducible assumption) | assumption)
                have q263 : x4_1 < (l0.length : Int) := of_decide_eq_true (by first | (with_reducible assumption) | assumption)
                obtain ⟨ad263, A263_4, c263_4, A263_5, c263_5, A263_6, c263_6, A263_7, c263_7, A263_8, c263_8, A263_12, c263_12, A263_13, c263_13, e263, hx263_0, hx263_1, hx263_2, hx263_3, hx263_4, hx263_5, hx263_6, hx263_7, hx263_8, hx263_9, hx263_10, hx263_11, hx263_12, hx263_13, hl263_4, hi263_4, hl263_5, hi263_5, hl263_6, hi263_6, hl263_7, hi263_7, hl263_8, hi263_8, hl263_12, hi263_12, hl263_13, hi263_13⟩ := at_T74 HR0.out x4_1 p263 q263
                obtain rfl : ad261 = ad263 := (by injection e263)
                have HR263_4 := Aside0.mk hi263_4
                have HC263_4 := Aside0.mk hl263_4
                clear hi263_4 hl263_4
                have HR263_5 := Aside0.mk hi263_5
                have HC263_5 := Aside0.mk hl263_5
                clear hi263_5 hl263_5
                have HR263_6 := Aside0.mk hi263_6
                have HC263_6 := Aside0.mk hl263_6
                clear hi263_6 hl263_6
                have HR263_7 := Aside0.mk hi263_7
                have HC263_7 := Aside0.mk hl263_7
                clear hi263_7 hl263_7
                have HR263_8 := Aside0.mk hi263_8
                have HC263_8 := Aside0.mk hl263_8
                clear hi263_8 hl263_8
                have HR263_12 := Aside0.mk hi263_12
                have HC263_12 := Aside0.mk hl263_12
                clear hi263_12 hl263_12
                have HR263_13 := Aside0.mk hi263_13
                have HC263_13 := Aside0.mk hl263_13
                clear hi263_13 hl263_13
                replace p263 := eq_true p263
                replace q263 := eq_true q263
                have ea_ := Option.some.inj (hx261_4.symm.trans hx263_4)
                injection ea_ with ea_ en_ ec_
                subst ea_
                subst ec_
                clear en_
                have ea_ := Option.some.inj (hx261_5.symm.trans hx263_5)
                injection ea_ with ea_ en_ ec_
                subst ea_
                subst ec_
                clear en_
                have ea_ := Option.some.inj (hx261_6.symm.trans hx263_6)
                injection ea_ with ea_ en_ ec_
                subst ea_
                subst ec_
                clear en_
                have ea_ := Option.some.inj (hx261_7.symm.trans hx263_7)
                injection ea_ with ea_ en_ ec_
                subst ea_
                subst ec_
                clear en_
                have ea_ := Option.some.inj (hx261_8.symm.trans hx263_8)
                injection ea_ with ea_ en_ ec_
                subst ea_
                subst ec_
                clear en_
                have ea_ := Option.some.inj (hx261_12.symm.trans hx263_12)
                injection ea_ with ea_ en_ ec_
                subst ea_
                subst ec_
                clear en_
                have ea_ := Option.some.inj (hx261_13.symm.trans hx263_13)
                injection ea_ with ea_ en_ ec_
                subst ea_
                subst ec_
                clear en_
                have p264 : 0 ≤ (x4_1 : Int) := of_decide_eq_true (by first | (with_reducible assumption) | assumption)
                have q264 : x4_1 < (l0.length : Int) := of_decide_eq_true (by first | (with_reducible assumption) | assumption)
                obtain ⟨ad264, A264_4, c264_4, A264_5, c264_5, A264_6, c264_6, A264_7, c264_7, A264_8, c264_8, A264_12, c264_12, A264_13, c264_13, e264, hx264_0, hx264_1, hx264_2, hx264_3, hx264_4, hx264_5, hx264_6, hx264_7, hx264_8, hx264_9, hx264_10, hx264_11, hx264_12, hx264_13, hl264_4, hi264_4, hl264_5, hi264_5, hl264_6, hi264_6, hl264_7, hi264_7, hl264_8, hi264_8, hl264_12, hi264_12, hl264_13, hi264_13⟩ := at_T74 HR0.out x4_1 p264 q264
                obtain rfl : ad261 = ad264 := (by injection e264)
                have HR264_4 := Aside0.mk hi264_4
                have HC264_4 := Aside0.mk hl264_4
                clear hi264_4 hl264_4
                have HR264_5 := Aside0.mk hi264_5
                have HC264_5 := Aside0.mk hl264_5
                clear hi264_5 hl264_5
                have HR264_6 := Aside0.mk hi264_6
                have HC264_6 := Aside0.mk hl264_6
                clear hi264_6 hl264_6
                have HR264_7 := Aside0.mk hi264_7
                have HC264_7 := Aside0.mk hl264_7
                clear hi264_7 hl264_7
                have HR264_8 := Aside0.mk hi264_8
                have HC264_8 := Aside0.mk hl264_8
                clear hi264_8 hl264_8
                have HR264_12 := Aside0.mk hi264_12
                have HC264_12 := Aside0.mk hl264_12
                clear hi264_12 hl264_12
                have HR264_13 := Aside0.mk hi264_13
                have HC264_13 := Aside0.mk hl264_13
                clear hi264_13 hl264_13
                replace p264 := eq_true p264
                replace q264 := eq_true q264
                have ea_ := Option.some.inj (hx261_4.symm.trans hx264_4)
                injection ea_ with ea_ en_ ec_
                subst ea_
                subst ec_
                clear en_
                have ea_ := Option.some.inj (hx261_5.symm.trans hx264_5)
                injection ea_ with ea_ en_ ec_
                subst ea_
                subst ec_
                clear en_
                have ea_ := Option.some.inj (hx261_6.symm.trans hx264_6)
                injection ea_ with ea_ en_ ec_
                subst ea_
                subst ec_
                clear en_
                have ea_ := Option.some.inj (hx261_7.symm.trans hx264_7)
                injection ea_ with ea_ en_ ec_
                subst ea_
                subst ec_
                clear en_
                have ea_ := Option.some.inj (hx261_8.symm.trans hx264_8)
                injection ea_ with ea_ en_ ec_
                subst ea_
                subst ec_
                clear en_
                have ea_ := Option.some.inj (hx261_12.symm.trans hx264_12)
                injection ea_ with ea_ en_ ec_
                subst ea_
                subst ec_
                clear en_
                have ea_ := Option.some.inj (hx261_13.symm.trans hx264_13)
                injection ea_ with ea_ en_ ec_
                subst ea_
                subst ec_
                clear en_
                go_wp2
                go_ret2
                exact ⟨by first | rfl | (simp; done) | (simp [*]; done), by repeat (first | exact Drawn0.refl _ | apply Drawn0.step)⟩
              · rw [if_neg c6] at H
                have c6b0 : (((rd_T74 l0 x4_1).f0) == 13) = false := beq_eq_false_iff_ne.mpr c6
                have c6b1 : (((rd_T74 l0 x4_1).f0) != 13) = true := bne_iff_ne.mpr c6
                have H' := Aside0.mk H
                clear H
                have p261 : 0 ≤ (x4_1 : Int) := of_decide_eq_true (by first | (with_reducible assumption) | assumption)
                have q261 : x4_1 < (l0.length : Int) := of_decide_eq_true (by first | (with_reducible assumption) | assumption)
                obtain ⟨ad261, A261_4, c261_4, A261_5, c261_5, A261_6, c261_6, A261_7, c261_7, A261_8, c261_8, A261_12, c261_12, A261_13, c261_13, e261, hx261_0, hx261_1, hx261_2, hx261_3, hx261_4, hx261_5, hx261_6, hx261_7, hx261_8, hx261_9, hx261_10, hx261_11, hx261_12, hx261_13, hl261_4, hi261_4, hl261_5, hi261_5, hl261_6, hi261_6, hl261_7, hi261_7, hl261_8, hi261_8, hl261_12, hi261_12, hl261_13, hi261_13⟩ := at_T74 HR0.out x4_1 p261 q261
                cases e261
                have HR261_4 := Aside0.mk hi261_4
                have HC261_4 := Aside0.mk hl261_4
                clear hi261_4 hl261_4
                have HR261_5 := Aside0.mk hi261_5
                have HC261_5 := Aside0.mk hl261_5
                clear hi261_5 hl261_5
                have HR261_6 := Aside0.mk hi261_6
                have HC261_6 := Aside0.mk hl261_6
                clear hi261_6 hl261_6
                have HR261_7 := Aside0.mk hi261_7
                have HC261_7 := Aside0.mk hl261_7
                clear hi261_7 hl261_7
                have HR261_8 := Aside0.mk hi261_8
                have HC261_8 := Aside0.mk hl261_8
                clear hi261_8 hl261_8
                have HR261_12 := Aside0.mk hi261_12
                have HC261_12 := Aside0.mk hl261_12
                clear hi261_12 hl261_12
                have HR261_13 := Aside0.mk hi261_13
                have HC261_13 := Aside0.mk hl261_13
                clear hi261_13 hl261_13
                replace p261 := eq_true p261
                replace q261 := eq_true q261
                have p263 : 0 ≤ (x4_1 : Int) := of_decide_eq_true (by first | (with_reducible assumption) | assumption)
                have q263 : x4_1 < (l0.length : Int) := of_decide_eq_true (by first | (with_reducible assumption) | assumption)
                obtain ⟨ad263, A263_4, c263_4, A263_5, c263_5, A263_6, c263_6, A263_7, c263_7, A263_8, c263_8, A263_12, c263_12, A263_13, c263_13, e263, hx263_0, hx263_1, hx263_2, hx263_3, hx263_4, hx263_5, hx263_6, hx263_7, hx263_8, hx263_9, hx263_10, hx263_11, hx263_12, hx263_13, hl263_4, hi263_4, hl263_5, hi263_5, hl263_6, hi263_6, hl263_7, hi263_7, hl263_8, hi263_8, hl263_12, hi263_12, hl263_13, hi263_13⟩ := at_T74 HR0.out x4_1 p263 q263
                obtain rfl : ad261 = ad263 := (by injection e263)
                have HR263_4 := Aside0.mk hi263_4
                have HC263_4 := Aside0.mk hl263_4
                clear hi263_4 hl263_4
                have HR263_5 := Aside0.mk hi263_5
                have HC263_5 := Aside0.mk hl263_5
                clear hi263_5 hl263_5
                have HR263_6 := Aside0.mk hi263_6
                have HC263_6 := Aside0.mk hl263_6
                clear hi263_6 hl263_6
                have HR263_7 := Aside0.mk hi263_7
                have HC263_7 := Aside0.mk hl263_7
                clear hi263_7 hl263_7
                have HR263_8 := Aside0.mk hi263_8
                have HC263_8 := Aside0.mk hl263_8
                clear hi263_8 hl263_8
                have HR263_12 := Aside0.mk hi263_12
                have HC263_12 := Aside0.mk hl263_12
                clear hi263_12 hl263_12
                have HR263_13 := Aside0.mk hi263_13
                have HC263_13 := Aside0.mk hl263_13
                clear hi263_13 hl263_13
                replace p263 := eq_true p263
                replace q263 := eq_true q263
                have ea_ := Option.some.inj (hx261_4.symm.trans hx263_4)
                injection ea_ with ea_ en_ ec_
                subst ea_
                subst ec_
                clear en_
                have ea_ := Option.some.inj (hx261_5.symm.trans hx263_5)
                injection ea_ with ea_ en_ ec_
                subst ea_
                subst ec_
                clear en_
                have ea_ := Option.some.inj (hx261_6.symm.trans hx263_6)
                injection ea_ with ea_ en_ ec_
                subst ea_
                subst ec_
                clear en_
                have ea_ := Option.some.inj (hx261_7.symm.trans hx263_7)
                injection ea_ with ea_ en_ ec_
                subst ea_
                subst ec_
                clear en_
                have ea_ := Option.some.inj (hx261_8.symm.trans hx263_8)
                injection ea_ with ea_ en_ ec_
                subst ea_
                subst ec_
                clear en_
                have ea_ := Option.some.inj (hx261_12.symm.trans hx263_12)
                injection ea_ with ea_ en_ ec_
                subst ea_
                subst ec_
                clear en_
                have ea_ := Option.some.inj (hx261_13.symm.trans hx263_13)
                injection ea_ with ea_ en_ ec_
                subst ea_
                subst ec_
                clear en_
                go_wp2
                go_roundg k1
                case measure => have := HK1.out; omega
                case rel => exact ⟨(wrap64 (x4_1 - 1)), (by first | rfl | (simp; done) | (simp [*]; done)), H', ⟨by have := HK1.out; omega⟩, by repeat (first | exact Drawn0.refl _ | apply Drawn0.step)⟩
          · rw [if_neg c4] at H
            exact absurd H (by simp)
        · rw [if_neg c3] at H
          exact absurd H (by simp)
      · rw [if_neg c2] at H
        have c2b0 : decide (0 ≤ x4_1) = false := decide_eq_false c2
        clear c2
        simp only [Option.some.injEq, Prod.mk.injEq] at H
        obtain ⟨rfl, rfl⟩ := H
        go_wp2
        go_ret2
        exact ⟨by first | rfl | (simp; done) | (simp [*]; done), by repeat (first | exact Drawn0.refl _ | apply Drawn0.step)⟩

/-! ### deadfallref15_Loops: function 92 -/
def deadfallref15_Loops.f (k : Nat) (l0 : List (S74)) : Option (Int) := (deadfallref15_loops.f k l0).bind fun t270 => (some (t270.length : Int))
theorem deadfallref15_Loops.mono : ∀ a0 k, LeO (deadfallref15_Loops.f k a0) (deadfallref15_Loops.f (k + 1) a0) := by
  intro a0 k
  unfold deadfallref15_Loops.f
  repeat' first
      | (with_reducible exact deadfallref15_loops.mono _ _)
      | (with_reducible exact LeO.refl _)
      | (with_reducible exact LeO.none _)
      | (with_reducible refine LeO.ite ?_ ?_)
      | (with_reducible refine LeO.bind ?_ (fun _ => ?_))
      | exact deadfallref15_loops.mono _ _
      | exact LeO.none _
      | refine LeO.ite ?_ ?_
      | refine LeO.bind ?_ (fun _ => ?_)
set_option maxHeartbeats 8000000 in
set_option maxRecDepth 100000 in
theorem deadfallref15_Loops.calls (k : Nat) (A0 : Option Addr) (c0 : Nat) (l0 : List (S74)) (r : Int) (w : World) (hr0 : Kd.C k74 w A0 l0.length l0) (hc0 : l0.length ≤ c0) (h : deadfallref15_Loops.f k l0 = some r) :
    Calls Try.prog 92 #[.slice A0 l0.length c0] w fun e w' => e = .returned (.int .i64 r) ∧ Below w.heap.size w w' := by
  have HR0 := Aside0.mk hr0
  have HC0 := Aside0.mk hc0
  clear hr0 hc0
  have HB := Aside0.mk (Below.refl w.heap.size w)
  have H : ((deadfallref15_loops.f k l0).bind fun t270 => (some (t270.length : Int))) = some r := h
  clear h
  replace H := Option.bind_eq_some_iff.mp H
  obtain ⟨t270, A20, H⟩ := H
  replace H : (some (t270.length : Int)) = some r := H
  have A2 := Aside0.mk A20
  clear A20
  obtain rfl := Option.some.inj H
  go_enter Try.func92, Try.ntmps92
  go_wp2_with (first | ((with_reducible refine gate_callee (f := 88) rfl ?_); refine goesL_ (some 4) rfl rfl Try.func88 (by kernel_rfl) rfl #[.slice A0 l0.length c0] rfl (by (try simp only [List.map_toArray, List.map_cons, List.map_nil]); first | done | rfl | (simp only [List.length_drop, List.length_take]; rfl)) ?_; (with_reducible refine (deadfallref15_loops.calls k _ _ l0 t270 _ ?side1 ?side2 A2.out).mono ?_); (case side1 => repeat (first | exact HR0.out | (with_reducible refine Kd.C_alloc ?_ _) | (with_reducible refine Kd.C_drewN ?_ _) | (with_reducible refine Kd.C_drew ?_))); (case side2 => exact HC0.out); rintro e w3 ⟨v271, rfl, ho0, hb⟩; refine ⟨_, rfl, ?_⟩; have n0_ := Aside0.mk (Kd.R_lower ho0 (below_size (by repeat (first | (with_reducible first | exact HB.out | apply below_alloc | apply pw_below_drewN | apply below_drew1) | exact HB.out)))); have n1_ := Aside0.mk (below_step (by repeat (first | (with_reducible first | exact HB.out | apply below_alloc | apply pw_below_drewN | apply below_drew1) | exact HB.out)) hb); clear HB; have HO272 := n0_; have HB := n1_; clear n0_ n1_; (try clear hb); (try clear hb2); (try clear hk); (try clear hi); (try clear ho0); obtain ⟨Ao4, co4, eo4⟩ := Kd.R_slice HO272.out; subst eo4))
  go_ret
  exact ⟨by first | rfl | (simp [errW_none, errW_some] <;> rfl) | (simp [*, errW_none, errW_some] <;> rfl), by repeat (first | (with_reducible first | exact HB.out | apply below_alloc | apply pw_below_drewN | apply below_drew1) | exact HB.out)⟩

end Go.Proofs.Ytkepmbkghmkodaa.Q
