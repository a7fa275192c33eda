-- printed by a program of this session (wip/pp): a Lean function and a proof for each Go function
import Derived.Test.YtkepmbkghmkodaaQ0
import Derived.Test.YtkepmbkghmkodaaQ3
namespace Go.Proofs.Ytkepmbkghmkodaa.Q
open Go.RowKit Go.Proofs.YtkepmbkghmkodaaW.PrintWords Go.Proofs.YtkepmbkghmkodaaW.PrintLast Go.Proofs.YtkepmbkghmkodaaW.PrintMore
attribute [local go_sem] max2_int min2_int max_two min_two max_three min_three max_four min_four   -- for this text's walks alone
set_option linter.unusedVariables false
set_option linter.unusedSimpArgs false

/-! ### deadfalllaw15_great: function 36 -/
def deadfalllaw15_great.l0 : Nat → List (S74) → List (S74) → Int → Int → Option (Bool)
  | 0, _, _, _, _ => none
  | k + 1, x0, x5, x6, x7 => if x7 < x6 then (if 0 ≤ x7 then (if x7 < (x5.length : Int) then (if (((rd_T74 x5 x7).f5).length : Int) > 50 then (some true) else (if (((rd_T74 x5 x7).f6).length : Int) > 50 then (some true) else ((deadfallref05_Weight.f k ((rd_T74 x5 x7).f1.f0) ((rd_T74 x5 x7).f1.f1) ((rd_T74 x5 x7).f1.f2) ((rd_T74 x5 x7).f1.f3) ((rd_T74 x5 x7).f1.f4) ((rd_T74 x5 x7).f1.f5) ((rd_T74 x5 x7).f1.f6) ((rd_T74 x5 x7).f1.f7) 0).bind fun t146 => (if t146 > 300 then (some true) else (deadfalllaw15_great.l0 k x0 x5 x6 (wrap64 (x7 + 1))))))) else (none)) else (none)) else (some (decide ((x0.length : Int) > 40)))
def deadfalllaw15_great.f (k : Nat) (l0 : List (S74)) : Option (Bool) := deadfalllaw15_great.l0 k l0 l0 (l0.length : Int) 0
theorem deadfalllaw15_great.mono_l : ∀ k, (∀ y0 y1 y2 y3, LeO (deadfalllaw15_great.l0 k y0 y1 y2 y3) (deadfalllaw15_great.l0 (k + 1) y0 y1 y2 y3))
  | 0 => fun _ _ _ _ r h => by simp [deadfalllaw15_great.l0] at h
  | k + 1 => by
    have ih0 := deadfalllaw15_great.mono_l k
    · intro y0 y1 y2 y3
      unfold deadfalllaw15_great.l0
      repeat' first
      | (with_reducible exact ih0 _ _ _ _)
      | (with_reducible exact deadfallref05_Weight.mono _ _ _ _ _ _ _ _ _ _)
      | (with_reducible exact LeO.refl _)
      | (with_reducible exact LeO.none _)
      | (with_reducible refine LeO.ite ?_ ?_)
      | (with_reducible refine LeO.bind ?_ (fun _ => ?_))
      | exact ih0 _ _ _ _
      | exact deadfallref05_Weight.mono _ _ _ _ _ _ _ _ _ _
      | exact LeO.none _
      | refine LeO.ite ?_ ?_
      | refine LeO.bind ?_ (fun _ => ?_)
theorem deadfalllaw15_great.mono : ∀ a0 k, LeO (deadfalllaw15_great.f k a0) (deadfalllaw15_great.f (k + 1) a0) := by
  intro a0 k
  have ih0 := deadfalllaw15_great.mono_l k
  unfold deadfalllaw15_great.f
  repeat' first
      | (with_reducible exact ih0 _ _ _ _)
      | (with_reducible exact deadfallref05_Weight.mono _ _ _ _ _ _ _ _ _ _)
      | (with_reducible exact LeO.refl _)
      | (with_reducible exact LeO.none _)
      | (with_reducible refine LeO.ite ?_ ?_)
      | (with_reducible refine LeO.bind ?_ (fun _ => ?_))
      | exact ih0 _ _ _ _
      | exact deadfallref05_Weight.mono _ _ _ _ _ _ _ _ _ _
      | exact LeO.none _
      | refine LeO.ite ?_ ?_
      | refine LeO.bind ?_ (fun _ => ?_)
set_option maxHeartbeats 8000000 in
set_option maxRecDepth 100000 in
theorem deadfalllaw15_great.calls (k : Nat) (A0 : Option Addr) (c0 : Nat) (l0 : List (S74)) (r : Bool) (w : World) (hr0 : Kd.C k74 w A0 l0.length l0) (hc0 : l0.length ≤ c0) (h : deadfalllaw15_great.f k l0 = some r) :
    Calls Try.prog 36 #[.slice A0 l0.length c0] w fun e w' => e = .returned (.bool r) ∧ Below w.heap.size w w' := by
  have hu74 := Try.underlying74
  have hu52 := Try.underlying52
  have HR0 := Aside0.mk hr0
  have HC0 := Aside0.mk hc0
  clear hr0 hc0
  have HB := Aside0.mk (Below.refl w.heap.size w)
  have H : (deadfalllaw15_great.l0 k l0 l0 (l0.length : Int) 0) = some r := h
  clear h
  have H' := Aside0.mk H
  clear H
  go_enter Try.func36, Try.ntmps36
  go_wp2
  go_loopg [7] k (fun kq v7 w' => ∃ (x7_1 : Int), v7 = .int .i64 x7_1 ∧ Aside0 (deadfalllaw15_great.l0 kq l0 l0 (l0.length : Int) x7_1 = some r) ∧ Aside0 (kq ≤ k) ∧ Aside0 (Below w.heap.size w w'))
  case atStart => exact ⟨(0), (by first | rfl | (simp; done) | (simp [*]; done)), H', ⟨Nat.le_refl _⟩, ⟨by repeat (first | (with_reducible first | exact HB.out | apply below_alloc | apply pw_below_drewN | apply below_drew1) | exact HB.out)⟩⟩
  case round =>
    clear H'
    obtain ⟨x7_1, rfl, HA, HK1, HB⟩ := hrel
    cases gk with
    | zero => exact absurd HA.out (by simp [deadfalllaw15_great.l0])
    | succ k1 =>
      have H := HA.out
      clear HA
      simp only [deadfalllaw15_great.l0] at H
      by_cases c2 : x7_1 < (l0.length : Int)
      · rw [if_pos c2] at H
        have c2b0 : decide (x7_1 < (l0.length : Int)) = true := decide_eq_true c2
        clear c2
        by_cases c3 : 0 ≤ x7_1
        · rw [if_pos c3] at H
          have c3b0 : decide (0 ≤ x7_1) = true := decide_eq_true c3
          clear c3
          by_cases c4 : x7_1 < (l0.length : Int)
          · rw [if_pos c4] at H
            have c4b0 : decide (x7_1 < (l0.length : Int)) = true := decide_eq_true c4
            clear c4
            by_cases c5 : (((rd_T74 l0 x7_1).f5).length : Int) > 50
            · rw [if_pos c5] at H
              have c5b0 : decide (50 < (((rd_T74 l0 x7_1).f5).length : Int)) = true := decide_eq_true c5
              have c5b1 : decide (50 < ((rd_T74 l0 x7_1).f5).length) = true := decide_eq_true (by omega)
              clear c5
              obtain rfl := Option.some.inj H
              have p144 : 0 ≤ (x7_1 : Int) := of_decide_eq_true (by first | (with_reducible assumption) | assumption)
              have q144 : x7_1 < (l0.length : Int) := of_decide_eq_true (by first | (with_reducible assumption) | assumption)
              obtain ⟨ad144, A144_4, c144_4, A144_5, c144_5, A144_6, c144_6, A144_7, c144_7, A144_8, c144_8, A144_12, c144_12, A144_13, c144_13, e144, hx144_0, hx144_1, hx144_2, hx144_3, hx144_4, hx144_5, hx144_6, hx144_7, hx144_8, hx144_9, hx144_10, hx144_11, hx144_12, hx144_13, hl144_4, hi144_4, hl144_5, hi144_5, hl144_6, hi144_6, hl144_7, hi144_7, hl144_8, hi144_8, hl144_12, hi144_12, hl144_13, hi144_13⟩ := at_T74 HR0.out x7_1 p144 q144
              cases e144
              replace hx144_0 := (HB.out.cell (World.block_lt_of_cell? w _ hx144_0)).trans hx144_0
              replace hx144_1 := (HB.out.cell (World.block_lt_of_cell? w _ hx144_1)).trans hx144_1
              replace hx144_2 := (HB.out.cell (World.block_lt_of_cell? w _ hx144_2)).trans hx144_2
              replace hx144_3 := (HB.out.cell (World.block_lt_of_cell? w _ hx144_3)).trans hx144_3
              replace hx144_4 := (HB.out.cell (World.block_lt_of_cell? w _ hx144_4)).trans hx144_4
              replace hx144_5 := (HB.out.cell (World.block_lt_of_cell? w _ hx144_5)).trans hx144_5
              replace hx144_6 := (HB.out.cell (World.block_lt_of_cell? w _ hx144_6)).trans hx144_6
              replace hx144_7 := (HB.out.cell (World.block_lt_of_cell? w _ hx144_7)).trans hx144_7
              replace hx144_8 := (HB.out.cell (World.block_lt_of_cell? w _ hx144_8)).trans hx144_8
              replace hx144_9 := (HB.out.cell (World.block_lt_of_cell? w _ hx144_9)).trans hx144_9
              replace hx144_10 := (HB.out.cell (World.block_lt_of_cell? w _ hx144_10)).trans hx144_10
              replace hx144_11 := (HB.out.cell (World.block_lt_of_cell? w _ hx144_11)).trans hx144_11
              replace hx144_12 := (HB.out.cell (World.block_lt_of_cell? w _ hx144_12)).trans hx144_12
              replace hx144_13 := (HB.out.cell (World.block_lt_of_cell? w _ hx144_13)).trans hx144_13
              have HR144_4 := Aside0.mk hi144_4
              have HC144_4 := Aside0.mk hl144_4
              clear hi144_4 hl144_4
              have HR144_5 := Aside0.mk hi144_5
              have HC144_5 := Aside0.mk hl144_5
              clear hi144_5 hl144_5
              have HR144_6 := Aside0.mk hi144_6
              have HC144_6 := Aside0.mk hl144_6
              clear hi144_6 hl144_6
              have HR144_7 := Aside0.mk hi144_7
              have HC144_7 := Aside0.mk hl144_7
              clear hi144_7 hl144_7
              have HR144_8 := Aside0.mk hi144_8
              have HC144_8 := Aside0.mk hl144_8
              clear hi144_8 hl144_8
              have HR144_12 := Aside0.mk hi144_12
              have HC144_12 := Aside0.mk hl144_12
              clear hi144_12 hl144_12
              have HR144_13 := Aside0.mk hi144_13
              have HC144_13 := Aside0.mk hl144_13
              clear hi144_13 hl144_13
              replace p144 := eq_true p144
              replace q144 := eq_true q144
              go_wp2_with (first | ((with_reducible refine gate_dst (N := 4) rfl ?_); (try (refine gate_guard (by rfl) ?_; dsimp only)); refine box_event ?hg (N := 4) ?hd (cs := #[.int .i64 0, .int .i64 0, .string (⟨#[]⟩ : ByteArray), .bool false, .slice none 0 0, .slice none 0 0, .slice none 0 0, .slice none 0 0, .slice none 0 0, .int .i64 0, .int .i64 0, .bool false, .slice none 0 0, .slice none 0 0]) (t := 74) ?hr ?_; (case hd => rfl); (case hg => rfl); (case hr => first | (go_simp; done) | (go_simp; rfl)); intro gb145 hg w6 hbox hb; have n0_ := Aside0.mk (below_step (by repeat (first | (with_reducible first | exact HB.out | apply below_alloc | apply pw_below_drewN | apply below_drew1) | exact HB.out)) hb); have n1_ := Aside0.mk (hbox); have n2_ := Aside0.mk ((by rw [hg]; exact (below_size (by repeat (first | (with_reducible first | exact HB.out | apply below_alloc | apply pw_below_drewN | apply below_drew1) | exact HB.out))) : w.heap.size ≤ gb145)); have n3_ := Aside0.mk ((by rw [hg]; exact (below_size (by repeat (first | (with_reducible first | exact HB.out | apply below_alloc | apply pw_below_drewN | apply below_drew1) | exact HB.out))) : w.heap.size ≤ gb145)); clear HB; have HB := n0_; have BK145 := n1_; have GW145 := n2_; have GE145 := n3_; clear n0_ n1_ n2_ n3_; clear hb hbox hg; have hcz7_0 : w6.cell? ⟨gb145, 0, none⟩ = some (.int .i64 0) := (blk_cell BK145.out 0).trans rfl; have hcz7_1 : w6.cell? ⟨gb145, 1, none⟩ = some (.int .i64 0) := (blk_cell BK145.out 1).trans rfl; have hcz7_2 : w6.cell? ⟨gb145, 2, none⟩ = some (.string (⟨#[]⟩ : ByteArray)) := (blk_cell BK145.out 2).trans rfl; have hcz7_3 : w6.cell? ⟨gb145, 3, none⟩ = some (.bool false) := (blk_cell BK145.out 3).trans rfl; have hcz7_4 : w6.cell? ⟨gb145, 4, none⟩ = some (.slice none 0 0) := (blk_cell BK145.out 4).trans rfl; have hcz7_5 : w6.cell? ⟨gb145, 5, none⟩ = some (.slice none 0 0) := (blk_cell BK145.out 5).trans rfl; have hcz7_6 : w6.cell? ⟨gb145, 6, none⟩ = some (.slice none 0 0) := (blk_cell BK145.out 6).trans rfl; have hcz7_7 : w6.cell? ⟨gb145, 7, none⟩ = some (.slice none 0 0) := (blk_cell BK145.out 7).trans rfl; have hcz7_8 : w6.cell? ⟨gb145, 8, none⟩ = some (.slice none 0 0) := (blk_cell BK145.out 8).trans rfl; have hcz7_9 : w6.cell? ⟨gb145, 9, none⟩ = some (.int .i64 0) := (blk_cell BK145.out 9).trans rfl; have hcz7_10 : w6.cell? ⟨gb145, 10, none⟩ = some (.int .i64 0) := (blk_cell BK145.out 10).trans rfl; have hcz7_11 : w6.cell? ⟨gb145, 11, none⟩ = some (.bool false) := (blk_cell BK145.out 11).trans rfl; have hcz7_12 : w6.cell? ⟨gb145, 12, none⟩ = some (.slice none 0 0) := (blk_cell BK145.out 12).trans rfl; have hcz7_13 : w6.cell? ⟨gb145, 13, none⟩ = some (.slice none 0 0) := (blk_cell BK145.out 13).trans rfl; have hfz7_0 := blk_frozen BK145.out 0; have hfz7_1 := blk_frozen BK145.out 1; have hfz7_2 := blk_frozen BK145.out 2; have hfz7_3 := blk_frozen BK145.out 3; have hfz7_4 := blk_frozen BK145.out 4; have hfz7_5 := blk_frozen BK145.out 5; have hfz7_6 := blk_frozen BK145.out 6; have hfz7_7 := blk_frozen BK145.out 7; have hfz7_8 := blk_frozen BK145.out 8; have hfz7_9 := blk_frozen BK145.out 9; have hfz7_10 := blk_frozen BK145.out 10; have hfz7_11 := blk_frozen BK145.out 11; have hfz7_12 := blk_frozen BK145.out 12; have hfz7_13 := blk_frozen BK145.out 13))
              go_ret
              exact ⟨by first | rfl | (simp [errW_none, errW_some] <;> rfl) | (simp [*, errW_none, errW_some] <;> rfl), by repeat (first | (with_reducible first | exact HB.out | apply below_alloc | apply pw_below_drewN | apply below_drew1 | refine below_set ?_ GE145.out) | exact HB.out)⟩
            · rw [if_neg c5] at H
              have c5b0 : decide (50 < (((rd_T74 l0 x7_1).f5).length : Int)) = false := decide_eq_false c5
              have c5b1 : decide (50 < ((rd_T74 l0 x7_1).f5).length) = false := decide_eq_false (by omega)
              clear c5
              by_cases c8 : (((rd_T74 l0 x7_1).f6).length : Int) > 50
              · rw [if_pos c8] at H
                have c8b0 : decide (50 < (((rd_T74 l0 x7_1).f6).length : Int)) = true := decide_eq_true c8
                have c8b1 : decide (50 < ((rd_T74 l0 x7_1).f6).length) = true := decide_eq_true (by omega)
                clear c8
                obtain rfl := Option.some.inj H
                have p144 : 0 ≤ (x7_1 : Int) := of_decide_eq_true (by first | (with_reducible assumption) | assumption)
                have q144 : x7_1 < (l0.length : Int) := of_decide_eq_true (by first | (with_reducible assumption) | assumption)
                obtain ⟨ad144, A144_4, c144_4, A144_5, c144_5, A144_6, c144_6, A144_7, c144_7, A144_8, c144_8, A144_12, c144_12, A144_13, c144_13, e144, hx144_0, hx144_1, hx144_2, hx144_3, hx144_4, hx144_5, hx144_6, hx144_7, hx144_8, hx144_9, hx144_10, hx144_11, hx144_12, hx144_13, hl144_4, hi144_4, hl144_5, hi144_5, hl144_6, hi144_6, hl144_7, hi144_7, hl144_8, hi144_8, hl144_12, hi144_12, hl144_13, hi144_13⟩ := at_T74 HR0.out x7_1 p144 q144
                cases e144
                replace hx144_0 := (HB.out.cell (World.block_lt_of_cell? w _ hx144_0)).trans hx144_0
                replace hx144_1 := (HB.out.cell (World.block_lt_of_cell? w _ hx144_1)).trans hx144_1
                replace hx144_2 := (HB.out.cell (World.block_lt_of_cell? w _ hx144_2)).trans hx144_2
                replace hx144_3 := (HB.out.cell (World.block_lt_of_cell? w _ hx144_3)).trans hx144_3
                replace hx144_4 := (HB.out.cell (World.block_lt_of_cell? w _ hx144_4)).trans hx144_4
                replace hx144_5 := (HB.out.cell (World.block_lt_of_cell? w _ hx144_5)).trans hx144_5
                replace hx144_6 := (HB.out.cell (World.block_lt_of_cell? w _ hx144_6)).trans hx144_6
                replace hx144_7 := (HB.out.cell (World.block_lt_of_cell? w _ hx144_7)).trans hx144_7
                replace hx144_8 := (HB.out.cell (World.block_lt_of_cell? w _ hx144_8)).trans hx144_8
                replace hx144_9 := (HB.out.cell (World.block_lt_of_cell? w _ hx144_9)).trans hx144_9
                replace hx144_10 := (HB.out.cell (World.block_lt_of_cell? w _ hx144_10)).trans hx144_10
                replace hx144_11 := (HB.out.cell (World.block_lt_of_cell? w _ hx144_11)).trans hx144_11
                replace hx144_12 := (HB.out.cell (World.block_lt_of_cell? w _ hx144_12)).trans hx144_12
                replace hx144_13 := (HB.out.cell (World.block_lt_of_cell? w _ hx144_13)).trans hx144_13
                have HR144_4 := Aside0.mk hi144_4
                have HC144_4 := Aside0.mk hl144_4
                clear hi144_4 hl144_4
                have HR144_5 := Aside0.mk hi144_5
                have HC144_5 := Aside0.mk hl144_5
                clear hi144_5 hl144_5
                have HR144_6 := Aside0.mk hi144_6
                have HC144_6 := Aside0.mk hl144_6
                clear hi144_6 hl144_6
                have HR144_7 := Aside0.mk hi144_7
                have HC144_7 := Aside0.mk hl144_7
                clear hi144_7 hl144_7
                have HR144_8 := Aside0.mk hi144_8
                have HC144_8 := Aside0.mk hl144_8
                clear hi144_8 hl144_8
                have HR144_12 := Aside0.mk hi144_12
                have HC144_12 := Aside0.mk hl144_12
                clear hi144_12 hl144_12
                have HR144_13 := Aside0.mk hi144_13
                have HC144_13 := Aside0.mk hl144_13
                clear hi144_13 hl144_13
                replace p144 := eq_true p144
                replace q144 := eq_true q144
                go_wp2_with (first | ((with_reducible refine gate_dst (N := 4) rfl ?_); (try (refine gate_guard (by rfl) ?_; dsimp only)); refine box_event ?hg (N := 4) ?hd (cs := #[.int .i64 0, .int .i64 0, .string (⟨#[]⟩ : ByteArray), .bool false, .slice none 0 0, .slice none 0 0, .slice none 0 0, .slice none 0 0, .slice none 0 0, .int .i64 0, .int .i64 0, .bool false, .slice none 0 0, .slice none 0 0]) (t := 74) ?hr ?_; (case hd => rfl); (case hg => rfl); (case hr => first | (go_simp; done) | (go_simp; rfl)); intro gb145 hg w9 hbox hb; have n0_ := Aside0.mk (below_step (by repeat (first | (with_reducible first | exact HB.out | apply below_alloc | apply pw_below_drewN | apply below_drew1) | exact HB.out)) hb); have n1_ := Aside0.mk (hbox); have n2_ := Aside0.mk ((by rw [hg]; exact (below_size (by repeat (first | (with_reducible first | exact HB.out | apply below_alloc | apply pw_below_drewN | apply below_drew1) | exact HB.out))) : w.heap.size ≤ gb145)); have n3_ := Aside0.mk ((by rw [hg]; exact (below_size (by repeat (first | (with_reducible first | exact HB.out | apply below_alloc | apply pw_below_drewN | apply below_drew1) | exact HB.out))) : w.heap.size ≤ gb145)); clear HB; have HB := n0_; have BK145 := n1_; have GW145 := n2_; have GE145 := n3_; clear n0_ n1_ n2_ n3_; clear hb hbox hg; have hcz10_0 : w9.cell? ⟨gb145, 0, none⟩ = some (.int .i64 0) := (blk_cell BK145.out 0).trans rfl; have hcz10_1 : w9.cell? ⟨gb145, 1, none⟩ = some (.int .i64 0) := (blk_cell BK145.out 1).trans rfl; have hcz10_2 : w9.cell? ⟨gb145, 2, none⟩ = some (.string (⟨#[]⟩ : ByteArray)) := (blk_cell BK145.out 2).trans rfl; have hcz10_3 : w9.cell? ⟨gb145, 3, none⟩ = some (.bool false) := (blk_cell BK145.out 3).trans rfl; have hcz10_4 : w9.cell? ⟨gb145, 4, none⟩ = some (.slice none 0 0) := (blk_cell BK145.out 4).trans rfl; have hcz10_5 : w9.cell? ⟨gb145, 5, none⟩ = some (.slice none 0 0) := (blk_cell BK145.out 5).trans rfl; have hcz10_6 : w9.cell? ⟨gb145, 6, none⟩ = some (.slice none 0 0) := (blk_cell BK145.out 6).trans rfl; have hcz10_7 : w9.cell? ⟨gb145, 7, none⟩ = some (.slice none 0 0) := (blk_cell BK145.out 7).trans rfl; have hcz10_8 : w9.cell? ⟨gb145, 8, none⟩ = some (.slice none 0 0) := (blk_cell BK145.out 8).trans rfl; have hcz10_9 : w9.cell? ⟨gb145, 9, none⟩ = some (.int .i64 0) := (blk_cell BK145.out 9).trans rfl; have hcz10_10 : w9.cell? ⟨gb145, 10, none⟩ = some (.int .i64 0) := (blk_cell BK145.out 10).trans rfl; have hcz10_11 : w9.cell? ⟨gb145, 11, none⟩ = some (.bool false) := (blk_cell BK145.out 11).trans rfl; have hcz10_12 : w9.cell? ⟨gb145, 12, none⟩ = some (.slice none 0 0) := (blk_cell BK145.out 12).trans rfl; have hcz10_13 : w9.cell? ⟨gb145, 13, none⟩ = some (.slice none 0 0) := (blk_cell BK145.out 13).trans rfl; have hfz10_0 := blk_frozen BK145.out 0; have hfz10_1 := blk_frozen BK145.out 1; have hfz10_2 := blk_frozen BK145.out 2; have hfz10_3 := blk_frozen BK145.out 3; have hfz10_4 := blk_frozen BK145.out 4; have hfz10_5 := blk_frozen BK145.out 5; have hfz10_6 := blk_frozen BK145.out 6; have hfz10_7 := blk_frozen BK145.out 7; have hfz10_8 := blk_frozen BK145.out 8; have hfz10_9 := blk_frozen BK145.out 9; have hfz10_10 := blk_frozen BK145.out 10; have hfz10_11 := blk_frozen BK145.out 11; have hfz10_12 := blk_frozen BK145.out 12; have hfz10_13 := blk_frozen BK145.out 13))
                go_ret
                exact ⟨by first | rfl | (simp [errW_none, errW_some] <;> rfl) | (simp [*, errW_none, errW_some] <;> rfl), by repeat (first | (with_reducible first | exact HB.out | apply below_alloc | apply pw_below_drewN | apply below_drew1 | refine below_set ?_ GE145.out) | exact HB.out)⟩
              · rw [if_neg c8] at H
                have c8b0 : decide (50 < (((rd_T74 l0 x7_1).f6).length : Int)) = false := decide_eq_false c8
                have c8b1 : decide (50 < ((rd_T74 l0 x7_1).f6).length) = false := decide_eq_false (by omega)
                clear c8
                replace H := Option.bind_eq_some_iff.mp H
                obtain ⟨t146, A110, H⟩ := H
                replace H : (if t146 > 300 then (some true) else (deadfalllaw15_great.l0 k1 l0 l0 (l0.length : Int) (wrap64 (x7_1 + 1)))) = some r := H
                have A11 := Aside0.mk A110
                clear A110
                by_cases c12 : t146 > 300
                · rw [if_pos c12] at H
                  have c12b0 : decide (300 < t146) = true := decide_eq_true c12
                  clear c12
                  obtain rfl := Option.some.inj H
                  have p144 : 0 ≤ (x7_1 : Int) := of_decide_eq_true (by first | (with_reducible assumption) | assumption)
                  have q144 : x7_1 < (l0.length : Int) := of_decide_eq_true (by first | (with_reducible assumption) | assumption)
                  obtain ⟨ad144, A144_4, c144_4, A144_5, c144_5, A144_6, c144_6, A144_7, c144_7, A144_8, c144_8, A144_12, c144_12, A144_13, c144_13, e144, hx144_0, hx144_1, hx144_2, hx144_3, hx144_4, hx144_5, hx144_6, hx144_7, hx144_8, hx144_9, hx144_10, hx144_11, hx144_12, hx144_13, hl144_4, hi144_4, hl144_5, hi144_5, hl144_6, hi144_6, hl144_7, hi144_7, hl144_8, hi144_8, hl144_12, hi144_12, hl144_13, hi144_13⟩ := at_T74 HR0.out x7_1 p144 q144
                  cases e144
                  replace hx144_0 := (HB.out.cell (World.block_lt_of_cell? w _ hx144_0)).trans hx144_0
                  replace hx144_1 := (HB.out.cell (World.block_lt_of_cell? w _ hx144_1)).trans hx144_1
                  replace hx144_2 := (HB.out.cell (World.block_lt_of_cell? w _ hx144_2)).trans hx144_2
                  replace hx144_3 := (HB.out.cell (World.block_lt_of_cell? w _ hx144_3)).trans hx144_3
                  replace hx144_4 := (HB.out.cell (World.block_lt_of_cell? w _ hx144_4)).trans hx144_4
                  replace hx144_5 := (HB.out.cell (World.block_lt_of_cell? w _ hx144_5)).trans hx144_5
                  replace hx144_6 := (HB.out.cell (World.block_lt_of_cell? w _ hx144_6)).trans hx144_6
                  replace hx144_7 := (HB.out.cell (World.block_lt_of_cell? w _ hx144_7)).trans hx144_7
                  replace hx144_8 := (HB.out.cell (World.block_lt_of_cell? w _ hx144_8)).trans hx144_8
                  replace hx144_9 := (HB.out.cell (World.block_lt_of_cell? w _ hx144_9)).trans hx144_9
                  replace hx144_10 := (HB.out.cell (World.block_lt_of_cell? w _ hx144_10)).trans hx144_10
                  replace hx144_11 := (HB.out.cell (World.block_lt_of_cell? w _ hx144_11)).trans hx144_11
                  replace hx144_12 := (HB.out.cell (World.block_lt_of_cell? w _ hx144_12)).trans hx144_12
                  replace hx144_13 := (HB.out.cell (World.block_lt_of_cell? w _ hx144_13)).trans hx144_13
                  have HR144_4 := Aside0.mk hi144_4
                  have HC144_4 := Aside0.mk hl144_4
                  clear hi144_4 hl144_4
                  have HR144_5 := Aside0.mk hi144_5
                  have HC144_5 := Aside0.mk hl144_5
                  clear hi144_5 hl144_5
                  have HR144_6 := Aside0.mk hi144_6
                  have HC144_6 := Aside0.mk hl144_6
                  clear hi144_6 hl144_6
                  have HR144_7 := Aside0.mk hi144_7
                  have HC144_7 := Aside0.mk hl144_7
                  clear hi144_7 hl144_7
                  have HR144_8 := Aside0.mk hi144_8
                  have HC144_8 := Aside0.mk hl144_8
                  clear hi144_8 hl144_8
                  have HR144_12 := Aside0.mk hi144_12
                  have HC144_12 := Aside0.mk hl144_12
                  clear hi144_12 hl144_12
                  have HR144_13 := Aside0.mk hi144_13
                  have HC144_13 := Aside0.mk hl144_13
                  clear hi144_13 hl144_13
                  replace p144 := eq_true p144
                  replace q144 := eq_true q144
                  go_wp2_with (first | ((with_reducible refine gate_dst (N := 4) rfl ?_); (try (refine gate_guard (by rfl) ?_; dsimp only)); refine box_event ?hg (N := 4) ?hd (cs := #[.int .i64 0, .int .i64 0, .string (⟨#[]⟩ : ByteArray), .bool false, .slice none 0 0, .slice none 0 0, .slice none 0 0, .slice none 0 0, .slice none 0 0, .int .i64 0, .int .i64 0, .bool false, .slice none 0 0, .slice none 0 0]) (t := 74) ?hr ?_; (case hd => rfl); (case hg => rfl); (case hr => first | (go_simp; done) | (go_simp; rfl)); intro gb145 hg w13 hbox hb; have n0_ := Aside0.mk (below_step (by repeat (first | (with_reducible first | exact HB.out | apply below_alloc | apply pw_below_drewN | apply below_drew1) | exact HB.out)) hb); have n1_ := Aside0.mk (hbox); have n2_ := Aside0.mk ((by rw [hg]; exact (below_size (by repeat (first | (with_reducible first | exact HB.out | apply below_alloc | apply pw_below_drewN | apply below_drew1) | exact HB.out))) : w.heap.size ≤ gb145)); have n3_ := Aside0.mk ((by rw [hg]; exact (below_size (by repeat (first | (with_reducible first | exact HB.out | apply below_alloc | apply pw_below_drewN | apply below_drew1) | exact HB.out))) : w.heap.size ≤ gb145)); clear HB; have HB := n0_; have BK145 := n1_; have GW145 := n2_; have GE145 := n3_; clear n0_ n1_ n2_ n3_; clear hb hbox hg; have hcz14_0 : w13.cell? ⟨gb145, 0, none⟩ = some (.int .i64 0) := (blk_cell BK145.out 0).trans rfl; have hcz14_1 : w13.cell? ⟨gb145, 1, none⟩ = some (.int .i64 0) := (blk_cell BK145.out 1).trans rfl; have hcz14_2 : w13.cell? ⟨gb145, 2, none⟩ = some (.string (⟨#[]⟩ : ByteArray)) := (blk_cell BK145.out 2).trans rfl; have hcz14_3 : w13.cell? ⟨gb145, 3, none⟩ = some (.bool false) := (blk_cell BK145.out 3).trans rfl; have hcz14_4 : w13.cell? ⟨gb145, 4, none⟩ = some (.slice none 0 0) := (blk_cell BK145.out 4).trans rfl; have hcz14_5 : w13.cell? ⟨gb145, 5, none⟩ = some (.slice none 0 0) := (blk_cell BK145.out 5).trans rfl; have hcz14_6 : w13.cell? ⟨gb145, 6, none⟩ = some (.slice none 0 0) := (blk_cell BK145.out 6).trans rfl; have hcz14_7 : w13.cell? ⟨gb145, 7, none⟩ = some (.slice none 0 0) := (blk_cell BK145.out 7).trans rfl; have hcz14_8 : w13.cell? ⟨gb145, 8, none⟩ = some (.slice none 0 0) := (blk_cell BK145.out 8).trans rfl; have hcz14_9 : w13.cell? ⟨gb145, 9, none⟩ = some (.int .i64 0) := (blk_cell BK145.out 9).trans rfl; have hcz14_10 : w13.cell? ⟨gb145, 10, none⟩ = some (.int .i64 0) := (blk_cell BK145.out 10).trans rfl; have hcz14_11 : w13.cell? ⟨gb145, 11, none⟩ = some (.bool false) := (blk_cell BK145.out 11).trans rfl; have hcz14_12 : w13.cell? ⟨gb145, 12, none⟩ = some (.slice none 0 0) := (blk_cell BK145.out 12).trans rfl; have hcz14_13 : w13.cell? ⟨gb145, 13, none⟩ = some (.slice none 0 0) := (blk_cell BK145.out 13).trans rfl; have hfz14_0 := blk_frozen BK145.out 0; have hfz14_1 := blk_frozen BK145.out 1; have hfz14_2 := blk_frozen BK145.out 2; have hfz14_3 := blk_frozen BK145.out 3; have hfz14_4 := blk_frozen BK145.out 4; have hfz14_5 := blk_frozen BK145.out 5; have hfz14_6 := blk_frozen BK145.out 6; have hfz14_7 := blk_frozen BK145.out 7; have hfz14_8 := blk_frozen BK145.out 8; have hfz14_9 := blk_frozen BK145.out 9; have hfz14_10 := blk_frozen BK145.out 10; have hfz14_11 := blk_frozen BK145.out 11; have hfz14_12 := blk_frozen BK145.out 12; have hfz14_13 := blk_frozen BK145.out 13) | (go_at_call 24; (with_reducible refine (deadfallref05_Weight.calls k1 ((rd_T74 l0 x7_1).f1.f0) ((rd_T74 l0 x7_1).f1.f1) ((rd_T74 l0 x7_1).f1.f2) _ _ ((rd_T74 l0 x7_1).f1.f3) _ _ ((rd_T74 l0 x7_1).f1.f4) _ _ ((rd_T74 l0 x7_1).f1.f5) _ _ ((rd_T74 l0 x7_1).f1.f6) _ _ ((rd_T74 l0 x7_1).f1.f7) 0 t146 _ ?side1 ?side2 ?side3 ?side4 ?side5 ?side6 ?side7 ?side8 ?side9 ?side10 A11.out).mono ?_); (case side1 => exact Kd.C_below HR144_4.out (by repeat (first | (with_reducible first | exact HB.out | apply below_alloc | apply pw_below_drewN | apply below_drew1 | refine below_set ?_ GE145.out) | exact HB.out))); (case side2 => exact HC144_4.out); (case side3 => exact Kd.C_below HR144_5.out (by repeat (first | (with_reducible first | exact HB.out | apply below_alloc | apply pw_below_drewN | apply below_drew1 | refine below_set ?_ GE145.out) | exact HB.out))); (case side4 => exact HC144_5.out); (case side5 => exact Kd.C_below HR144_6.out (by repeat (first | (with_reducible first | exact HB.out | apply below_alloc | apply pw_below_drewN | apply below_drew1 | refine below_set ?_ GE145.out) | exact HB.out))); (case side6 => exact HC144_6.out); (case side7 => exact Kd.C_below HR144_7.out (by repeat (first | (with_reducible first | exact HB.out | apply below_alloc | apply pw_below_drewN | apply below_drew1 | refine below_set ?_ GE145.out) | exact HB.out))); (case side8 => exact HC144_7.out); (case side9 => exact Kd.C_below HR144_8.out (by repeat (first | (with_reducible first | exact HB.out | apply below_alloc | apply pw_below_drewN | apply below_drew1 | refine below_set ?_ GE145.out) | exact HB.out))); (case side10 => exact HC144_8.out); rintro e w15 ⟨rfl, hb⟩; have n0_ := Aside0.mk (blk_below (g := gb145) (o := .cells #[.int .i64 ((rd_T74 l0 x7_1).f0), .int .i64 ((rd_T74 l0 x7_1).f1.f0), .string ((rd_T74 l0 x7_1).f1.f1), .bool ((rd_T74 l0 x7_1).f1.f2), .slice A144_4 ((rd_T74 l0 x7_1).f1.f3).length c144_4, .slice A144_5 ((rd_T74 l0 x7_1).f1.f4).length c144_5, .slice A144_6 ((rd_T74 l0 x7_1).f1.f5).length c144_6, .slice A144_7 ((rd_T74 l0 x7_1).f1.f6).length c144_7, .slice A144_8 ((rd_T74 l0 x7_1).f1.f7).length c144_8, .int .i64 ((rd_T74 l0 x7_1).f2), .int .i64 ((rd_T74 l0 x7_1).f3), .bool ((rd_T74 l0 x7_1).f4), .slice A144_12 ((rd_T74 l0 x7_1).f5).length c144_12, .slice A144_13 ((rd_T74 l0 x7_1).f6).length c144_13] 74 (0, 0)) (by (with_reducible repeat (first | refine blk_drewN ?_ _ | refine blk_drew ?_ | refine blk_alloc ?_ _)); refine blk_put (cs := #[.int .i64 ((rd_T74 l0 x7_1).f0), .int .i64 ((rd_T74 l0 x7_1).f1.f0), .string ((rd_T74 l0 x7_1).f1.f1), .bool ((rd_T74 l0 x7_1).f1.f2), .slice A144_4 ((rd_T74 l0 x7_1).f1.f3).length c144_4, .slice A144_5 ((rd_T74 l0 x7_1).f1.f4).length c144_5, .slice A144_6 ((rd_T74 l0 x7_1).f1.f5).length c144_6, .slice A144_7 ((rd_T74 l0 x7_1).f1.f6).length c144_7, .slice A144_8 ((rd_T74 l0 x7_1).f1.f7).length c144_8, .int .i64 ((rd_T74 l0 x7_1).f2), .int .i64 ((rd_T74 l0 x7_1).f3), .bool ((rd_T74 l0 x7_1).f4), .slice A144_12 ((rd_T74 l0 x7_1).f5).length c144_12, .slice none 0 0]) ?_ 13 _ rfl; (with_reducible repeat (first | refine blk_drewN ?_ _ | refine blk_drew ?_ | refine blk_alloc ?_ _)); refine blk_put (cs := #[.int .i64 ((rd_T74 l0 x7_1).f0), .int .i64 ((rd_T74 l0 x7_1).f1.f0), .string ((rd_T74 l0 x7_1).f1.f1), .bool ((rd_T74 l0 x7_1).f1.f2), .slice A144_4 ((rd_T74 l0 x7_1).f1.f3).length c144_4, .slice A144_5 ((rd_T74 l0 x7_1).f1.f4).length c144_5, .slice A144_6 ((rd_T74 l0 x7_1).f1.f5).length c144_6, .slice A144_7 ((rd_T74 l0 x7_1).f1.f6).length c144_7, .slice A144_8 ((rd_T74 l0 x7_1).f1.f7).length c144_8, .int .i64 ((rd_T74 l0 x7_1).f2), .int .i64 ((rd_T74 l0 x7_1).f3), .bool ((rd_T74 l0 x7_1).f4), .slice none 0 0, .slice none 0 0]) ?_ 12 _ rfl; (with_reducible repeat (first | refine blk_drewN ?_ _ | refine blk_drew ?_ | refine blk_alloc ?_ _)); refine blk_put (cs := #[.int .i64 ((rd_T74 l0 x7_1).f0), .int .i64 ((rd_T74 l0 x7_1).f1.f0), .string ((rd_T74 l0 x7_1).f1.f1), .bool ((rd_T74 l0 x7_1).f1.f2), .slice A144_4 ((rd_T74 l0 x7_1).f1.f3).length c144_4, .slice A144_5 ((rd_T74 l0 x7_1).f1.f4).length c144_5, .slice A144_6 ((rd_T74 l0 x7_1).f1.f5).length c144_6, .slice A144_7 ((rd_T74 l0 x7_1).f1.f6).length c144_7, .slice A144_8 ((rd_T74 l0 x7_1).f1.f7).length c144_8, .int .i64 ((rd_T74 l0 x7_1).f2), .int .i64 ((rd_T74 l0 x7_1).f3), .bool false, .slice none 0 0, .slice none 0 0]) ?_ 11 _ rfl; (with_reducible repeat (first | refine blk_drewN ?_ _ | refine blk_drew ?_ | refine blk_alloc ?_ _)); refine blk_put (cs := #[.int .i64 ((rd_T74 l0 x7_1).f0), .int .i64 ((rd_T74 l0 x7_1).f1.f0), .string ((rd_T74 l0 x7_1).f1.f1), .bool ((rd_T74 l0 x7_1).f1.f2), .slice A144_4 ((rd_T74 l0 x7_1).f1.f3).length c144_4, .slice A144_5 ((rd_T74 l0 x7_1).f1.f4).length c144_5, .slice A144_6 ((rd_T74 l0 x7_1).f1.f5).length c144_6, .slice A144_7 ((rd_T74 l0 x7_1).f1.f6).length c144_7, .slice A144_8 ((rd_T74 l0 x7_1).f1.f7).length c144_8, .int .i64 ((rd_T74 l0 x7_1).f2), .int .i64 0, .bool false, .slice none 0 0, .slice none 0 0]) ?_ 10 _ rfl; (with_reducible repeat (first | refine blk_drewN ?_ _ | refine blk_drew ?_ | refine blk_alloc ?_ _)); refine blk_put (cs := #[.int .i64 ((rd_T74 l0 x7_1).f0), .int .i64 ((rd_T74 l0 x7_1).f1.f0), .string ((rd_T74 l0 x7_1).f1.f1), .bool ((rd_T74 l0 x7_1).f1.f2), .slice A144_4 ((rd_T74 l0 x7_1).f1.f3).length c144_4, .slice A144_5 ((rd_T74 l0 x7_1).f1.f4).length c144_5, .slice A144_6 ((rd_T74 l0 x7_1).f1.f5).length c144_6, .slice A144_7 ((rd_T74 l0 x7_1).f1.f6).length c144_7, .slice A144_8 ((rd_T74 l0 x7_1).f1.f7).length c144_8, .int .i64 0, .int .i64 0, .bool false, .slice none 0 0, .slice none 0 0]) ?_ 9 _ rfl; (with_reducible repeat (first | refine blk_drewN ?_ _ | refine blk_drew ?_ | refine blk_alloc ?_ _)); refine blk_put (cs := #[.int .i64 ((rd_T74 l0 x7_1).f0), .int .i64 ((rd_T74 l0 x7_1).f1.f0), .string ((rd_T74 l0 x7_1).f1.f1), .bool ((rd_T74 l0 x7_1).f1.f2), .slice A144_4 ((rd_T74 l0 x7_1).f1.f3).length c144_4, .slice A144_5 ((rd_T74 l0 x7_1).f1.f4).length c144_5, .slice A144_6 ((rd_T74 l0 x7_1).f1.f5).length c144_6, .slice A144_7 ((rd_T74 l0 x7_1).f1.f6).length c144_7, .slice none 0 0, .int .i64 0, .int .i64 0, .bool false, .slice none 0 0, .slice none 0 0]) ?_ 8 _ rfl; (with_reducible repeat (first | refine blk_drewN ?_ _ | refine blk_drew ?_ | refine blk_alloc ?_ _)); refine blk_put (cs := #[.int .i64 ((rd_T74 l0 x7_1).f0), .int .i64 ((rd_T74 l0 x7_1).f1.f0), .string ((rd_T74 l0 x7_1).f1.f1), .bool ((rd_T74 l0 x7_1).f1.f2), .slice A144_4 ((rd_T74 l0 x7_1).f1.f3).length c144_4, .slice A144_5 ((rd_T74 l0 x7_1).f1.f4).length c144_5, .slice A144_6 ((rd_T74 l0 x7_1).f1.f5).length c144_6, .slice none 0 0, .slice none 0 0, .int .i64 0, .int .i64 0, .bool false, .slice none 0 0, .slice none 0 0]) ?_ 7 _ rfl; (with_reducible repeat (first | refine blk_drewN ?_ _ | refine blk_drew ?_ | refine blk_alloc ?_ _)); refine blk_put (cs := #[.int .i64 ((rd_T74 l0 x7_1).f0), .int .i64 ((rd_T74 l0 x7_1).f1.f0), .string ((rd_T74 l0 x7_1).f1.f1), .bool ((rd_T74 l0 x7_1).f1.f2), .slice A144_4 ((rd_T74 l0 x7_1).f1.f3).length c144_4, .slice A144_5 ((rd_T74 l0 x7_1).f1.f4).length c144_5, .slice none 0 0, .slice none 0 0, .slice none 0 0, .int .i64 0, .int .i64 0, .bool false, .slice none 0 0, .slice none 0 0]) ?_ 6 _ rfl; (with_reducible repeat (first | refine blk_drewN ?_ _ | refine blk_drew ?_ | refine blk_alloc ?_ _)); refine blk_put (cs := #[.int .i64 ((rd_T74 l0 x7_1).f0), .int .i64 ((rd_T74 l0 x7_1).f1.f0), .string ((rd_T74 l0 x7_1).f1.f1), .bool ((rd_T74 l0 x7_1).f1.f2), .slice A144_4 ((rd_T74 l0 x7_1).f1.f3).length c144_4, .slice none 0 0, .slice none 0 0, .slice none 0 0, .slice none 0 0, .int .i64 0, .int .i64 0, .bool false, .slice none 0 0, .slice none 0 0]) ?_ 5 _ rfl; (with_reducible repeat (first | refine blk_drewN ?_ _ | refine blk_drew ?_ | refine blk_alloc ?_ _)); refine blk_put (cs := #[.int .i64 ((rd_T74 l0 x7_1).f0), .int .i64 ((rd_T74 l0 x7_1).f1.f0), .string ((rd_T74 l0 x7_1).f1.f1), .bool ((rd_T74 l0 x7_1).f1.f2), .slice none 0 0, .slice none 0 0, .slice none 0 0, .slice none 0 0, .slice none 0 0, .int .i64 0, .int .i64 0, .bool false, .slice none 0 0, .slice none 0 0]) ?_ 4 _ rfl; (with_reducible repeat (first | refine blk_drewN ?_ _ | refine blk_drew ?_ | refine blk_alloc ?_ _)); refine blk_put (cs := #[.int .i64 ((rd_T74 l0 x7_1).f0), .int .i64 ((rd_T74 l0 x7_1).f1.f0), .string ((rd_T74 l0 x7_1).f1.f1), .bool false, .slice none 0 0, .slice none 0 0, .slice none 0 0, .slice none 0 0, .slice none 0 0, .int .i64 0, .int .i64 0, .bool false, .slice none 0 0, .slice none 0 0]) ?_ 3 _ rfl; (with_reducible repeat (first | refine blk_drewN ?_ _ | refine blk_drew ?_ | refine blk_alloc ?_ _)); refine blk_put (cs := #[.int .i64 ((rd_T74 l0 x7_1).f0), .int .i64 ((rd_T74 l0 x7_1).f1.f0), .string (⟨#[]⟩ : ByteArray), .bool false, .slice none 0 0, .slice none 0 0, .slice none 0 0, .slice none 0 0, .slice none 0 0, .int .i64 0, .int .i64 0, .bool false, .slice none 0 0, .slice none 0 0]) ?_ 2 _ rfl; (with_reducible repeat (first | refine blk_drewN ?_ _ | refine blk_drew ?_ | refine blk_alloc ?_ _)); refine blk_put (cs := #[.int .i64 ((rd_T74 l0 x7_1).f0), .int .i64 0, .string (⟨#[]⟩ : ByteArray), .bool false, .slice none 0 0, .slice none 0 0, .slice none 0 0, .slice none 0 0, .slice none 0 0, .int .i64 0, .int .i64 0, .bool false, .slice none 0 0, .slice none 0 0]) ?_ 1 _ rfl; (with_reducible repeat (first | refine blk_drewN ?_ _ | refine blk_drew ?_ | refine blk_alloc ?_ _)); refine blk_put (cs := #[.int .i64 0, .int .i64 0, .string (⟨#[]⟩ : ByteArray), .bool false, .slice none 0 0, .slice none 0 0, .slice none 0 0, .slice none 0 0, .slice none 0 0, .int .i64 0, .int .i64 0, .bool false, .slice none 0 0, .slice none 0 0]) ?_ 0 _ rfl; (with_reducible repeat (first | refine blk_drewN ?_ _ | refine blk_drew ?_ | refine blk_alloc ?_ _)); exact BK145.out) hb); have n1_ := Aside0.mk (below_step (by repeat (first | (with_reducible first | exact HB.out | apply below_alloc | apply pw_below_drewN | apply below_drew1 | refine below_set ?_ GE145.out) | exact HB.out)) hb); clear BK145; clear HB; have BK145 := n0_; have HB := n1_; clear n0_ n1_; (try clear hb); (try clear hb2); (try clear hk); (try clear hi)))
                  go_ret
                  exact ⟨by first | rfl | (simp [errW_none, errW_some] <;> rfl) | (simp [*, errW_none, errW_some] <;> rfl), by repeat (first | (with_reducible first | exact HB.out | apply below_alloc | apply pw_below_drewN | apply below_drew1 | refine below_set ?_ GE145.out) | exact HB.out)⟩
                · rw [if_neg c12] at H
                  have c12b0 : decide (300 < t146) = false := decide_eq_false c12
                  clear c12
                  have H' := Aside0.mk H
                  clear H
                  have p144 : 0 ≤ (x7_1 : Int) := of_decide_eq_true (by first | (with_reducible assumption) | assumption)
                  have q144 : x7_1 < (l0.length : Int) := of_decide_eq_true (by first | (with_reducible assumption) | assumption)
                  obtain ⟨ad144, A144_4, c144_4, A144_5, c144_5, A144_6, c144_6, A144_7, c144_7, A144_8, c144_8, A144_12, c144_12, A144_13, c144_13, e144, hx144_0, hx144_1, hx144_2, hx144_3, hx144_4, hx144_5, hx144_6, hx144_7, hx144_8, hx144_9, hx144_10, hx144_11, hx144_12, hx144_13, hl144_4, hi144_4, hl144_5, hi144_5, hl144_6, hi144_6, hl144_7, hi144_7, hl144_8, hi144_8, hl144_12, hi144_12, hl144_13, hi144_13⟩ := at_T74 HR0.out x7_1 p144 q144
                  cases e144
                  replace hx144_0 := (HB.out.cell (World.block_lt_of_cell? w _ hx144_0)).trans hx144_0
                  replace hx144_1 := (HB.out.cell (World.block_lt_of_cell? w _ hx144_1)).trans hx144_1
                  replace hx144_2 := (HB.out.cell (World.block_lt_of_cell? w _ hx144_2)).trans hx144_2
                  replace hx144_3 := (HB.out.cell (World.block_lt_of_cell? w _ hx144_3)).trans hx144_3
                  replace hx144_4 := (HB.out.cell (World.block_lt_of_cell? w _ hx144_4)).trans hx144_4
                  replace hx144_5 := (HB.out.cell (World.block_lt_of_cell? w _ hx144_5)).trans hx144_5
                  replace hx144_6 := (HB.out.cell (World.block_lt_of_cell? w _ hx144_6)).trans hx144_6
                  replace hx144_7 := (HB.out.cell (World.block_lt_of_cell? w _ hx144_7)).trans hx144_7
                  replace hx144_8 := (HB.out.cell (World.block_lt_of_cell? w _ hx144_8)).trans hx144_8
                  replace hx144_9 := (HB.out.cell (World.block_lt_of_cell? w _ hx144_9)).trans hx144_9
                  replace hx144_10 := (HB.out.cell (World.block_lt_of_cell? w _ hx144_10)).trans hx144_10
                  replace hx144_11 := (HB.out.cell (World.block_lt_of_cell? w _ hx144_11)).trans hx144_11
                  replace hx144_12 := (HB.out.cell (World.block_lt_of_cell? w _ hx144_12)).trans hx144_12
                  replace hx144_13 := (HB.out.cell (World.block_lt_of_cell? w _ hx144_13)).trans hx144_13
                  have HR144_4 := Aside0.mk hi144_4
                  have HC144_4 := Aside0.mk hl144_4
                  clear hi144_4 hl144_4
                  have HR144_5 := Aside0.mk hi144_5
                  have HC144_5 := Aside0.mk hl144_5
                  clear hi144_5 hl144_5
                  have HR144_6 := Aside0.mk hi144_6
                  have HC144_6 := Aside0.mk hl144_6
                  clear hi144_6 hl144_6
                  have HR144_7 := Aside0.mk hi144_7
                  have HC144_7 := Aside0.mk hl144_7
                  clear hi144_7 hl144_7
                  have HR144_8 := Aside0.mk hi144_8
                  have HC144_8 := Aside0.mk hl144_8
                  clear hi144_8 hl144_8
                  have HR144_12 := Aside0.mk hi144_12
                  have HC144_12 := Aside0.mk hl144_12
                  clear hi144_12 hl144_12
                  have HR144_13 := Aside0.mk hi144_13
                  have HC144_13 := Aside0.mk hl144_13
                  clear hi144_13 hl144_13
                  replace p144 := eq_true p144
                  replace q144 := eq_true q144
                  go_wp2_with (first | ((with_reducible refine gate_dst (N := 4) rfl ?_); (try (refine gate_guard (by rfl) ?_; dsimp only)); refine box_event ?hg (N := 4) ?hd (cs := #[.int .i64 0, .int .i64 0, .string (⟨#[]⟩ : ByteArray), .bool false, .slice none 0 0, .slice none 0 0, .slice none 0 0, .slice none 0 0, .slice none 0 0, .int .i64 0, .int .i64 0, .bool false, .slice none 0 0, .slice none 0 0]) (t := 74) ?hr ?_; (case hd => rfl); (case hg => rfl); (case hr => first | (go_simp; done) | (go_simp; rfl)); intro gb145 hg w16 hbox hb; have n0_ := Aside0.mk (below_step (by repeat (first | (with_reducible first | exact HB.out | apply below_alloc | apply pw_below_drewN | apply below_drew1) | exact HB.out)) hb); have n1_ := Aside0.mk (hbox); have n2_ := Aside0.mk ((by rw [hg]; exact (below_size (by repeat (first | (with_reducible first | exact HB.out | apply below_alloc | apply pw_below_drewN | apply below_drew1) | exact HB.out))) : w.heap.size ≤ gb145)); have n3_ := Aside0.mk ((by rw [hg]; exact (below_size (by repeat (first | (with_reducible first | exact HB.out | apply below_alloc | apply pw_below_drewN | apply below_drew1) | exact HB.out))) : w.heap.size ≤ gb145)); clear HB; have HB := n0_; have BK145 := n1_; have GW145 := n2_; have GE145 := n3_; clear n0_ n1_ n2_ n3_; clear hb hbox hg; have hcz17_0 : w16.cell? ⟨gb145, 0, none⟩ = some (.int .i64 0) := (blk_cell BK145.out 0).trans rfl; have hcz17_1 : w16.cell? ⟨gb145, 1, none⟩ = some (.int .i64 0) := (blk_cell BK145.out 1).trans rfl; have hcz17_2 : w16.cell? ⟨gb145, 2, none⟩ = some (.string (⟨#[]⟩ : ByteArray)) := (blk_cell BK145.out 2).trans rfl; have hcz17_3 : w16.cell? ⟨gb145, 3, none⟩ = some (.bool false) := (blk_cell BK145.out 3).trans rfl; have hcz17_4 : w16.cell? ⟨gb145, 4, none⟩ = some (.slice none 0 0) := (blk_cell BK145.out 4).trans rfl; have hcz17_5 : w16.cell? ⟨gb145, 5, none⟩ = some (.slice none 0 0) := (blk_cell BK145.out 5).trans rfl; have hcz17_6 : w16.cell? ⟨gb145, 6, none⟩ = some (.slice none 0 0) := (blk_cell BK145.out 6).trans rfl; have hcz17_7 : w16.cell? ⟨gb145, 7, none⟩ = some (.slice none 0 0) := (blk_cell BK145.out 7).trans rfl; have hcz17_8 : w16.cell? ⟨gb145, 8, none⟩ = some (.slice none 0 0) := (blk_cell BK145.out 8).trans rfl; have hcz17_9 : w16.cell? ⟨gb145, 9, none⟩ = some (.int .i64 0) := (blk_cell BK145.out 9).trans rfl; have hcz17_10 : w16.cell? ⟨gb145, 10, none⟩ = some (.int .i64 0) := (blk_cell BK145.out 10).trans rfl; have hcz17_11 : w16.cell? ⟨gb145, 11, none⟩ = some (.bool false) := (blk_cell BK145.out 11).trans rfl; have hcz17_12 : w16.cell? ⟨gb145, 12, none⟩ = some (.slice none 0 0) := (blk_cell BK145.out 12).trans rfl; have hcz17_13 : w16.cell? ⟨gb145, 13, none⟩ = some (.slice none 0 0) := (blk_cell BK145.out 13).trans rfl; have hfz17_0 := blk_frozen BK145.out 0; have hfz17_1 := blk_frozen BK145.out 1; have hfz17_2 := blk_frozen BK145.out 2; have hfz17_3 := blk_frozen BK145.out 3; have hfz17_4 := blk_frozen BK145.out 4; have hfz17_5 := blk_frozen BK145.out 5; have hfz17_6 := blk_frozen BK145.out 6; have hfz17_7 := blk_frozen BK145.out 7; have hfz17_8 := blk_frozen BK145.out 8; have hfz17_9 := blk_frozen BK145.out 9; have hfz17_10 := blk_frozen BK145.out 10; have hfz17_11 := blk_frozen BK145.out 11; have hfz17_12 := blk_frozen BK145.out 12; have hfz17_13 := blk_frozen BK145.out 13) | (go_at_call 24; (with_reducible refine (deadfallref05_Weight.calls k1 ((rd_T74 l0 x7_1).f1.f0) ((rd_T74 l0 x7_1).f1.f1) ((rd_T74 l0 x7_1).f1.f2) _ _ ((rd_T74 l0 x7_1).f1.f3) _ _ ((rd_T74 l0 x7_1).f1.f4) _ _ ((rd_T74 l0 x7_1).f1.f5) _ _ ((rd_T74 l0 x7_1).f1.f6) _ _ ((rd_T74 l0 x7_1).f1.f7) 0 t146 _ ?side1 ?side2 ?side3 ?side4 ?side5 ?side6 ?side7 ?side8 ?side9 ?side10 A11.out).mono ?_); (case side1 => exact Kd.C_below HR144_4.out (by repeat (first | (with_reducible first | exact HB.out | apply below_alloc | apply pw_below_drewN | apply below_drew1 | refine below_set ?_ GE145.out) | exact HB.out))); (case side2 => exact HC144_4.out); (case side3 => exact Kd.C_below HR144_5.out (by repeat (first | (with_reducible first | exact HB.out | apply below_alloc | apply pw_below_drewN | apply below_drew1 | refine below_set ?_ GE145.out) | exact HB.out))); (case side4 => exact HC144_5.out); (case side5 => exact Kd.C_below HR144_6.out (by repeat (first | (with_reducible first | exact HB.out | apply below_alloc | apply pw_below_drewN | apply below_drew1 | refine below_set ?_ GE145.out) | exact HB.out))); (case side6 => exact HC144_6.out); (case side7 => exact Kd.C_below HR144_7.out (by repeat (first | (with_reducible first | exact HB.out | apply below_alloc | apply pw_below_drewN | apply below_drew1 | refine below_set ?_ GE145.out) | exact HB.out))); (case side8 => exact HC144_7.out); (case side9 => exact Kd.C_below HR144_8.out (by repeat (first | (with_reducible first | exact HB.out | apply below_alloc | apply pw_below_drewN | apply below_drew1 | refine below_set ?_ GE145.out) | exact HB.out))); (case side10 => exact HC144_8.out); rintro e w18 ⟨rfl, hb⟩; have n0_ := Aside0.mk (blk_below (g := gb145) (o := .cells #[.int .i64 ((rd_T74 l0 x7_1).f0), .int .i64 ((rd_T74 l0 x7_1).f1.f0), .string ((rd_T74 l0 x7_1).f1.f1), .bool ((rd_T74 l0 x7_1).f1.f2), .slice A144_4 ((rd_T74 l0 x7_1).f1.f3).length c144_4, .slice A144_5 ((rd_T74 l0 x7_1).f1.f4).length c144_5, .slice A144_6 ((rd_T74 l0 x7_1).f1.f5).length c144_6, .slice A144_7 ((rd_T74 l0 x7_1).f1.f6).length c144_7, .slice A144_8 ((rd_T74 l0 x7_1).f1.f7).length c144_8, .int .i64 ((rd_T74 l0 x7_1).f2), .int .i64 ((rd_T74 l0 x7_1).f3), .bool ((rd_T74 l0 x7_1).f4), .slice A144_12 ((rd_T74 l0 x7_1).f5).length c144_12, .slice A144_13 ((rd_T74 l0 x7_1).f6).length c144_13] 74 (0, 0)) (by (with_reducible repeat (first | refine blk_drewN ?_ _ | refine blk_drew ?_ | refine blk_alloc ?_ _)); refine blk_put (cs := #[.int .i64 ((rd_T74 l0 x7_1).f0), .int .i64 ((rd_T74 l0 x7_1).f1.f0), .string ((rd_T74 l0 x7_1).f1.f1), .bool ((rd_T74 l0 x7_1).f1.f2), .slice A144_4 ((rd_T74 l0 x7_1).f1.f3).length c144_4, .slice A144_5 ((rd_T74 l0 x7_1).f1.f4).length c144_5, .slice A144_6 ((rd_T74 l0 x7_1).f1.f5).length c144_6, .slice A144_7 ((rd_T74 l0 x7_1).f1.f6).length c144_7, .slice A144_8 ((rd_T74 l0 x7_1).f1.f7).length c144_8, .int .i64 ((rd_T74 l0 x7_1).f2), .int .i64 ((rd_T74 l0 x7_1).f3), .bool ((rd_T74 l0 x7_1).f4), .slice A144_12 ((rd_T74 l0 x7_1).f5).length c144_12, .slice none 0 0]) ?_ 13 _ rfl; (with_reducible repeat (first | refine blk_drewN ?_ _ | refine blk_drew ?_ | refine blk_alloc ?_ _)); refine blk_put (cs := #[.int .i64 ((rd_T74 l0 x7_1).f0), .int .i64 ((rd_T74 l0 x7_1).f1.f0), .string ((rd_T74 l0 x7_1).f1.f1), .bool ((rd_T74 l0 x7_1).f1.f2), .slice A144_4 ((rd_T74 l0 x7_1).f1.f3).length c144_4, .slice A144_5 ((rd_T74 l0 x7_1).f1.f4).length c144_5, .slice A144_6 ((rd_T74 l0 x7_1).f1.f5).length c144_6, .slice A144_7 ((rd_T74 l0 x7_1).f1.f6).length c144_7, .slice A144_8 ((rd_T74 l0 x7_1).f1.f7).length c144_8, .int .i64 ((rd_T74 l0 x7_1).f2), .int .i64 ((rd_T74 l0 x7_1).f3), .bool ((rd_T74 l0 x7_1).f4), .slice none 0 0, .slice none 0 0]) ?_ 12 _ rfl; (with_reducible repeat (first | refine blk_drewN ?_ _ | refine blk_drew ?_ | refine blk_alloc ?_ _)); refine blk_put (cs := #[.int .i64 ((rd_T74 l0 x7_1).f0), .int .i64 ((rd_T74 l0 x7_1).f1.f0), .string ((rd_T74 l0 x7_1).f1.f1), .bool ((rd_T74 l0 x7_1).f1.f2), .slice A144_4 ((rd_T74 l0 x7_1).f1.f3).length c144_4, .slice A144_5 ((rd_T74 l0 x7_1).f1.f4).length c144_5, .slice A144_6 ((rd_T74 l0 x7_1).f1.f5).length c144_6, .slice A144_7 ((rd_T74 l0 x7_1).f1.f6).length c144_7, .slice A144_8 ((rd_T74 l0 x7_1).f1.f7).length c144_8, .int .i64 ((rd_T74 l0 x7_1).f2), .int .i64 ((rd_T74 l0 x7_1).f3), .bool false, .slice none 0 0, .slice none 0 0]) ?_ 11 _ rfl; (with_reducible repeat (first | refine blk_drewN ?_ _ | refine blk_drew ?_ | refine blk_alloc ?_ _)); refine blk_put (cs := #[.int .i64 ((rd_T74 l0 x7_1).f0), .int .i64 ((rd_T74 l0 x7_1).f1.f0), .string ((rd_T74 l0 x7_1).f1.f1), .bool ((rd_T74 l0 x7_1).f1.f2), .slice A144_4 ((rd_T74 l0 x7_1).f1.f3).length c144_4, .slice A144_5 ((rd_T74 l0 x7_1).f1.f4).length c144_5, .slice A144_6 ((rd_T74 l0 x7_1).f1.f5).length c144_6, .slice A144_7 ((rd_T74 l0 x7_1).f1.f6).length c144_7, .slice A144_8 ((rd_T74 l0 x7_1).f1.f7).length c144_8, .int .i64 ((rd_T74 l0 x7_1).f2), .int .i64 0, .bool false, .slice none 0 0, .slice none 0 0]) ?_ 10 _ rfl; (with_reducible repeat (first | refine blk_drewN ?_ _ | refine blk_drew ?_ | refine blk_alloc ?_ _)); refine blk_put (cs := #[.int .i64 ((rd_T74 l0 x7_1).f0), .int .i64 ((rd_T74 l0 x7_1).f1.f0), .string ((rd_T74 l0 x7_1).f1.f1), .bool ((rd_T74 l0 x7_1).f1.f2), .slice A144_4 ((rd_T74 l0 x7_1).f1.f3).length c144_4, .slice A144_5 ((rd_T74 l0 x7_1).f1.f4).length c144_5, .slice A144_6 ((rd_T74 l0 x7_1).f1.f5).length c144_6, .slice A144_7 ((rd_T74 l0 x7_1).f1.f6).length c144_7, .slice A144_8 ((rd_T74 l0 x7_1).f1.f7).length c144_8, .int .i64 0, .int .i64 0, .bool false, .slice none 0 0, .slice none 0 0]) ?_ 9 _ rfl; (with_reducible repeat (first | refine blk_drewN ?_ _ | refine blk_drew ?_ | refine blk_alloc ?_ _)); refine blk_put (cs := #[.int .i64 ((rd_T74 l0 x7_1).f0), .int .i64 ((rd_T74 l0 x7_1).f1.f0), .string ((rd_T74 l0 x7_1).f1.f1), .bool ((rd_T74 l0 x7_1).f1.f2), .slice A144_4 ((rd_T74 l0 x7_1).f1.f3).length c144_4, .slice A144_5 ((rd_T74 l0 x7_1).f1.f4).length c144_5, .slice A144_6 ((rd_T74 l0 x7_1).f1.f5).length c144_6, .slice A144_7 ((rd_T74 l0 x7_1).f1.f6).length c144_7, .slice none 0 0, .int .i64 0, .int .i64 0, .bool false, .slice none 0 0, .slice none 0 0]) ?_ 8 _ rfl; (with_reducible repeat (first | refine blk_drewN ?_ _ | refine blk_drew ?_ | refine blk_alloc ?_ _)); refine blk_put (cs := #[.int .i64 ((rd_T74 l0 x7_1).f0), .int .i64 ((rd_T74 l0 x7_1).f1.f0), .string ((rd_T74 l0 x7_1).f1.f1), .bool ((rd_T74 l0 x7_1).f1.f2), .slice A144_4 ((rd_T74 l0 x7_1).f1.f3).length c144_4, .slice A144_5 ((rd_T74 l0 x7_1).f1.f4).length c144_5, .slice A144_6 ((rd_T74 l0 x7_1).f1.f5).length c144_6, .slice none 0 0, .slice none 0 0, .int .i64 0, .int .i64 0, .bool false, .slice none 0 0, .slice none 0 0]) ?_ 7 _ rfl; (with_reducible repeat (first | refine blk_drewN ?_ _ | refine blk_drew ?_ | refine blk_alloc ?_ _)); refine blk_put (cs := #[.int .i64 ((rd_T74 l0 x7_1).f0), .int .i64 ((rd_T74 l0 x7_1).f1.f0), .string ((rd_T74 l0 x7_1).f1.f1), .bool ((rd_T74 l0 x7_1).f1.f2), .slice A144_4 ((rd_T74 l0 x7_1).f1.f3).length c144_4, .slice A144_5 ((rd_T74 l0 x7_1).f1.f4).length c144_5, .slice none 0 0, .slice none 0 0, .slice none 0 0, .int .i64 0, .int .i64 0, .bool false, .slice none 0 0, .slice none 0 0]) ?_ 6 _ rfl; (with_reducible repeat (first | refine blk_drewN ?_ _ | refine blk_drew ?_ | refine blk_alloc ?_ _)); refine blk_put (cs := #[.int .i64 ((rd_T74 l0 x7_1).f0), .int .i64 ((rd_T74 l0 x7_1).f1.f0), .string ((rd_T74 l0 x7_1).f1.f1), .bool ((rd_T74 l0 x7_1).f1.f2), .slice A144_4 ((rd_T74 l0 x7_1).f1.f3).length c144_4, .slice none 0 0, .slice none 0 0, .slice none 0 0, .slice none 0 0, .int .i64 0, .int .i64 0, .bool false, .slice none 0 0, .slice none 0 0]) ?_ 5 _ rfl; (with_reducible repeat (first | refine blk_drewN ?_ _ | refine blk_drew ?_ | refine blk_alloc ?_ _)); refine blk_put (cs := #[.int .i64 ((rd_T74 l0 x7_1).f0), .int .i64 ((rd_T74 l0 x7_1).f1.f0), .string ((rd_T74 l0 x7_1).f1.f1), .bool ((rd_T74 l0 x7_1).f1.f2), .slice none 0 0, .slice none 0 0, .slice none 0 0, .slice none 0 0, .slice none 0 0, .int .i64 0, .int .i64 0, .bool false, .slice none 0 0, .slice none 0 0]) ?_ 4 _ rfl; (with_reducible repeat (first | refine blk_drewN ?_ _ | refine blk_drew ?_ | refine blk_alloc ?_ _)); refine blk_put (cs := #[.int .i64 ((rd_T74 l0 x7_1).f0), .int .i64 ((rd_T74 l0 x7_1).f1.f0), .string ((rd_T74 l0 x7_1).f1.f1), .bool false, .slice none 0 0, .slice none 0 0, .slice none 0 0, .slice none 0 0, .slice none 0 0, .int .i64 0, .int .i64 0, .bool false, .slice none 0 0, .slice none 0 0]) ?_ 3 _ rfl; (with_reducible repeat (first | refine blk_drewN ?_ _ | refine blk_drew ?_ | refine blk_alloc ?_ _)); refine blk_put (cs := #[.int .i64 ((rd_T74 l0 x7_1).f0), .int .i64 ((rd_T74 l0 x7_1).f1.f0), .string (⟨#[]⟩ : ByteArray), .bool false, .slice none 0 0, .slice none 0 0, .slice none 0 0, .slice none 0 0, .slice none 0 0, .int .i64 0, .int .i64 0, .bool false, .slice none 0 0, .slice none 0 0]) ?_ 2 _ rfl; (with_reducible repeat (first | refine blk_drewN ?_ _ | refine blk_drew ?_ | refine blk_alloc ?_ _)); refine blk_put (cs := #[.int .i64 ((rd_T74 l0 x7_1).f0), .int .i64 0, .string (⟨#[]⟩ : ByteArray), .bool false, .slice none 0 0, .slice none 0 0, .slice none 0 0, .slice none 0 0, .slice none 0 0, .int .i64 0, .int .i64 0, .bool false, .slice none 0 0, .slice none 0 0]) ?_ 1 _ rfl; (with_reducible repeat (first | refine blk_drewN ?_ _ | refine blk_drew ?_ | refine blk_alloc ?_ _)); refine blk_put (cs := #[.int .i64 0, .int .i64 0, .string (⟨#[]⟩ : ByteArray), .bool false, .slice none 0 0, .slice none 0 0, .slice none 0 0, .slice none 0 0, .slice none 0 0, .int .i64 0, .int .i64 0, .bool false, .slice none 0 0, .slice none 0 0]) ?_ 0 _ rfl; (with_reducible repeat (first | refine blk_drewN ?_ _ | refine blk_drew ?_ | refine blk_alloc ?_ _)); exact BK145.out) hb); have n1_ := Aside0.mk (below_step (by repeat (first | (with_reducible first | exact HB.out | apply below_alloc | apply pw_below_drewN | apply below_drew1 | refine below_set ?_ GE145.out) | exact HB.out)) hb); clear BK145; clear HB; have BK145 := n0_; have HB := n1_; clear n0_ n1_; (try clear hb); (try clear hb2); (try clear hk); (try clear hi)))
                  go_roundg k1
                  case measure => have := HK1.out; omega
                  case rel => exact ⟨(wrap64 (x7_1 + 1)), (by first | rfl | (simp; done) | (simp [*]; done)), H', ⟨by have := HK1.out; omega⟩, ⟨by repeat (first | (with_reducible first | exact HB.out | apply below_alloc | apply pw_below_drewN | apply below_drew1 | refine below_set ?_ GE145.out) | exact HB.out)⟩⟩
          · rw [if_neg c4] at H
            exact absurd H (by simp)
        · rw [if_neg c3] at H
          exact absurd H (by simp)
      · rw [if_neg c2] at H
        have c2b0 : decide (x7_1 < (l0.length : Int)) = false := decide_eq_false c2
        clear c2
        obtain rfl := Option.some.inj H
        go_wp2
        go_ret
        exact ⟨by first | rfl | (simp [errW_none, errW_some] <;> rfl) | (simp [*, errW_none, errW_some] <;> rfl), by repeat (first | (with_reducible first | exact HB.out | apply below_alloc | apply pw_below_drewN | apply below_drew1) | exact HB.out)⟩

/-! ### deadfallref09_SameTexts: function 16 -/
def deadfallref09_SameTexts.l0 : Nat → List ByteArray → List ByteArray → Int → Int → Option (Bool)
  | 0, _, _, _, _ => none
  | k + 1, x0, x1, x12, x13 => if x13 < x12 then (if 0 ≤ x13 then (if x13 < (x0.length : Int) then (if x13 < (x1.length : Int) then (if (rdOf ByteArray.empty x0 x13).toList = (rdOf ByteArray.empty x1 x13).toList then (deadfallref09_SameTexts.l0 k x0 x1 x12 (wrap64 (x13 + 1))) else (some false)) else (none)) else (none)) else (none)) else (some true)
def deadfallref09_SameTexts.f (k : Nat) (l0 : List ByteArray) (l1 : List ByteArray) : Option (Bool) := if (l0.length : Int) = (l1.length : Int) then (deadfallref09_SameTexts.l0 k l0 l1 (l0.length : Int) 0) else (some false)
theorem deadfallref09_SameTexts.mono_l : ∀ k, (∀ y0 y1 y2 y3, LeO (deadfallref09_SameTexts.l0 k y0 y1 y2 y3) (deadfallref09_SameTexts.l0 (k + 1) y0 y1 y2 y3))
  | 0 => fun _ _ _ _ r h => by simp [deadfallref09_SameTexts.l0] at h
  | k + 1 => by
    have ih0 := deadfallref09_SameTexts.mono_l k
    · intro y0 y1 y2 y3
      unfold deadfallref09_SameTexts.l0
      repeat' first
      | (with_reducible exact ih0 _ _ _ _)
      | (with_reducible exact LeO.refl _)
      | (with_reducible exact LeO.none _)
      | (with_reducible refine LeO.ite ?_ ?_)
      | (with_reducible refine LeO.bind ?_ (fun _ => ?_))
      | exact ih0 _ _ _ _
      | exact LeO.none _
      | refine LeO.ite ?_ ?_
      | refine LeO.bind ?_ (fun _ => ?_)
theorem deadfallref09_SameTexts.mono : ∀ a0 a1 k, LeO (deadfallref09_SameTexts.f k a0 a1) (deadfallref09_SameTexts.f (k + 1) a0 a1) := by
  intro a0 a1 k
  have ih0 := deadfallref09_SameTexts.mono_l k
  unfold deadfallref09_SameTexts.f
  repeat' first
      | (with_reducible exact ih0 _ _ _ _)
      | (with_reducible exact LeO.refl _)
      | (with_reducible exact LeO.none _)
      | (with_reducible refine LeO.ite ?_ ?_)
      | (with_reducible refine LeO.bind ?_ (fun _ => ?_))
      | exact ih0 _ _ _ _
      | exact LeO.none _
      | refine LeO.ite ?_ ?_
      | refine LeO.bind ?_ (fun _ => ?_)
set_option maxHeartbeats 8000000 in
set_option maxRecDepth 100000 in
theorem deadfallref09_SameTexts.calls (k : Nat) (A0 : Option Addr) (c0 : Nat) (l0 : List ByteArray) (A1 : Option Addr) (c1 : Nat) (l1 : List ByteArray) (r : Bool) (w : World) (hr0 : Kd.C Kd.string w A0 l0.length l0) (hc0 : l0.length ≤ c0) (hr1 : Kd.C Kd.string w A1 l1.length l1) (hc1 : l1.length ≤ c1) (h : deadfallref09_SameTexts.f k l0 l1 = some r) :
    Calls Try.prog 16 #[.slice A0 l0.length c0, .slice A1 l1.length c1] w fun e w' => e = .returned (.bool r) ∧ Drawn0 w w' := by
  have HR0 := Aside0.mk hr0
  have HC0 := Aside0.mk hc0
  clear hr0 hc0
  have HR1 := Aside0.mk hr1
  have HC1 := Aside0.mk hc1
  clear hr1 hc1
  have H : (if (l0.length : Int) = (l1.length : Int) then (deadfallref09_SameTexts.l0 k l0 l1 (l0.length : Int) 0) else (some false)) = some r := h
  clear h
  by_cases c3 : (l0.length : Int) = (l1.length : Int)
  · rw [if_pos c3] at H
    have c3b0 : ((l0.length : Int) == (l1.length : Int)) = true := beq_iff_eq.mpr c3
    have c3b1 : ((l0.length : Int) != (l1.length : Int)) = false := bne_eq_false_iff_eq.mpr c3
    have c3b2 : (l0.length == l1.length) = true := by first | simpa using c3 | (simp at c3 ⊢; omega)
    clear c3
    have H' := Aside0.mk H
    clear H
    go_enter Try.func16, Try.ntmps16
    go_wp2
    repeat (go_quiet (fail); try go_wp2)
    go_loopg [13] k (fun kq v13 w' => ∃ (x13_1 : Int), v13 = .int .i64 x13_1 ∧ Aside0 (deadfallref09_SameTexts.l0 kq l0 l1 (l0.length : Int) x13_1 = some r) ∧ Aside0 (kq ≤ k) ∧ Drawn0 w w')
    case atStart => exact ⟨(0), (by first | rfl | (simp; done) | (simp [*]; done)), H', ⟨Nat.le_refl _⟩, by repeat (first | exact Drawn0.refl _ | apply Drawn0.step)⟩
    case round =>
      clear H'
      try clear c1
      try clear p2
      try clear c3
      try clear c3b0
      try clear c3b1
      try clear c3b2
      obtain ⟨x13_1, rfl, HA, HK1, ⟨m1, rfl⟩⟩ := hrel
      cases gk with
      | zero => exact absurd HA.out (by simp [deadfallref09_SameTexts.l0])
      | succ k1 =>
        have H := HA.out
        clear HA
        simp only [deadfallref09_SameTexts.l0] at H
        by_cases c4 : x13_1 < (l0.length : Int)
        · rw [if_pos c4] at H
          have c4b0 : decide (x13_1 < (l0.length : Int)) = true := decide_eq_true c4
          clear c4
          by_cases c5 : 0 ≤ x13_1
          · rw [if_pos c5] at H
            have c5b0 : decide (0 ≤ x13_1) = true := decide_eq_true c5
            clear c5
            by_cases c6 : x13_1 < (l0.length : Int)
            · rw [if_pos c6] at H
              have c6b0 : decide (x13_1 < (l0.length : Int)) = true := decide_eq_true c6
              clear c6
              by_cases c7 : x13_1 < (l1.length : Int)
              · rw [if_pos c7] at H
                have c7b0 : decide (x13_1 < (l1.length : Int)) = true := decide_eq_true c7
                clear c7
                by_cases c8 : (rdOf ByteArray.empty l0 x13_1).toList = (rdOf ByteArray.empty l1 x13_1).toList
                · rw [if_pos c8] at H
                  have c8b0 : ((rdOf ByteArray.empty l0 x13_1).toList == (rdOf ByteArray.empty l1 x13_1).toList) = true := beq_iff_eq.mpr c8
                  have c8b1 : ((rdOf ByteArray.empty l0 x13_1).toList != (rdOf ByteArray.empty l1 x13_1).toList) = false := bne_eq_false_iff_eq.mpr c8
                  clear c8
                  have H' := Aside0.mk H
                  clear H
                  have p147 : 0 ≤ (x13_1 : Int) := of_decide_eq_true (by first | (with_reducible assumption) | assumption)
                  have q147 : x13_1 < (l0.length : Int) := of_decide_eq_true (by first | (with_reducible assumption) | assumption)
                  obtain ⟨ad147, e147, hx147_0⟩ := Kd.at_string HR0.out x13_1 p147 q147
                  cases e147
                  replace p147 := eq_true p147
                  replace q147 := eq_true q147
                  have p148 : 0 ≤ (x13_1 : Int) := of_decide_eq_true (by first | (with_reducible assumption) | assumption)
                  have q148 : x13_1 < (l1.length : Int) := of_decide_eq_true (by first | (with_reducible assumption) | assumption)
                  obtain ⟨ad148, e148, hx148_0⟩ := Kd.at_string HR1.out x13_1 p148 q148
                  cases e148
                  replace p148 := eq_true p148
                  replace q148 := eq_true q148
                  go_wp2
                  repeat (go_quiet (fail); try go_wp2)
                  go_roundg k1
                  case measure => have := HK1.out; omega
                  case rel => exact ⟨(wrap64 (x13_1 + 1)), (by first | rfl | (simp; done) | (simp [*]; done)), H', ⟨by have := HK1.out; omega⟩, by repeat (first | exact Drawn0.refl _ | apply Drawn0.step)⟩
                · rw [if_neg c8] at H
                  have c8b0 : ((rdOf ByteArray.empty l0 x13_1).toList == (rdOf ByteArray.empty l1 x13_1).toList) = false := beq_eq_false_iff_ne.mpr c8
                  have c8b1 : ((rdOf ByteArray.empty l0 x13_1).toList != (rdOf ByteArray.empty l1 x13_1).toList) = true := bne_iff_ne.mpr c8
                  obtain rfl := Option.some.inj H
                  have p147 : 0 ≤ (x13_1 : Int) := of_decide_eq_true (by first | (with_reducible assumption) | assumption)
                  have q147 : x13_1 < (l0.length : Int) := of_decide_eq_true (by first | (with_reducible assumption) | assumption)
                  obtain ⟨ad147, e147, hx147_0⟩ := Kd.at_string HR0.out x13_1 p147 q147
                  cases e147
                  replace p147 := eq_true p147
                  replace q147 := eq_true q147
                  have p148 : 0 ≤ (x13_1 : Int) := of_decide_eq_true (by first | (with_reducible assumption) | assumption)
                  have q148 : x13_1 < (l1.length : Int) := of_decide_eq_true (by first | (with_reducible assumption) | assumption)
                  obtain ⟨ad148, e148, hx148_0⟩ := Kd.at_string HR1.out x13_1 p148 q148
                  cases e148
                  replace p148 := eq_true p148
                  replace q148 := eq_true q148
                  go_wp2
                  repeat (go_quiet (fail); try go_wp2)
                  go_ret
                  exact ⟨by first | rfl | (simp; done) | (simp [*]; done), by repeat (first | exact Drawn0.refl _ | apply Drawn0.step)⟩
              · rw [if_neg c7] at H
                exact absurd H (by simp)
            · rw [if_neg c6] at H
              exact absurd H (by simp)
          · rw [if_neg c5] at H
            exact absurd H (by simp)
        · rw [if_neg c4] at H
          have c4b0 : decide (x13_1 < (l0.length : Int)) = false := decide_eq_false c4
          clear c4
          obtain rfl := Option.some.inj H
          go_wp2
          repeat (go_quiet (fail); try go_wp2)
          go_ret
          exact ⟨by first | rfl | (simp; done) | (simp [*]; done), by repeat (first | exact Drawn0.refl _ | apply Drawn0.step)⟩
  · rw [if_neg c3] at H
    have c3b0 : ((l0.length : Int) == (l1.length : Int)) = false := beq_eq_false_iff_ne.mpr c3
    have c3b1 : ((l0.length : Int) != (l1.length : Int)) = true := bne_iff_ne.mpr c3
    have c3b2 : (l0.length == l1.length) = false := by first | simpa using c3 | (simp at c3 ⊢; omega)
    obtain rfl := Option.some.inj H
    go_enter Try.func16, Try.ntmps16
    go_wp2
    repeat (go_quiet (fail); try go_wp2)
    go_ret
    exact ⟨by first | rfl | (simp; done) | (simp [*]; done), by repeat (first | exact Drawn0.refl _ | apply Drawn0.step)⟩

/-! ### deadfallref12_SameInts: function 87 -/
def deadfallref12_SameInts.l0 : Nat → List Int → List Int → Int → Int → Option (Bool)
  | 0, _, _, _, _ => none
  | k + 1, x0, x1, x12, x13 => if x13 < x12 then (if 0 ≤ x13 then (if x13 < (x0.length : Int) then (if x13 < (x1.length : Int) then (if (rd x0 x13) = (rd x1 x13) then (deadfallref12_SameInts.l0 k x0 x1 x12 (wrap64 (x13 + 1))) else (some false)) else (none)) else (none)) else (none)) else (some true)
def deadfallref12_SameInts.f (k : Nat) (l0 : List Int) (l1 : List Int) : Option (Bool) := if (l0.length : Int) = (l1.length : Int) then (deadfallref12_SameInts.l0 k l0 l1 (l0.length : Int) 0) else (some false)
theorem deadfallref12_SameInts.mono_l : ∀ k, (∀ y0 y1 y2 y3, LeO (deadfallref12_SameInts.l0 k y0 y1 y2 y3) (deadfallref12_SameInts.l0 (k + 1) y0 y1 y2 y3))
  | 0 => fun _ _ _ _ r h => by simp [deadfallref12_SameInts.l0] at h
  | k + 1 => by
    have ih0 := deadfallref12_SameInts.mono_l k
    · intro y0 y1 y2 y3
      unfold deadfallref12_SameInts.l0
      repeat' first
      | (with_reducible exact ih0 _ _ _ _)
      | (with_reducible exact LeO.refl _)
      | (with_reducible exact LeO.none _)
      | (with_reducible refine LeO.ite ?_ ?_)
      | (with_reducible refine LeO.bind ?_ (fun _ => ?_))
      | exact ih0 _ _ _ _
      | exact LeO.none _
      | refine LeO.ite ?_ ?_
      | refine LeO.bind ?_ (fun _ => ?_)
theorem deadfallref12_SameInts.mono : ∀ a0 a1 k, LeO (deadfallref12_SameInts.f k a0 a1) (deadfallref12_SameInts.f (k + 1) a0 a1) := by
  intro a0 a1 k
  have ih0 := deadfallref12_SameInts.mono_l k
  unfold deadfallref12_SameInts.f
  repeat' first
      | (with_reducible exact ih0 _ _ _ _)
      | (with_reducible exact LeO.refl _)
      | (with_reducible exact LeO.none _)
      | (with_reducible refine LeO.ite ?_ ?_)
      | (with_reducible refine LeO.bind ?_ (fun _ => ?_))
      | exact ih0 _ _ _ _
      | exact LeO.none _
      | refine LeO.ite ?_ ?_
      | refine LeO.bind ?_ (fun _ => ?_)
set_option maxHeartbeats 8000000 in
set_option maxRecDepth 100000 in
theorem deadfallref12_SameInts.calls (k : Nat) (A0 : Option Addr) (c0 : Nat) (l0 : List Int) (A1 : Option Addr) (c1 : Nat) (l1 : List Int) (r : Bool) (w : World) (hr0 : Kd.C (Kd.int .i64) w A0 l0.length l0) (hc0 : l0.length ≤ c0) (hr1 : Kd.C (Kd.int .i64) w A1 l1.length l1) (hc1 : l1.length ≤ c1) (h : deadfallref12_SameInts.f k l0 l1 = some r) :
    Calls Try.prog 87 #[.slice A0 l0.length c0, .slice A1 l1.length c1] w fun e w' => e = .returned (.bool r) ∧ Drawn0 w w' := by
  have HR0 := Aside0.mk hr0
  have HC0 := Aside0.mk hc0
  clear hr0 hc0
  have HR1 := Aside0.mk hr1
  have HC1 := Aside0.mk hc1
  clear hr1 hc1
  have H : (if (l0.length : Int) = (l1.length : Int) then (deadfallref12_SameInts.l0 k l0 l1 (l0.length : Int) 0) else (some false)) = some r := h
  clear h
  by_cases c3 : (l0.length : Int) = (l1.length : Int)
  · rw [if_pos c3] at H
    have c3b0 : ((l0.length : Int) == (l1.length : Int)) = true := beq_iff_eq.mpr c3
    have c3b1 : ((l0.length : Int) != (l1.length : Int)) = false := bne_eq_false_iff_eq.mpr c3
    have c3b2 : (l0.length == l1.length) = true := by first | simpa using c3 | (simp at c3 ⊢; omega)
    clear c3
    have H' := Aside0.mk H
    clear H
    go_enter Try.func87, Try.ntmps87
    go_wp2
    repeat (go_quiet (fail); try go_wp2)
    go_loopg [13] k (fun kq v13 w' => ∃ (x13_1 : Int), v13 = .int .i64 x13_1 ∧ Aside0 (deadfallref12_SameInts.l0 kq l0 l1 (l0.length : Int) x13_1 = some r) ∧ Aside0 (kq ≤ k) ∧ Drawn0 w w')
    case atStart => exact ⟨(0), (by first | rfl | (simp; done) | (simp [*]; done)), H', ⟨Nat.le_refl _⟩, by repeat (first | exact Drawn0.refl _ | apply Drawn0.step)⟩
    case round =>
      clear H'
      try clear c1
      try clear p2
      try clear c3
      try clear c3b0
      try clear c3b1
      try clear c3b2
      obtain ⟨x13_1, rfl, HA, HK1, ⟨m1, rfl⟩⟩ := hrel
      cases gk with
      | zero => exact absurd HA.out (by simp [deadfallref12_SameInts.l0])
      | succ k1 =>
        have H := HA.out
        clear HA
        simp only [deadfallref12_SameInts.l0] at H
        by_cases c4 : x13_1 < (l0.length : Int)
        · rw [if_pos c4] at H
          have c4b0 : decide (x13_1 < (l0.length : Int)) = true := decide_eq_true c4
          clear c4
          by_cases c5 : 0 ≤ x13_1
          · rw [if_pos c5] at H
            have c5b0 : decide (0 ≤ x13_1) = true := decide_eq_true c5
            clear c5
            by_cases c6 : x13_1 < (l0.length : Int)
            · rw [if_pos c6] at H
              have c6b0 : decide (x13_1 < (l0.length : Int)) = true := decide_eq_true c6
              clear c6
              by_cases c7 : x13_1 < (l1.length : Int)
              · rw [if_pos c7] at H
                have c7b0 : decide (x13_1 < (l1.length : Int)) = true := decide_eq_true c7
                clear c7
                by_cases c8 : (rd l0 x13_1) = (rd l1 x13_1)
                · rw [if_pos c8] at H
                  have c8b0 : ((rd l0 x13_1) == (rd l1 x13_1)) = true := beq_iff_eq.mpr c8
                  have c8b1 : ((rd l0 x13_1) != (rd l1 x13_1)) = false := bne_eq_false_iff_eq.mpr c8
                  clear c8
                  have H' := Aside0.mk H
                  clear H
                  have p170 : 0 ≤ (x13_1 : Int) := of_decide_eq_true (by first | (with_reducible assumption) | assumption)
                  have q170 : x13_1 < (l0.length : Int) := of_decide_eq_true (by first | (with_reducible assumption) | assumption)
                  obtain ⟨ad170, e170, hx170_0⟩ := Kd.at_int HR0.out x13_1 p170 q170
                  cases e170
                  replace p170 := eq_true p170
                  replace q170 := eq_true q170
                  have p171 : 0 ≤ (x13_1 : Int) := of_decide_eq_true (by first | (with_reducible assumption) | assumption)
                  have q171 : x13_1 < (l1.length : Int) := of_decide_eq_true (by first | (with_reducible assumption) | assumption)
                  obtain ⟨ad171, e171, hx171_0⟩ := Kd.at_int HR1.out x13_1 p171 q171
                  cases e171
                  replace p171 := eq_true p171
                  replace q171 := eq_true q171
                  go_wp2
                  repeat (go_quiet (fail); try go_wp2)
                  go_roundg k1
                  case measure => have := HK1.out; omega
                  case rel => exact ⟨(wrap64 (x13_1 + 1)), (by first | rfl | (simp; done) | (simp [*]; done)), H', ⟨by have := HK1.out; omega⟩, by repeat (first | exact Drawn0.refl _ | apply Drawn0.step)⟩
                · rw [if_neg c8] at H
                  have c8b0 : ((rd l0 x13_1) == (rd l1 x13_1)) = false := beq_eq_false_iff_ne.mpr c8
                  have c8b1 : ((rd l0 x13_1) != (rd l1 x13_1)) = true := bne_iff_ne.mpr c8
                  obtain rfl := Option.some.inj H
                  have p170 : 0 ≤ (x13_1 : Int) := of_decide_eq_true (by first | (with_reducible assumption) | assumption)
                  have q170 : x13_1 < (l0.length : Int) := of_decide_eq_true (by first | (with_reducible assumption) | assumption)
                  obtain ⟨ad170, e170, hx170_0⟩ := Kd.at_int HR0.out x13_1 p170 q170
                  cases e170
                  replace p170 := eq_true p170
                  replace q170 := eq_true q170
                  have p171 : 0 ≤ (x13_1 : Int) := of_decide_eq_true (by first | (with_reducible assumption) | assumption)
                  have q171 : x13_1 < (l1.length : Int) := of_decide_eq_true (by first | (with_reducible assumption) | assumption)
                  obtain ⟨ad171, e171, hx171_0⟩ := Kd.at_int HR1.out x13_1 p171 q171
                  cases e171
                  replace p171 := eq_true p171
                  replace q171 := eq_true q171
                  go_wp2
                  repeat (go_quiet (fail); try go_wp2)
                  go_ret
                  exact ⟨by first | rfl | (simp; done) | (simp [*]; done), by repeat (first | exact Drawn0.refl _ | apply Drawn0.step)⟩
              · rw [if_neg c7] at H
                exact absurd H (by simp)
            · rw [if_neg c6] at H
              exact absurd H (by simp)
          · rw [if_neg c5] at H
            exact absurd H (by simp)
        · rw [if_neg c4] at H
          have c4b0 : decide (x13_1 < (l0.length : Int)) = false := decide_eq_false c4
          clear c4
          obtain rfl := Option.some.inj H
          go_wp2
          repeat (go_quiet (fail); try go_wp2)
          go_ret
          exact ⟨by first | rfl | (simp; done) | (simp [*]; done), by repeat (first | exact Drawn0.refl _ | apply Drawn0.step)⟩
  · rw [if_neg c3] at H
    have c3b0 : ((l0.length : Int) == (l1.length : Int)) = false := beq_eq_false_iff_ne.mpr c3
    have c3b1 : ((l0.length : Int) != (l1.length : Int)) = true := bne_iff_ne.mpr c3
    have c3b2 : (l0.length == l1.length) = false := by first | simpa using c3 | (simp at c3 ⊢; omega)
    obtain rfl := Option.some.inj H
    go_enter Try.func87, Try.ntmps87
    go_wp2
    repeat (go_quiet (fail); try go_wp2)
    go_ret
    exact ⟨by first | rfl | (simp; done) | (simp [*]; done), by repeat (first | exact Drawn0.refl _ | apply Drawn0.step)⟩

/-! ### deadfallref15_wall: function 89 -/
def deadfallref15_wall.f (a0 : Int) : Option (Bool) := if a0 = 9 then (some true) else (if a0 = 12 then (some true) else (some (a0 == 13)))
set_option maxHeartbeats 8000000 in
set_option maxRecDepth 100000 in
theorem deadfallref15_wall.calls (a0 : Int) (r : Bool) (w : World) (h : deadfallref15_wall.f a0 = some r) :
    Calls Try.prog 89 #[.int .i64 a0] w fun e w' => e = .returned (.bool r) ∧ Drawn0 w w' := by
  have H : (if a0 = 9 then (some true) else (if a0 = 12 then (some true) else (some (a0 == 13)))) = some r := h
  clear h
  by_cases c2 : a0 = 9
  · rw [if_pos c2] at H
    have c2b0 : (a0 == 9) = true := beq_iff_eq.mpr c2
    have c2b1 : (a0 != 9) = false := bne_eq_false_iff_eq.mpr c2
    clear c2
    obtain rfl := Option.some.inj H
    go_enter Try.func89, Try.ntmps89
    go_wp2
    go_ret
    exact ⟨by first | rfl | (simp; done) | (simp [*]; done), by repeat (first | exact Drawn0.refl _ | apply Drawn0.step)⟩
  · rw [if_neg c2] at H
    have c2b0 : (a0 == 9) = false := beq_eq_false_iff_ne.mpr c2
    have c2b1 : (a0 != 9) = true := bne_iff_ne.mpr c2
    by_cases c3 : a0 = 12
    · rw [if_pos c3] at H
      have c3b0 : (a0 == 12) = true := beq_iff_eq.mpr c3
      have c3b1 : (a0 != 12) = false := bne_eq_false_iff_eq.mpr c3
      clear c3
      obtain rfl := Option.some.inj H
      go_enter Try.func89, Try.ntmps89
      go_wp2
      go_ret
      exact ⟨by first | rfl | (simp; done) | (simp [*]; done), by repeat (first | exact Drawn0.refl _ | apply Drawn0.step)⟩
    · rw [if_neg c3] at H
      have c3b0 : (a0 == 12) = false := beq_eq_false_iff_ne.mpr c3
      have c3b1 : (a0 != 12) = true := bne_iff_ne.mpr c3
      obtain rfl := Option.some.inj H
      go_enter Try.func89, Try.ntmps89
      go_wp2
      go_ret
      exact ⟨by first | rfl | (simp; done) | (simp [*]; done), by repeat (first | exact Drawn0.refl _ | apply Drawn0.step)⟩

/-! ### deadfallref15_loop: function 115 -/
def deadfallref15_loop.f (a0 : Int) : Option (Bool) := if a0 = 6 then (some true) else (if a0 = 7 then (some true) else (some (a0 == 8)))
set_option maxHeartbeats 8000000 in
set_option maxRecDepth 100000 in
theorem deadfallref15_loop.calls (a0 : Int) (r : Bool) (w : World) (h : deadfallref15_loop.f a0 = some r) :
    Calls Try.prog 115 #[.int .i64 a0] w fun e w' => e = .returned (.bool r) ∧ Drawn0 w w' := by
  have H : (if a0 = 6 then (some true) else (if a0 = 7 then (some true) else (some (a0 == 8)))) = some r := h
  clear h
  by_cases c2 : a0 = 6
  · rw [if_pos c2] at H
    have c2b0 : (a0 == 6) = true := beq_iff_eq.mpr c2
    have c2b1 : (a0 != 6) = false := bne_eq_false_iff_eq.mpr c2
    clear c2
    obtain rfl := Option.some.inj H
    go_enter Try.func115, Try.ntmps115
    go_wp2
    go_ret
    exact ⟨by first | rfl | (simp; done) | (simp [*]; done), by repeat (first | exact Drawn0.refl _ | apply Drawn0.step)⟩
  · rw [if_neg c2] at H
    have c2b0 : (a0 == 6) = false := beq_eq_false_iff_ne.mpr c2
    have c2b1 : (a0 != 6) = true := bne_iff_ne.mpr c2
    by_cases c3 : a0 = 7
    · rw [if_pos c3] at H
      have c3b0 : (a0 == 7) = true := beq_iff_eq.mpr c3
      have c3b1 : (a0 != 7) = false := bne_eq_false_iff_eq.mpr c3
      clear c3
      obtain rfl := Option.some.inj H
      go_enter Try.func115, Try.ntmps115
      go_wp2
      go_ret
      exact ⟨by first | rfl | (simp; done) | (simp [*]; done), by repeat (first | exact Drawn0.refl _ | apply Drawn0.step)⟩
    · rw [if_neg c3] at H
      have c3b0 : (a0 == 7) = false := beq_eq_false_iff_ne.mpr c3
      have c3b1 : (a0 != 7) = true := bne_iff_ne.mpr c3
      obtain rfl := Option.some.inj H
      go_enter Try.func115, Try.ntmps115
      go_wp2
      go_ret
      exact ⟨by first | rfl | (simp; done) | (simp [*]; done), by repeat (first | exact Drawn0.refl _ | apply Drawn0.step)⟩

end Go.Proofs.Ytkepmbkghmkodaa.Q
