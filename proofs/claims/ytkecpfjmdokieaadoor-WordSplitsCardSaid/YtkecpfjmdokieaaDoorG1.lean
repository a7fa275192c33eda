/- texts of this claim, one behind the other: P8 WordWt WordQuote WordSplit BuilderW SeqMore WordAlive WordText WordRef -/
import Derived.Test.YtkecpfjmdokieaaDoorG0
import Derived.Test.YtkecpfjmdokieaaDoorShelf
import Derived.Lib.Replace
import Derived.Lib.SplitLaws
import Derived.Test.YtkecpfjmdokieaaDoorWNEv
import Derived.Test.YtkecpfjmdokieaaDoorWMore
import Derived.Lib.SliceRun
import Derived.Lib.Builder
import Derived.Lib.AppendStr
import Derived.Lib.UnsafeStr
import Derived.Laws.Externs
import Derived.Lib.IndexLaws
import Derived.Lib.IndexBytes
-- printed by a program of this session (wip/pp): a Lean function and a proof for each Go function
namespace Go.Proofs.YtkecpfjmdokieaaDoor.P
open Go.RowKit Go.Proofs.YtkecpfjmdokieaaDoorW.PrintWords Go.Proofs.YtkecpfjmdokieaaDoorW.PrintLast Go.Proofs.YtkecpfjmdokieaaDoorW.PrintMore
attribute [local go_sem] max2_int min2_int max_two min_two max_three min_three max_four min_four   -- for this text's walks alone
set_option linter.unusedVariables false
set_option linter.unusedSimpArgs false

/-! ### deadfallref03_Split: function 21 -/
mutual
def deadfallref03_Split.j0 : Nat → List (S33) → Bool → Option (Int)
  | 0, _, _ => none
  | k + 1, x0, x19 => if x19 = true then (some (-1)) else (deadfallref03_Split.l0 k x0 0)
def deadfallref03_Split.l0 : Nat → List (S33) → Int → Option (Int)
  | 0, _, _ => none
  | k + 1, x0, x3 => if 0 < (x0.length : Int) then (if x3 < (((rd_T33 x0 0).f2).size : Int) then (if 0 ≤ x3 then (if (bt ((rd_T33 x0 0).f2) x3) = 61 then (if x3 ≤ (((rd_T33 x0 0).f2).size : Int) then ((deadfallref02_Name.f (((rd_T33 x0 0).f2).extract 0 (x3 : Int).toNat)).bind fun t168 => (if t168 = true then (some x3) else (some (-1)))) else (none)) else (deadfallref03_Split.l0 k x0 (wrap64 (x3 + 1)))) else (none)) else (some (-1))) else (none)
end
def deadfallref03_Split.f (k : Nat) (l0 : List (S33)) : Option (Int) := if (l0.length : Int) = 0 then (deadfallref03_Split.j0 k l0 true) else (if 0 < (l0.length : Int) then (if ((rd_T33 l0 0).f0) = 1 then (deadfallref03_Split.j0 k l0 ((rd_T33 l0 0).f1)) else (deadfallref03_Split.j0 k l0 true)) else (none))
theorem deadfallref03_Split.mono_l : ∀ k, (∀ y0 y1, LeO (deadfallref03_Split.j0 k y0 y1) (deadfallref03_Split.j0 (k + 1) y0 y1)) ∧ (∀ y0 y1, LeO (deadfallref03_Split.l0 k y0 y1) (deadfallref03_Split.l0 (k + 1) y0 y1))
  | 0 => ⟨fun _ _ r h => by simp [deadfallref03_Split.j0] at h, fun _ _ r h => by simp [deadfallref03_Split.l0] at h⟩
  | k + 1 => by
    obtain ⟨ih0, ih1⟩ := deadfallref03_Split.mono_l k
    refine ⟨?_, ?_⟩
    · intro y0 y1
      unfold deadfallref03_Split.j0
      repeat' first
      | (with_reducible exact ih0 _ _)
      | (with_reducible exact ih1 _ _)
      | (with_reducible exact LeO.refl _)
      | (with_reducible exact LeO.none _)
      | (with_reducible refine LeO.ite ?_ ?_)
      | (with_reducible refine LeO.bind ?_ (fun _ => ?_))
      | exact ih0 _ _
      | exact ih1 _ _
      | exact LeO.none _
      | refine LeO.ite ?_ ?_
      | refine LeO.bind ?_ (fun _ => ?_)
    · intro y0 y1
      unfold deadfallref03_Split.l0
      repeat' first
      | (with_reducible exact ih0 _ _)
      | (with_reducible exact ih1 _ _)
      | (with_reducible exact LeO.refl _)
      | (with_reducible exact LeO.none _)
      | (with_reducible refine LeO.ite ?_ ?_)
      | (with_reducible refine LeO.bind ?_ (fun _ => ?_))
      | exact ih0 _ _
      | exact ih1 _ _
      | exact LeO.none _
      | refine LeO.ite ?_ ?_
      | refine LeO.bind ?_ (fun _ => ?_)
theorem deadfallref03_Split.mono : ∀ a0 k, LeO (deadfallref03_Split.f k a0) (deadfallref03_Split.f (k + 1) a0) := by
  intro a0 k
  obtain ⟨ih0, ih1⟩ := deadfallref03_Split.mono_l k
  unfold deadfallref03_Split.f
  repeat' first
      | (with_reducible exact ih0 _ _)
      | (with_reducible exact ih1 _ _)
      | (with_reducible exact LeO.refl _)
      | (with_reducible exact LeO.none _)
      | (with_reducible refine LeO.ite ?_ ?_)
      | (with_reducible refine LeO.bind ?_ (fun _ => ?_))
      | exact ih0 _ _
      | exact ih1 _ _
      | exact LeO.none _
      | refine LeO.ite ?_ ?_
      | refine LeO.bind ?_ (fun _ => ?_)
set_option maxHeartbeats 8000000 in
set_option maxRecDepth 100000 in
theorem deadfallref03_Split.calls (k : Nat) (A0 : Option Addr) (c0 : Nat) (l0 : List (S33)) (r : Int) (w : World) (hr0 : Kd.C k33 w A0 l0.length l0) (hc0 : l0.length ≤ c0) (h : deadfallref03_Split.f k l0 = some r) :
    Calls Tryd.prog 21 #[.slice A0 l0.length c0] w fun e w' => e = .returned (.int .i64 r) ∧ Below w.heap.size w w' := by
  have HR0 := Aside0.mk hr0
  have HC0 := Aside0.mk hc0
  clear hr0 hc0
  have HB := Aside0.mk (Below.refl w.heap.size w)
  have H : (if (l0.length : Int) = 0 then (deadfallref03_Split.j0 k l0 true) else (if 0 < (l0.length : Int) then (if ((rd_T33 l0 0).f0) = 1 then (deadfallref03_Split.j0 k l0 ((rd_T33 l0 0).f1)) else (deadfallref03_Split.j0 k l0 true)) else (none))) = some r := h
  clear h
  have HC2 := Aside0.mk H
  clear H
  go_enter Tryd.func21, Tryd.ntmps21
  go_upto_region 1 with (fail)
  go_cut [19] (fun v19 wc => ∃ (kq : Nat) (x19_1 : Bool), v19 = .bool x19_1 ∧ Aside0 (deadfallref03_Split.j0 kq l0 x19_1 = some r) ∧ Aside0 (kq ≤ k) ∧ Aside0 (Below w.heap.size w wc))
  case first =>
    have H := HC2.out
    clear HC2
    by_cases c3 : (l0.length : Int) = 0
    · rw [if_pos c3] at H
      have c3b0 : ((l0.length : Int) == 0) = true := beq_iff_eq.mpr c3
      have c3b1 : ((l0.length : Int) != 0) = false := bne_eq_false_iff_eq.mpr c3
      clear c3
      (first | rw [c3b0] | (simp only [i64_w, i32_w]; rw [c3b0]) | skip)
      have H' := Aside0.mk H
      clear H
      go_wp2
      go_meet
      case rel => exact ⟨_, (true), (by first | rfl | (simp; done) | (simp [*]; done)), H', ⟨by first | omega | exact Nat.le_refl _⟩, ⟨by repeat (first | (with_reducible first | exact HB.out | apply below_alloc | apply pw_below_drewN | apply below_drew1) | exact HB.out)⟩⟩
    · rw [if_neg c3] at H
      have c3b0 : ((l0.length : Int) == 0) = false := beq_eq_false_iff_ne.mpr c3
      have c3b1 : ((l0.length : Int) != 0) = true := bne_iff_ne.mpr c3
      have c3b2 : ¬ (l0 = []) := fun h_ => c3 (by rw [h_]; rfl)
      (first | rw [c3b0] | (simp only [i64_w, i32_w]; rw [c3b0]) | skip)
      by_cases c4 : 0 < (l0.length : Int)
      · rw [if_pos c4] at H
        have c4b0 : decide (0 < (l0.length : Int)) = true := decide_eq_true c4
        have c4b1 : decide (0 < l0.length) = true := decide_eq_true (by omega)
        clear c4
        by_cases c5 : ((rd_T33 l0 0).f0) = 1
        · rw [if_pos c5] at H
          have c5b0 : (((rd_T33 l0 0).f0) == 1) = true := beq_iff_eq.mpr c5
          have c5b1 : (((rd_T33 l0 0).f0) != 1) = false := bne_eq_false_iff_eq.mpr c5
          clear c5
          have H' := Aside0.mk H
          clear H
          have p163 : 0 ≤ (0 : Int) := (by omega)
          have q163 : 0 < (l0.length : Int) := of_decide_eq_true (by first | (with_reducible assumption) | assumption)
          obtain ⟨ad163, A163_4, c163_4, e163, hx163_0, hx163_1, hx163_2, hx163_3, hx163_4, hl163_4, hi163_4⟩ := at_T33 HR0.out 0 p163 q163
          cases e163
          have qi163 : (0 < l0.length) = True := eq_true (by omega)
          (try rw [show ((0 : Int)).toNat = 0 from rfl] at hx163_0)
          (try rw [show 0 * 5 = 0 from rfl] at hx163_0)
          (try rw [Addr.add_zero'] at hx163_0)
          (try rw [show ((0 : Int)).toNat = 0 from rfl] at hx163_1)
          (try rw [show 0 * 5 = 0 from rfl] at hx163_1)
          (try rw [Addr.add_zero'] at hx163_1)
          (try rw [show ((0 : Int)).toNat = 0 from rfl] at hx163_2)
          (try rw [show 0 * 5 = 0 from rfl] at hx163_2)
          (try rw [Addr.add_zero'] at hx163_2)
          (try rw [show ((0 : Int)).toNat = 0 from rfl] at hx163_3)
          (try rw [show 0 * 5 = 0 from rfl] at hx163_3)
          (try rw [Addr.add_zero'] at hx163_3)
          (try rw [show ((0 : Int)).toNat = 0 from rfl] at hx163_4)
          (try rw [show 0 * 5 = 0 from rfl] at hx163_4)
          (try rw [Addr.add_zero'] at hx163_4)
          replace hx163_0 := (HB.out.cell (World.block_lt_of_cell? w _ hx163_0)).trans hx163_0
          replace hx163_1 := (HB.out.cell (World.block_lt_of_cell? w _ hx163_1)).trans hx163_1
          replace hx163_2 := (HB.out.cell (World.block_lt_of_cell? w _ hx163_2)).trans hx163_2
          replace hx163_3 := (HB.out.cell (World.block_lt_of_cell? w _ hx163_3)).trans hx163_3
          replace hx163_4 := (HB.out.cell (World.block_lt_of_cell? w _ hx163_4)).trans hx163_4
          have HR163_4 := Aside0.mk hi163_4
          have HC163_4 := Aside0.mk hl163_4
          clear hi163_4 hl163_4
          replace p163 := eq_true p163
          replace q163 := eq_true q163
          have p164 : 0 ≤ (0 : Int) := (by omega)
          have q164 : 0 < (l0.length : Int) := of_decide_eq_true (by first | (with_reducible assumption) | assumption)
          obtain ⟨ad164, A164_4, c164_4, e164, hx164_0, hx164_1, hx164_2, hx164_3, hx164_4, hl164_4, hi164_4⟩ := at_T33 HR0.out 0 p164 q164
          obtain rfl : ad163 = ad164 := (by injection e164)
          have qi164 : (0 < l0.length) = True := eq_true (by omega)
          (try rw [show ((0 : Int)).toNat = 0 from rfl] at hx164_0)
          (try rw [show 0 * 5 = 0 from rfl] at hx164_0)
          (try rw [Addr.add_zero'] at hx164_0)
          (try rw [show ((0 : Int)).toNat = 0 from rfl] at hx164_1)
          (try rw [show 0 * 5 = 0 from rfl] at hx164_1)
          (try rw [Addr.add_zero'] at hx164_1)
          (try rw [show ((0 : Int)).toNat = 0 from rfl] at hx164_2)
          (try rw [show 0 * 5 = 0 from rfl] at hx164_2)
          (try rw [Addr.add_zero'] at hx164_2)
          (try rw [show ((0 : Int)).toNat = 0 from rfl] at hx164_3)
          (try rw [show 0 * 5 = 0 from rfl] at hx164_3)
          (try rw [Addr.add_zero'] at hx164_3)
          (try rw [show ((0 : Int)).toNat = 0 from rfl] at hx164_4)
          (try rw [show 0 * 5 = 0 from rfl] at hx164_4)
          (try rw [Addr.add_zero'] at hx164_4)
          replace hx164_0 := (HB.out.cell (World.block_lt_of_cell? w _ hx164_0)).trans hx164_0
          replace hx164_1 := (HB.out.cell (World.block_lt_of_cell? w _ hx164_1)).trans hx164_1
          replace hx164_2 := (HB.out.cell (World.block_lt_of_cell? w _ hx164_2)).trans hx164_2
          replace hx164_3 := (HB.out.cell (World.block_lt_of_cell? w _ hx164_3)).trans hx164_3
          replace hx164_4 := (HB.out.cell (World.block_lt_of_cell? w _ hx164_4)).trans hx164_4
          have HR164_4 := Aside0.mk hi164_4
          have HC164_4 := Aside0.mk hl164_4
          clear hi164_4 hl164_4
          replace p164 := eq_true p164
          replace q164 := eq_true q164
          have ea_ := Option.some.inj (hx163_4.symm.trans hx164_4)
          injection ea_ with ea_ en_ ec_
          subst ea_
          subst ec_
          clear en_
          go_wp2
          go_meet
          case rel => exact ⟨_, ((rd_T33 l0 0).f1), (by first | rfl | (simp; done) | (simp [*]; done)), H', ⟨by first | omega | exact Nat.le_refl _⟩, ⟨by repeat (first | (with_reducible first | exact HB.out | apply below_alloc | apply pw_below_drewN | apply below_drew1) | exact HB.out)⟩⟩
        · rw [if_neg c5] at H
          have c5b0 : (((rd_T33 l0 0).f0) == 1) = false := beq_eq_false_iff_ne.mpr c5
          have c5b1 : (((rd_T33 l0 0).f0) != 1) = true := bne_iff_ne.mpr c5
          have H' := Aside0.mk H
          clear H
          have p163 : 0 ≤ (0 : Int) := (by omega)
          have q163 : 0 < (l0.length : Int) := of_decide_eq_true (by first | (with_reducible assumption) | assumption)
          obtain ⟨ad163, A163_4, c163_4, e163, hx163_0, hx163_1, hx163_2, hx163_3, hx163_4, hl163_4, hi163_4⟩ := at_T33 HR0.out 0 p163 q163
          cases e163
          have qi163 : (0 < l0.length) = True := eq_true (by omega)
          (try rw [show ((0 : Int)).toNat = 0 from rfl] at hx163_0)
          (try rw [show 0 * 5 = 0 from rfl] at hx163_0)
          (try rw [Addr.add_zero'] at hx163_0)
          (try rw [show ((0 : Int)).toNat = 0 from rfl] at hx163_1)
          (try rw [show 0 * 5 = 0 from rfl] at hx163_1)
          (try rw [Addr.add_zero'] at hx163_1)
          (try rw [show ((0 : Int)).toNat = 0 from rfl] at hx163_2)
          (try rw [show 0 * 5 = 0 from rfl] at hx163_2)
          (try rw [Addr.add_zero'] at hx163_2)
          (try rw [show ((0 : Int)).toNat = 0 from rfl] at hx163_3)
          (try rw [show 0 * 5 = 0 from rfl] at hx163_3)
          (try rw [Addr.add_zero'] at hx163_3)
          (try rw [show ((0 : Int)).toNat = 0 from rfl] at hx163_4)
          (try rw [show 0 * 5 = 0 from rfl] at hx163_4)
          (try rw [Addr.add_zero'] at hx163_4)
          replace hx163_0 := (HB.out.cell (World.block_lt_of_cell? w _ hx163_0)).trans hx163_0
          replace hx163_1 := (HB.out.cell (World.block_lt_of_cell? w _ hx163_1)).trans hx163_1
          replace hx163_2 := (HB.out.cell (World.block_lt_of_cell? w _ hx163_2)).trans hx163_2
          replace hx163_3 := (HB.out.cell (World.block_lt_of_cell? w _ hx163_3)).trans hx163_3
          replace hx163_4 := (HB.out.cell (World.block_lt_of_cell? w _ hx163_4)).trans hx163_4
          have HR163_4 := Aside0.mk hi163_4
          have HC163_4 := Aside0.mk hl163_4
          clear hi163_4 hl163_4
          replace p163 := eq_true p163
          replace q163 := eq_true q163
          go_wp2
          go_meet
          case rel => exact ⟨_, (true), (by first | rfl | (simp; done) | (simp [*]; done)), H', ⟨by first | omega | exact Nat.le_refl _⟩, ⟨by repeat (first | (with_reducible first | exact HB.out | apply below_alloc | apply pw_below_drewN | apply below_drew1) | exact HB.out)⟩⟩
      · rw [if_neg c4] at H
        exact absurd H (by simp)
  case rest =>
    clear HC2
    try clear c1
    try clear p1
    try clear q1
    try clear hx1
    try clear qi1
    try clear c2
    try clear p2
    try clear c3
    try clear c3b0
    try clear c3b1
    try clear c3b2
    try clear c4
    try clear c4b0
    try clear c4b1
    try clear c5
    try clear c5b0
    try clear c5b1
    try clear hx163_0
    try clear hx163_1
    try clear hx163_2
    try clear hx163_3
    try clear hx163_4
    try clear hx164_0
    try clear hx164_1
    try clear hx164_2
    try clear hx164_3
    try clear hx164_4
    try clear p163
    try clear p164
    try clear q163
    try clear q164
    obtain ⟨kq, x19_1, rfl, HA, HJ1, HB⟩ := hcut
    cases kq with
    | zero => exact absurd HA.out (by simp [deadfallref03_Split.j0])
    | succ kj1 =>
      have H := HA.out
      clear HA
      simp only [deadfallref03_Split.j0] at H
      by_cases c6 : x19_1 = true
      · subst c6
        have H1 : (some (-1)) = some r := by rw [if_pos rfl] at H; exact H
        clear H
        have H := H1
        clear H1
        obtain rfl := Option.some.inj H
        go_wp2
        go_ret
        exact ⟨by first | rfl | (simp [errW_none, errW_some] <;> rfl) | (simp [*, errW_none, errW_some] <;> rfl), by repeat (first | (with_reducible first | exact HB.out | apply below_alloc | apply pw_below_drewN | apply below_drew1) | exact HB.out)⟩
      · replace c6 := Bool.eq_false_iff.mpr c6
        subst c6
        have H1 : (deadfallref03_Split.l0 kj1 l0 0) = some r := by rw [if_neg (show ¬ (false = true) by decide)] at H; exact H
        clear H
        have H := H1
        clear H1
        have H' := Aside0.mk H
        clear H
        go_wp2
        go_loopg [3] kj1 (fun kq v3 w' => ∃ (x3_2 : Int), v3 = .int .i64 x3_2 ∧ Aside0 (deadfallref03_Split.l0 kq l0 x3_2 = some r) ∧ Aside0 (kq ≤ kj1) ∧ Aside0 (Below w.heap.size w w'))
        case atStart => exact ⟨(0), (by first | rfl | (simp; done) | (simp [*]; done)), H', ⟨Nat.le_refl _⟩, ⟨by repeat (first | (with_reducible first | exact HB.out | apply below_alloc | apply pw_below_drewN | apply below_drew1) | exact HB.out)⟩⟩
        case round =>
          clear H'
          try clear c1
          try clear p1
          try clear q1
          try clear hx1
          try clear qi1
          try clear c2
          try clear p2
          try clear c3
          try clear c3b0
          try clear c3b1
          try clear c3b2
          try clear c4
          try clear c4b0
          try clear c4b1
          try clear c5
          try clear c5b0
          try clear c5b1
          try clear c6
          try clear hx163_0
          try clear hx163_1
          try clear hx163_2
          try clear hx163_3
          try clear hx163_4
          try clear hx164_0
          try clear hx164_1
          try clear hx164_2
          try clear hx164_3
          try clear hx164_4
          try clear p1
          try clear p163
          try clear p164
          try clear p2
          try clear q1
          try clear q163
          try clear q164
          obtain ⟨x3_2, rfl, HA, HK2, HB⟩ := hrel
          cases gk with
          | zero => exact absurd HA.out (by simp [deadfallref03_Split.l0])
          | succ k2 =>
            have H := HA.out
            clear HA
            simp only [deadfallref03_Split.l0] at H
            by_cases c7 : 0 < (l0.length : Int)
            · rw [if_pos c7] at H
              have c7b0 : decide (0 < (l0.length : Int)) = true := decide_eq_true c7
              have c7b1 : decide (0 < l0.length) = true := decide_eq_true (by omega)
              clear c7
              by_cases c8 : x3_2 < (((rd_T33 l0 0).f2).size : Int)
              · rw [if_pos c8] at H
                have c8b0 : decide (x3_2 < (((rd_T33 l0 0).f2).size : Int)) = true := decide_eq_true c8
                clear c8
                by_cases c9 : 0 ≤ x3_2
                · rw [if_pos c9] at H
                  have c9b0 : decide (0 ≤ x3_2) = true := decide_eq_true c9
                  clear c9
                  by_cases c11 : (bt ((rd_T33 l0 0).f2) x3_2) = 61
                  · rw [if_pos c11] at H
                    have c11b0 : ((bt ((rd_T33 l0 0).f2) x3_2) == 61) = true := beq_iff_eq.mpr c11
                    have c11b1 : ((bt ((rd_T33 l0 0).f2) x3_2) != 61) = false := bne_eq_false_iff_eq.mpr c11
                    clear c11
                    have c12b0 := eq_true (of_decide_eq_true (by first | (with_reducible assumption) | assumption) : 0 ≤ x3_2)
                    by_cases c13 : x3_2 ≤ (((rd_T33 l0 0).f2).size : Int)
                    · rw [if_pos c13] at H
                      have c13b0 := eq_true c13
                      have c13b1 : decide (x3_2 ≤ (((rd_T33 l0 0).f2).size : Int)) = true := decide_eq_true c13
                      clear c13
                      replace H := Option.bind_eq_some_iff.mp H
                      obtain ⟨t168, A140, H⟩ := H
                      replace H : (if t168 = true then (some x3_2) else (some (-1))) = some r := H
                      have A14 := Aside0.mk A140
                      clear A140
                      by_cases c15 : t168 = true
                      · subst c15
                        have H1 : (some x3_2) = some r := by rw [if_pos rfl] at H; exact H
                        clear H
                        have H := H1
                        clear H1
                        obtain rfl := Option.some.inj H
                        have p165 : 0 ≤ (0 : Int) := (by omega)
                        have q165 : 0 < (l0.length : Int) := of_decide_eq_true (by first | (with_reducible assumption) | assumption)
                        obtain ⟨ad165, A165_4, c165_4, e165, hx165_0, hx165_1, hx165_2, hx165_3, hx165_4, hl165_4, hi165_4⟩ := at_T33 HR0.out 0 p165 q165
                        cases e165
                        have qi165 : (0 < l0.length) = True := eq_true (by omega)
                        (try rw [show ((0 : Int)).toNat = 0 from rfl] at hx165_0)
                        (try rw [show 0 * 5 = 0 from rfl] at hx165_0)
                        (try rw [Addr.add_zero'] at hx165_0)
                        (try rw [show ((0 : Int)).toNat = 0 from rfl] at hx165_1)
                        (try rw [show 0 * 5 = 0 from rfl] at hx165_1)
                        (try rw [Addr.add_zero'] at hx165_1)
                        (try rw [show ((0 : Int)).toNat = 0 from rfl] at hx165_2)
                        (try rw [show 0 * 5 = 0 from rfl] at hx165_2)
                        (try rw [Addr.add_zero'] at hx165_2)
                        (try rw [show ((0 : Int)).toNat = 0 from rfl] at hx165_3)
                        (try rw [show 0 * 5 = 0 from rfl] at hx165_3)
                        (try rw [Addr.add_zero'] at hx165_3)
                        (try rw [show ((0 : Int)).toNat = 0 from rfl] at hx165_4)
                        (try rw [show 0 * 5 = 0 from rfl] at hx165_4)
                        (try rw [Addr.add_zero'] at hx165_4)
                        replace hx165_0 := (HB.out.cell (World.block_lt_of_cell? w _ hx165_0)).trans hx165_0
                        replace hx165_1 := (HB.out.cell (World.block_lt_of_cell? w _ hx165_1)).trans hx165_1
                        replace hx165_2 := (HB.out.cell (World.block_lt_of_cell? w _ hx165_2)).trans hx165_2
                        replace hx165_3 := (HB.out.cell (World.block_lt_of_cell? w _ hx165_3)).trans hx165_3
                        replace hx165_4 := (HB.out.cell (World.block_lt_of_cell? w _ hx165_4)).trans hx165_4
                        have HR165_4 := Aside0.mk hi165_4
                        have HC165_4 := Aside0.mk hl165_4
                        clear hi165_4 hl165_4
                        replace p165 := eq_true p165
                        replace q165 := eq_true q165
                        have p166 : 0 ≤ (0 : Int) := (by omega)
                        have q166 : 0 < (l0.length : Int) := of_decide_eq_true (by first | (with_reducible assumption) | assumption)
                        obtain ⟨ad166, A166_4, c166_4, e166, hx166_0, hx166_1, hx166_2, hx166_3, hx166_4, hl166_4, hi166_4⟩ := at_T33 HR0.out 0 p166 q166
                        obtain rfl : ad165 = ad166 := (by injection e166)
                        have qi166 : (0 < l0.length) = True := eq_true (by omega)
                        (try rw [show ((0 : Int)).toNat = 0 from rfl] at hx166_0)
                        (try rw [show 0 * 5 = 0 from rfl] at hx166_0)
                        (try rw [Addr.add_zero'] at hx166_0)
                        (try rw [show ((0 : Int)).toNat = 0 from rfl] at hx166_1)
                        (try rw [show 0 * 5 = 0 from rfl] at hx166_1)
                        (try rw [Addr.add_zero'] at hx166_1)
                        (try rw [show ((0 : Int)).toNat = 0 from rfl] at hx166_2)
                        (try rw [show 0 * 5 = 0 from rfl] at hx166_2)
                        (try rw [Addr.add_zero'] at hx166_2)
                        (try rw [show ((0 : Int)).toNat = 0 from rfl] at hx166_3)
                        (try rw [show 0 * 5 = 0 from rfl] at hx166_3)
                        (try rw [Addr.add_zero'] at hx166_3)
                        (try rw [show ((0 : Int)).toNat = 0 from rfl] at hx166_4)
                        (try rw [show 0 * 5 = 0 from rfl] at hx166_4)
                        (try rw [Addr.add_zero'] at hx166_4)
                        replace hx166_0 := (HB.out.cell (World.block_lt_of_cell? w _ hx166_0)).trans hx166_0
                        replace hx166_1 := (HB.out.cell (World.block_lt_of_cell? w _ hx166_1)).trans hx166_1
                        replace hx166_2 := (HB.out.cell (World.block_lt_of_cell? w _ hx166_2)).trans hx166_2
                        replace hx166_3 := (HB.out.cell (World.block_lt_of_cell? w _ hx166_3)).trans hx166_3
                        replace hx166_4 := (HB.out.cell (World.block_lt_of_cell? w _ hx166_4)).trans hx166_4
                        have HR166_4 := Aside0.mk hi166_4
                        have HC166_4 := Aside0.mk hl166_4
                        clear hi166_4 hl166_4
                        replace p166 := eq_true p166
                        replace q166 := eq_true q166
                        have ea_ := Option.some.inj (hx165_4.symm.trans hx166_4)
                        injection ea_ with ea_ en_ ec_
                        subst ea_
                        subst ec_
                        clear en_
                        have p10 : 0 ≤ (x3_2 : Int) := of_decide_eq_true (by first | (with_reducible assumption) | assumption)
                        have q10 : x3_2 < (((rd_T33 l0 0).f2).size : Int) := of_decide_eq_true (by first | (with_reducible assumption) | assumption)
                        have hx10 := bt_at ((rd_T33 l0 0).f2) x3_2
                        replace p10 := eq_true p10
                        replace q10 := eq_true q10
                        have p167 : 0 ≤ (0 : Int) := (by omega)
                        have q167 : 0 < (l0.length : Int) := of_decide_eq_true (by first | (with_reducible assumption) | assumption)
                        obtain ⟨ad167, A167_4, c167_4, e167, hx167_0, hx167_1, hx167_2, hx167_3, hx167_4, hl167_4, hi167_4⟩ := at_T33 HR0.out 0 p167 q167
                        obtain rfl : ad165 = ad167 := (by injection e167)
                        have qi167 : (0 < l0.length) = True := eq_true (by omega)
                        (try rw [show ((0 : Int)).toNat = 0 from rfl] at hx167_0)
                        (try rw [show 0 * 5 = 0 from rfl] at hx167_0)
                        (try rw [Addr.add_zero'] at hx167_0)
                        (try rw [show ((0 : Int)).toNat = 0 from rfl] at hx167_1)
                        (try rw [show 0 * 5 = 0 from rfl] at hx167_1)
                        (try rw [Addr.add_zero'] at hx167_1)
                        (try rw [show ((0 : Int)).toNat = 0 from rfl] at hx167_2)
                        (try rw [show 0 * 5 = 0 from rfl] at hx167_2)
                        (try rw [Addr.add_zero'] at hx167_2)
                        (try rw [show ((0 : Int)).toNat = 0 from rfl] at hx167_3)
                        (try rw [show 0 * 5 = 0 from rfl] at hx167_3)
                        (try rw [Addr.add_zero'] at hx167_3)
                        (try rw [show ((0 : Int)).toNat = 0 from rfl] at hx167_4)
                        (try rw [show 0 * 5 = 0 from rfl] at hx167_4)
                        (try rw [Addr.add_zero'] at hx167_4)
                        replace hx167_0 := (HB.out.cell (World.block_lt_of_cell? w _ hx167_0)).trans hx167_0
                        replace hx167_1 := (HB.out.cell (World.block_lt_of_cell? w _ hx167_1)).trans hx167_1
                        replace hx167_2 := (HB.out.cell (World.block_lt_of_cell? w _ hx167_2)).trans hx167_2
                        replace hx167_3 := (HB.out.cell (World.block_lt_of_cell? w _ hx167_3)).trans hx167_3
                        replace hx167_4 := (HB.out.cell (World.block_lt_of_cell? w _ hx167_4)).trans hx167_4
                        have HR167_4 := Aside0.mk hi167_4
                        have HC167_4 := Aside0.mk hl167_4
                        clear hi167_4 hl167_4
                        replace p167 := eq_true p167
                        replace q167 := eq_true q167
                        have ea_ := Option.some.inj (hx165_4.symm.trans hx167_4)
                        injection ea_ with ea_ en_ ec_
                        subst ea_
                        subst ec_
                        clear en_
                        go_wp2_with (first | ((with_reducible refine gate_callee (f := 34) rfl ?_); refine goesL_ (some 42) rfl rfl Tryd.func34 (by kernel_rfl) rfl #[.string (((rd_T33 l0 0).f2).extract 0 (x3_2 : Int).toNat)] rfl (by (try simp only [List.map_toArray, List.map_cons, List.map_nil]); first | done | rfl | (simp only [List.length_drop, List.length_take]; rfl)) ?_; (with_reducible refine (deadfallref02_Name.calls (((rd_T33 l0 0).f2).extract 0 (x3_2 : Int).toNat) true _ A14.out).mono ?_); rintro e w16 ⟨rfl, hb⟩; refine ⟨_, rfl, ?_⟩; have n0_ := Aside0.mk (below_step (by repeat (first | (with_reducible first | exact HB.out | apply below_alloc | apply pw_below_drewN | apply below_drew1) | exact HB.out)) hb); clear HB; have HB := n0_; clear n0_; (try clear hb); (try clear hb2); (try clear hk); (try clear hi)))
                        go_ret
                        exact ⟨by first | rfl | (simp [errW_none, errW_some] <;> rfl) | (simp [*, errW_none, errW_some] <;> rfl), by repeat (first | (with_reducible first | exact HB.out | apply below_alloc | apply pw_below_drewN | apply below_drew1) | exact HB.out)⟩
                      · replace c15 := Bool.eq_false_iff.mpr c15
                        subst c15
                        have H1 : (some (-1)) = some r := by rw [if_neg (show ¬ (false = true) by decide)] at H; exact H
                        clear H
                        have H := H1
                        clear H1
                        obtain rfl := Option.some.inj H
                        have p165 : 0 ≤ (0 : Int) := (by omega)
                        have q165 : 0 < (l0.length : Int) := of_decide_eq_true (by first | (with_reducible assumption) | assumption)
                        obtain ⟨ad165, A165_4, c165_4, e165, hx165_0, hx165_1, hx165_2, hx165_3, hx165_4, hl165_4, hi165_4⟩ := at_T33 HR0.out 0 p165 q165
                        cases e165
                        have qi165 : (0 < l0.length) = True := eq_true (by omega)
                        (try rw [show ((0 : Int)).toNat = 0 from rfl] at hx165_0)
                        (try rw [show 0 * 5 = 0 from rfl] at hx165_0)
                        (try rw [Addr.add_zero'] at hx165_0)
                        (try rw [show ((0 : Int)).toNat = 0 from rfl] at hx165_1)
                        (try rw [show 0 * 5 = 0 from rfl] at hx165_1)
                        (try rw [Addr.add_zero'] at hx165_1)
                        (try rw [show ((0 : Int)).toNat = 0 from rfl] at hx165_2)
                        (try rw [show 0 * 5 = 0 from rfl] at hx165_2)
                        (try rw [Addr.add_zero'] at hx165_2)
                        (try rw [show ((0 : Int)).toNat = 0 from rfl] at hx165_3)
                        (try rw [show 0 * 5 = 0 from rfl] at hx165_3)
                        (try rw [Addr.add_zero'] at hx165_3)
                        (try rw [show ((0 : Int)).toNat = 0 from rfl] at hx165_4)
                        (try rw [show 0 * 5 = 0 from rfl] at hx165_4)
                        (try rw [Addr.add_zero'] at hx165_4)
                        replace hx165_0 := (HB.out.cell (World.block_lt_of_cell? w _ hx165_0)).trans hx165_0
                        replace hx165_1 := (HB.out.cell (World.block_lt_of_cell? w _ hx165_1)).trans hx165_1
                        replace hx165_2 := (HB.out.cell (World.block_lt_of_cell? w _ hx165_2)).trans hx165_2
                        replace hx165_3 := (HB.out.cell (World.block_lt_of_cell? w _ hx165_3)).trans hx165_3
                        replace hx165_4 := (HB.out.cell (World.block_lt_of_cell? w _ hx165_4)).trans hx165_4
                        have HR165_4 := Aside0.mk hi165_4
                        have HC165_4 := Aside0.mk hl165_4
                        clear hi165_4 hl165_4
                        replace p165 := eq_true p165
                        replace q165 := eq_true q165
                        have p166 : 0 ≤ (0 : Int) := (by omega)
                        have q166 : 0 < (l0.length : Int) := of_decide_eq_true (by first | (with_reducible assumption) | assumption)
                        obtain ⟨ad166, A166_4, c166_4, e166, hx166_0, hx166_1, hx166_2, hx166_3, hx166_4, hl166_4, hi166_4⟩ := at_T33 HR0.out 0 p166 q166
                        obtain rfl : ad165 = ad166 := (by injection e166)
                        have qi166 : (0 < l0.length) = True := eq_true (by omega)
                        (try rw [show ((0 : Int)).toNat = 0 from rfl] at hx166_0)
                        (try rw [show 0 * 5 = 0 from rfl] at hx166_0)
                        (try rw [Addr.add_zero'] at hx166_0)
                        (try rw [show ((0 : Int)).toNat = 0 from rfl] at hx166_1)
                        (try rw [show 0 * 5 = 0 from rfl] at hx166_1)
                        (try rw [Addr.add_zero'] at hx166_1)
                        (try rw [show ((0 : Int)).toNat = 0 from rfl] at hx166_2)
                        (try rw [show 0 * 5 = 0 from rfl] at hx166_2)
                        (try rw [Addr.add_zero'] at hx166_2)
                        (try rw [show ((0 : Int)).toNat = 0 from rfl] at hx166_3)
                        (try rw [show 0 * 5 = 0 from rfl] at hx166_3)
                        (try rw [Addr.add_zero'] at hx166_3)
                        (try rw [show ((0 : Int)).toNat = 0 from rfl] at hx166_4)
                        (try rw [show 0 * 5 = 0 from rfl] at hx166_4)
                        (try rw [Addr.add_zero'] at hx166_4)
                        replace hx166_0 := (HB.out.cell (World.block_lt_of_cell? w _ hx166_0)).trans hx166_0
                        replace hx166_1 := (HB.out.cell (World.block_lt_of_cell? w _ hx166_1)).trans hx166_1
                        replace hx166_2 := (HB.out.cell (World.block_lt_of_cell? w _ hx166_2)).trans hx166_2
                        replace hx166_3 := (HB.out.cell (World.block_lt_of_cell? w _ hx166_3)).trans hx166_3
                        replace hx166_4 := (HB.out.cell (World.block_lt_of_cell? w _ hx166_4)).trans hx166_4
                        have HR166_4 := Aside0.mk hi166_4
                        have HC166_4 := Aside0.mk hl166_4
                        clear hi166_4 hl166_4
                        replace p166 := eq_true p166
                        replace q166 := eq_true q166
                        have ea_ := Option.some.inj (hx165_4.symm.trans hx166_4)
                        injection ea_ with ea_ en_ ec_
                        subst ea_
                        subst ec_
                        clear en_
                        have p10 : 0 ≤ (x3_2 : Int) := of_decide_eq_true (by first | (with_reducible assumption) | assumption)
                        have q10 : x3_2 < (((rd_T33 l0 0).f2).size : Int) := of_decide_eq_true (by first | (with_reducible assumption) | assumption)
                        have hx10 := bt_at ((rd_T33 l0 0).f2) x3_2
                        replace p10 := eq_true p10
                        replace q10 := eq_true q10
                        have p167 : 0 ≤ (0 : Int) := (by omega)
                        have q167 : 0 < (l0.length : Int) := of_decide_eq_true (by first | (with_reducible assumption) | assumption)
                        obtain ⟨ad167, A167_4, c167_4, e167, hx167_0, hx167_1, hx167_2, hx167_3, hx167_4, hl167_4, hi167_4⟩ := at_T33 HR0.out 0 p167 q167
                        obtain rfl : ad165 = ad167 := (by injection e167)
                        have qi167 : (0 < l0.length) = True := eq_true (by omega)
                        (try rw [show ((0 : Int)).toNat = 0 from rfl] at hx167_0)
                        (try rw [show 0 * 5 = 0 from rfl] at hx167_0)
                        (try rw [Addr.add_zero'] at hx167_0)
                        (try rw [show ((0 : Int)).toNat = 0 from rfl] at hx167_1)
                        (try rw [show 0 * 5 = 0 from rfl] at hx167_1)
                        (try rw [Addr.add_zero'] at hx167_1)
                        (try rw [show ((0 : Int)).toNat = 0 from rfl] at hx167_2)
                        (try rw [show 0 * 5 = 0 from rfl] at hx167_2)
                        (try rw [Addr.add_zero'] at hx167_2)
                        (try rw [show ((0 : Int)).toNat = 0 from rfl] at hx167_3)
                        (try rw [show 0 * 5 = 0 from rfl] at hx167_3)
                        (try rw [Addr.add_zero'] at hx167_3)
                        (try rw [show ((0 : Int)).toNat = 0 from rfl] at hx167_4)
                        (try rw [show 0 * 5 = 0 from rfl] at hx167_4)
                        (try rw [Addr.add_zero'] at hx167_4)
                        replace hx167_0 := (HB.out.cell (World.block_lt_of_cell? w _ hx167_0)).trans hx167_0
                        replace hx167_1 := (HB.out.cell (World.block_lt_of_cell? w _ hx167_1)).trans hx167_1
                        replace hx167_2 := (HB.out.cell (World.block_lt_of_cell? w _ hx167_2)).trans hx167_2
                        replace hx167_3 := (HB.out.cell (World.block_lt_of_cell? w _ hx167_3)).trans hx167_3
                        replace hx167_4 := (HB.out.cell (World.block_lt_of_cell? w _ hx167_4)).trans hx167_4
                        have HR167_4 := Aside0.mk hi167_4
                        have HC167_4 := Aside0.mk hl167_4
                        clear hi167_4 hl167_4
                        replace p167 := eq_true p167
                        replace q167 := eq_true q167
                        have ea_ := Option.some.inj (hx165_4.symm.trans hx167_4)
                        injection ea_ with ea_ en_ ec_
                        subst ea_
                        subst ec_
                        clear en_
                        go_wp2_with (first | ((with_reducible refine gate_callee (f := 34) rfl ?_); refine goesL_ (some 42) rfl rfl Tryd.func34 (by kernel_rfl) rfl #[.string (((rd_T33 l0 0).f2).extract 0 (x3_2 : Int).toNat)] rfl (by (try simp only [List.map_toArray, List.map_cons, List.map_nil]); first | done | rfl | (simp only [List.length_drop, List.length_take]; rfl)) ?_; (with_reducible refine (deadfallref02_Name.calls (((rd_T33 l0 0).f2).extract 0 (x3_2 : Int).toNat) false _ A14.out).mono ?_); rintro e w17 ⟨rfl, hb⟩; refine ⟨_, rfl, ?_⟩; have n0_ := Aside0.mk (below_step (by repeat (first | (with_reducible first | exact HB.out | apply below_alloc | apply pw_below_drewN | apply below_drew1) | exact HB.out)) hb); clear HB; have HB := n0_; clear n0_; (try clear hb); (try clear hb2); (try clear hk); (try clear hi)))
                        go_ret
                        exact ⟨by first | rfl | (simp [errW_none, errW_some] <;> rfl) | (simp [*, errW_none, errW_some] <;> rfl), by repeat (first | (with_reducible first | exact HB.out | apply below_alloc | apply pw_below_drewN | apply below_drew1) | exact HB.out)⟩
                    · rw [if_neg c13] at H
                      exact absurd H (by simp)
                  · rw [if_neg c11] at H
                    have c11b0 : ((bt ((rd_T33 l0 0).f2) x3_2) == 61) = false := beq_eq_false_iff_ne.mpr c11
                    have c11b1 : ((bt ((rd_T33 l0 0).f2) x3_2) != 61) = true := bne_iff_ne.mpr c11
                    have H' := Aside0.mk H
                    clear H
                    have p165 : 0 ≤ (0 : Int) := (by omega)
                    have q165 : 0 < (l0.length : Int) := of_decide_eq_true (by first | (with_reducible assumption) | assumption)
                    obtain ⟨ad165, A165_4, c165_4, e165, hx165_0, hx165_1, hx165_2, hx165_3, hx165_4, hl165_4, hi165_4⟩ := at_T33 HR0.out 0 p165 q165
                    cases e165
                    have qi165 : (0 < l0.length) = True := eq_true (by omega)
                    (try rw [show ((0 : Int)).toNat = 0 from rfl] at hx165_0)
                    (try rw [show 0 * 5 = 0 from rfl] at hx165_0)
                    (try rw [Addr.add_zero'] at hx165_0)
                    (try rw [show ((0 : Int)).toNat = 0 from rfl] at hx165_1)
                    (try rw [show 0 * 5 = 0 from rfl] at hx165_1)
                    (try rw [Addr.add_zero'] at hx165_1)
                    (try rw [show ((0 : Int)).toNat = 0 from rfl] at hx165_2)
                    (try rw [show 0 * 5 = 0 from rfl] at hx165_2)
                    (try rw [Addr.add_zero'] at hx165_2)
                    (try rw [show ((0 : Int)).toNat = 0 from rfl] at hx165_3)
                    (try rw [show 0 * 5 = 0 from rfl] at hx165_3)
                    (try rw [Addr.add_zero'] at hx165_3)
                    (try rw [show ((0 : Int)).toNat = 0 from rfl] at hx165_4)
                    (try rw [show 0 * 5 = 0 from rfl] at hx165_4)
                    (try rw [Addr.add_zero'] at hx165_4)
                    replace hx165_0 := (HB.out.cell (World.block_lt_of_cell? w _ hx165_0)).trans hx165_0
                    replace hx165_1 := (HB.out.cell (World.block_lt_of_cell? w _ hx165_1)).trans hx165_1
                    replace hx165_2 := (HB.out.cell (World.block_lt_of_cell? w _ hx165_2)).trans hx165_2
                    replace hx165_3 := (HB.out.cell (World.block_lt_of_cell? w _ hx165_3)).trans hx165_3
                    replace hx165_4 := (HB.out.cell (World.block_lt_of_cell? w _ hx165_4)).trans hx165_4
                    have HR165_4 := Aside0.mk hi165_4
                    have HC165_4 := Aside0.mk hl165_4
                    clear hi165_4 hl165_4
                    replace p165 := eq_true p165
                    replace q165 := eq_true q165
                    have p166 : 0 ≤ (0 : Int) := (by omega)
                    have q166 : 0 < (l0.length : Int) := of_decide_eq_true (by first | (with_reducible assumption) | assumption)
                    obtain ⟨ad166, A166_4, c166_4, e166, hx166_0, hx166_1, hx166_2, hx166_3, hx166_4, hl166_4, hi166_4⟩ := at_T33 HR0.out 0 p166 q166
                    obtain rfl : ad165 = ad166 := (by injection e166)
                    have qi166 : (0 < l0.length) = True := eq_true (by omega)
                    (try rw [show ((0 : Int)).toNat = 0 from rfl] at hx166_0)
                    (try rw [show 0 * 5 = 0 from rfl] at hx166_0)
                    (try rw [Addr.add_zero'] at hx166_0)
                    (try rw [show ((0 : Int)).toNat = 0 from rfl] at hx166_1)
                    (try rw [show 0 * 5 = 0 from rfl] at hx166_1)
                    (try rw [Addr.add_zero'] at hx166_1)
                    (try rw [show ((0 : Int)).toNat = 0 from rfl] at hx166_2)
                    (try rw [show 0 * 5 = 0 from rfl] at hx166_2)
                    (try rw [Addr.add_zero'] at hx166_2)
                    (try rw [show ((0 : Int)).toNat = 0 from rfl] at hx166_3)
                    (try rw [show 0 * 5 = 0 from rfl] at hx166_3)
                    (try rw [Addr.add_zero'] at hx166_3)
                    (try rw [show ((0 : Int)).toNat = 0 from rfl] at hx166_4)
                    (try rw [show 0 * 5 = 0 from rfl] at hx166_4)
                    (try rw [Addr.add_zero'] at hx166_4)
                    replace hx166_0 := (HB.out.cell (World.block_lt_of_cell? w _ hx166_0)).trans hx166_0
                    replace hx166_1 := (HB.out.cell (World.block_lt_of_cell? w _ hx166_1)).trans hx166_1
                    replace hx166_2 := (HB.out.cell (World.block_lt_of_cell? w _ hx166_2)).trans hx166_2
                    replace hx166_3 := (HB.out.cell (World.block_lt_of_cell? w _ hx166_3)).trans hx166_3
                    replace hx166_4 := (HB.out.cell (World.block_lt_of_cell? w _ hx166_4)).trans hx166_4
                    have HR166_4 := Aside0.mk hi166_4
                    have HC166_4 := Aside0.mk hl166_4
                    clear hi166_4 hl166_4
                    replace p166 := eq_true p166
                    replace q166 := eq_true q166
                    have ea_ := Option.some.inj (hx165_4.symm.trans hx166_4)
                    injection ea_ with ea_ en_ ec_
                    subst ea_
                    subst ec_
                    clear en_
                    have p10 : 0 ≤ (x3_2 : Int) := of_decide_eq_true (by first | (with_reducible assumption) | assumption)
                    have q10 : x3_2 < (((rd_T33 l0 0).f2).size : Int) := of_decide_eq_true (by first | (with_reducible assumption) | assumption)
                    have hx10 := bt_at ((rd_T33 l0 0).f2) x3_2
                    replace p10 := eq_true p10
                    replace q10 := eq_true q10
                    go_wp2
                    go_roundg k2
                    case measure => have := HJ1.out; have := HK2.out; omega
                    case rel => exact ⟨(wrap64 (x3_2 + 1)), (by first | rfl | (simp; done) | (simp [*]; done)), H', ⟨by have := HJ1.out; have := HK2.out; omega⟩, ⟨by repeat (first | (with_reducible first | exact HB.out | apply below_alloc | apply pw_below_drewN | apply below_drew1) | exact HB.out)⟩⟩
                · rw [if_neg c9] at H
                  exact absurd H (by simp)
              · rw [if_neg c8] at H
                have c8b0 : decide (x3_2 < (((rd_T33 l0 0).f2).size : Int)) = false := decide_eq_false c8
                clear c8
                obtain rfl := Option.some.inj H
                have p165 : 0 ≤ (0 : Int) := (by omega)
                have q165 : 0 < (l0.length : Int) := of_decide_eq_true (by first | (with_reducible assumption) | assumption)
                obtain ⟨ad165, A165_4, c165_4, e165, hx165_0, hx165_1, hx165_2, hx165_3, hx165_4, hl165_4, hi165_4⟩ := at_T33 HR0.out 0 p165 q165
                cases e165
                have qi165 : (0 < l0.length) = True := eq_true (by omega)
                (try rw [show ((0 : Int)).toNat = 0 from rfl] at hx165_0)
                (try rw [show 0 * 5 = 0 from rfl] at hx165_0)
                (try rw [Addr.add_zero'] at hx165_0)
                (try rw [show ((0 : Int)).toNat = 0 from rfl] at hx165_1)
                (try rw [show 0 * 5 = 0 from rfl] at hx165_1)
                (try rw [Addr.add_zero'] at hx165_1)
                (try rw [show ((0 : Int)).toNat = 0 from rfl] at hx165_2)
                (try rw [show 0 * 5 = 0 from rfl] at hx165_2)
                (try rw [Addr.add_zero'] at hx165_2)
                (try rw [show ((0 : Int)).toNat = 0 from rfl] at hx165_3)
                (try rw [show 0 * 5 = 0 from rfl] at hx165_3)
                (try rw [Addr.add_zero'] at hx165_3)
                (try rw [show ((0 : Int)).toNat = 0 from rfl] at hx165_4)
                (try rw [show 0 * 5 = 0 from rfl] at hx165_4)
                (try rw [Addr.add_zero'] at hx165_4)
                replace hx165_0 := (HB.out.cell (World.block_lt_of_cell? w _ hx165_0)).trans hx165_0
                replace hx165_1 := (HB.out.cell (World.block_lt_of_cell? w _ hx165_1)).trans hx165_1
                replace hx165_2 := (HB.out.cell (World.block_lt_of_cell? w _ hx165_2)).trans hx165_2
                replace hx165_3 := (HB.out.cell (World.block_lt_of_cell? w _ hx165_3)).trans hx165_3
                replace hx165_4 := (HB.out.cell (World.block_lt_of_cell? w _ hx165_4)).trans hx165_4
                have HR165_4 := Aside0.mk hi165_4
                have HC165_4 := Aside0.mk hl165_4
                clear hi165_4 hl165_4
                replace p165 := eq_true p165
                replace q165 := eq_true q165
                go_wp2
                go_ret
                exact ⟨by first | rfl | (simp [errW_none, errW_some] <;> rfl) | (simp [*, errW_none, errW_some] <;> rfl), by repeat (first | (with_reducible first | exact HB.out | apply below_alloc | apply pw_below_drewN | apply below_drew1) | exact HB.out)⟩
            · rw [if_neg c7] at H
              exact absurd H (by simp)

/-! ### deadfallref03_Rest: function 22 -/
def deadfallref03_Rest.f (l0 : List (S33)) (a1 : Int) : Option ((List (S33))) := (some (([] : List (S33)) : List (S33))).bind fun y169 => (if 0 < (l0.length : Int) then (if (((rd_T33 l0 0).f2).size : Int) > (wrap64 (a1 + 1)) then (if 0 ≤ (wrap64 (a1 + 1)) then (if (wrap64 (a1 + 1)) ≤ (((rd_T33 l0 0).f2).size : Int) then (if y169.length < 1954687338268 then ((some (y169 ++ [(⟨(rd_T33 l0 0).f0, (rd_T33 l0 0).f1, ((rd_T33 l0 0).f2).extract ((wrap64 (a1 + 1)) : Int).toNat ((rd_T33 l0 0).f2).size, (rd_T33 l0 0).f3, (rd_T33 l0 0).f4⟩ : S33)] : List (S33))).bind fun y175 => (if 1 ≤ (l0.length : Int) then ((some (l0.drop 1 : List (S33))).bind fun y178 => (if y175.length + y178.length < 1954687338268 then (some (y175 ++ y178)) else (none))) else (none))) else (none)) else (none)) else (none)) else (if 1 ≤ (l0.length : Int) then ((some (l0.drop 1 : List (S33))).bind fun y186 => (if y169.length + y186.length < 1954687338268 then (some (y169 ++ y186)) else (none))) else (none))) else (none))
set_option maxHeartbeats 8000000 in
set_option maxRecDepth 100000 in
theorem deadfallref03_Rest.calls (P0_ : Nat → Prop) (A0 : Option Addr) (c0 : Nat) (l0 : List (S33)) (a1 : Int) (r : List (S33)) (w : World) (hs0 : Kd.V k33 33 w w.heap.size (fun k_ => P0_ k_) (.slice A0 l0.length c0) l0) (h : deadfallref03_Rest.f l0 a1 = some r) :
    Calls Tryd.prog 22 #[.slice A0 l0.length c0, .int .i64 a1] w fun e w' => ∃ v0_ : Value, e = .returned (v0_) ∧ Kd.N k33 33 w' w.heap.size (fun k_ => (P0_ k_ ∨ w.heap.size ≤ k_)) v0_ r ∧ Below w.heap.size w w' := by
  have hu33 := Tryd.underlying33
  have HO0 := Aside0.mk (show Kd.V k33 33 w w.heap.size (fun k_ => (P0_ k_ ∨ w.heap.size ≤ k_)) (.slice A0 l0.length c0) l0 from Kd.V_mono hs0 (fun k_ hk => .inl hk))
  have HB := Aside0.mk (Below.refl w.heap.size w)
  have H : ((some (([] : List (S33)) : List (S33))).bind fun y169 => (if 0 < (l0.length : Int) then (if (((rd_T33 l0 0).f2).size : Int) > (wrap64 (a1 + 1)) then (if 0 ≤ (wrap64 (a1 + 1)) then (if (wrap64 (a1 + 1)) ≤ (((rd_T33 l0 0).f2).size : Int) then (if y169.length < 1954687338268 then ((some (y169 ++ [(⟨(rd_T33 l0 0).f0, (rd_T33 l0 0).f1, ((rd_T33 l0 0).f2).extract ((wrap64 (a1 + 1)) : Int).toNat ((rd_T33 l0 0).f2).size, (rd_T33 l0 0).f3, (rd_T33 l0 0).f4⟩ : S33)] : List (S33))).bind fun y175 => (if 1 ≤ (l0.length : Int) then ((some (l0.drop 1 : List (S33))).bind fun y178 => (if y175.length + y178.length < 1954687338268 then (some (y175 ++ y178)) else (none))) else (none))) else (none)) else (none)) else (none)) else (if 1 ≤ (l0.length : Int) then ((some (l0.drop 1 : List (S33))).bind fun y186 => (if y169.length + y186.length < 1954687338268 then (some (y169 ++ y186)) else (none))) else (none))) else (none))) = some r := h
  clear h
  obtain ⟨y169, hy169⟩ : ∃ y_ : List (S33), y_ = (([] : List (S33))) := ⟨_, rfl⟩
  replace H : (if 0 < (l0.length : Int) then (if (((rd_T33 l0 0).f2).size : Int) > (wrap64 (a1 + 1)) then (if 0 ≤ (wrap64 (a1 + 1)) then (if (wrap64 (a1 + 1)) ≤ (((rd_T33 l0 0).f2).size : Int) then (if y169.length < 1954687338268 then ((some (y169 ++ [(⟨(rd_T33 l0 0).f0, (rd_T33 l0 0).f1, ((rd_T33 l0 0).f2).extract ((wrap64 (a1 + 1)) : Int).toNat ((rd_T33 l0 0).f2).size, (rd_T33 l0 0).f3, (rd_T33 l0 0).f4⟩ : S33)] : List (S33))).bind fun y175 => (if 1 ≤ (l0.length : Int) then ((some (l0.drop 1 : List (S33))).bind fun y178 => (if y175.length + y178.length < 1954687338268 then (some (y175 ++ y178)) else (none))) else (none))) else (none)) else (none)) else (none)) else (if 1 ≤ (l0.length : Int) then ((some (l0.drop 1 : List (S33))).bind fun y186 => (if y169.length + y186.length < 1954687338268 then (some (y169 ++ y186)) else (none))) else (none))) else (none)) = some r := by first | (rw [hy169]; with_reducible exact H) | (have H2_ := (Option.bind_some _ _).symm.trans H; rw [hy169]; with_reducible exact H2_) | (have H2_ := (Option.bind_some _ _).symm.trans H; with_reducible exact H2_) | with_reducible exact H | (rw [hy169]; exact H) | exact H
  have Ny169 := Aside0.mk hy169
  clear hy169
  by_cases c3 : 0 < (l0.length : Int)
  · rw [if_pos c3] at H
    have c3b0 : decide (0 < (l0.length : Int)) = true := decide_eq_true c3
    have c3b1 : decide (0 < l0.length) = true := decide_eq_true (by omega)
    clear c3
    by_cases c4 : (((rd_T33 l0 0).f2).size : Int) > (wrap64 (a1 + 1))
    · rw [if_pos c4] at H
      have c4b0 : decide ((wrap64 (a1 + 1)) < (((rd_T33 l0 0).f2).size : Int)) = true := decide_eq_true c4
      clear c4
      obtain ⟨ji5, hji5⟩ : ∃ j_ : Int, (wrap64 (a1 + 1)) = j_ := ⟨_, rfl⟩
      replace H : (if 0 ≤ (ji5) then (if (ji5) ≤ (((rd_T33 l0 0).f2).size : Int) then (if y169.length < 1954687338268 then ((some (y169 ++ [(⟨(rd_T33 l0 0).f0, (rd_T33 l0 0).f1, ((rd_T33 l0 0).f2).extract ((ji5) : Int).toNat ((rd_T33 l0 0).f2).size, (rd_T33 l0 0).f3, (rd_T33 l0 0).f4⟩ : S33)] : List (S33))).bind fun y175 => (if 1 ≤ (l0.length : Int) then ((some (l0.drop 1 : List (S33))).bind fun y178 => (if y175.length + y178.length < 1954687338268 then (some (y175 ++ y178)) else (none))) else (none))) else (none)) else (none)) else (none)) = some r := by first | (rw [hji5] at H; exact H) | (simp only [hji5] at H ⊢; exact H)
      (try rw [hji5] at c4b0)
      have hji5w : (IntKind.i64.wrap (a1 + 1)) = ji5 := (i64_w _).trans hji5
      by_cases c6 : 0 ≤ (ji5)
      · rw [if_pos c6] at H
        have c6b0 := eq_true c6
        have c6b1 : decide (0 ≤ (ji5)) = true := decide_eq_true c6
        clear c6
        by_cases c7 : (ji5) ≤ (((rd_T33 l0 0).f2).size : Int)
        · rw [if_pos c7] at H
          have c7b0 := eq_true c7
          have c7b1 : decide ((ji5) ≤ (((rd_T33 l0 0).f2).size : Int)) = true := decide_eq_true c7
          clear c7
          by_cases c8 : y169.length < 1954687338268
          · rw [if_pos c8] at H
            have LMc8 := Aside0.mk c8
            clear c8
            obtain ⟨y175, hy175⟩ : ∃ y_ : List (S33), y_ = (y169 ++ [(⟨(rd_T33 l0 0).f0, (rd_T33 l0 0).f1, ((rd_T33 l0 0).f2).extract ((ji5) : Int).toNat ((rd_T33 l0 0).f2).size, (rd_T33 l0 0).f3, (rd_T33 l0 0).f4⟩ : S33)]) := ⟨_, rfl⟩
            replace H : (if 1 ≤ (l0.length : Int) then ((some (l0.drop 1 : List (S33))).bind fun y178 => (if y175.length + y178.length < 1954687338268 then (some (y175 ++ y178)) else (none))) else (none)) = some r := by first | (rw [hy175]; with_reducible exact H) | (have H2_ := (Option.bind_some _ _).symm.trans H; rw [hy175]; with_reducible exact H2_) | (have H2_ := (Option.bind_some _ _).symm.trans H; with_reducible exact H2_) | with_reducible exact H | (rw [hy175]; exact H) | exact H
            have Ny175 := Aside0.mk hy175
            clear hy175
            by_cases c9 : 1 ≤ (l0.length : Int)
            · rw [if_pos c9] at H
              have c9b0 := eq_true c9
              have c9b1 : decide (1 ≤ (l0.length : Int)) = true := decide_eq_true c9
              clear c9
              obtain ⟨y178, hy178⟩ : ∃ y_ : List (S33), y_ = (l0.drop 1) := ⟨_, rfl⟩
              replace H : (if y175.length + y178.length < 1954687338268 then (some (y175 ++ y178)) else (none)) = some r := by first | (rw [hy178]; with_reducible exact H) | (have H2_ := (Option.bind_some _ _).symm.trans H; rw [hy178]; with_reducible exact H2_) | (have H2_ := (Option.bind_some _ _).symm.trans H; with_reducible exact H2_) | with_reducible exact H | (rw [hy178]; exact H) | exact H
              have Ny178 := Aside0.mk hy178
              clear hy178
              by_cases c10 : y175.length + y178.length < 1954687338268
              · rw [if_pos c10] at H
                have LMc10 := Aside0.mk c10
                clear c10
                obtain ⟨y183, hy183⟩ : ∃ y_ : List (S33), y_ = (y175 ++ y178) := ⟨_, rfl⟩
                replace H : (some y183) = some r := by first | (rw [hy183]; with_reducible exact H) | (have H2_ := (Option.bind_some _ _).symm.trans H; rw [hy183]; with_reducible exact H2_) | (have H2_ := (Option.bind_some _ _).symm.trans H; with_reducible exact H2_) | with_reducible exact H | (rw [hy183]; exact H) | exact H
                have Ny183 := Aside0.mk hy183
                clear hy183
                obtain rfl := Option.some.inj H
                go_enter Tryd.func22, Tryd.ntmps22
                go_wp2_with (first | ((with_reducible refine gate_dst (N := 7) rfl ?_); refine Kd.N_lit k33 _ 33 ?hg (N' := 7) ?hd (xs := ([] : List (S33))) (inner := []) (ok := (fun k_ => (P0_ k_ ∨ w.heap.size ≤ k_))) (okp := (fun k_ => (P0_ k_ ∨ w.heap.size ≤ k_))) ?hr ?hp (fun _ hk => hk) ((show ∀ k_, w.heap.size ≤ k_ → (fun k_ => (P0_ k_ ∨ w.heap.size ≤ k_)) k_ from fun k_ hk => (.inr (Nat.le_trans (below_size (by repeat (first | (with_reducible first | exact HB.out | apply below_alloc | apply pw_below_drewN | apply below_drew1) | exact HB.out))) hk))) _ (Nat.le_refl _)) (Below.refl _ _) (Nat.le_refl _) (by simp) ?_; (case hd => rfl); (case hg => rfl); (case hr => first | (go_simp; done) | (go_simp; rfl)); (case hp => exact (Reps.none _ _)); intro v170 w11 ho12 hb hg_ hnew_; clear hg_ hnew_; (first | rw [← Ny169.out] at ho12 | (simp only [Int.reduceToNat] at ho12; rw [← Ny169.out] at ho12)); have n0_ := Aside0.mk (Kd.V_elder' (by (with_reducible repeat (first | apply Kd.V_alloc | apply Kd.V_drewN | apply Kd.V_drew)); exact HO0.out) (Kd.N_base ho12) hb); have n1_ := Aside0.mk (Kd.N_lower ho12 (below_size (by repeat (first | (with_reducible first | exact HB.out | apply below_alloc | apply pw_below_drewN | apply below_drew1) | exact HB.out)))); have n2_ := Aside0.mk (below_step (by repeat (first | (with_reducible first | exact HB.out | apply below_alloc | apply pw_below_drewN | apply below_drew1) | exact HB.out)) hb); clear HO0; clear HB; have HO0 := n0_; have HO171 := n1_; have HB := n2_; clear n0_ n1_ n2_; clear hb ho12; have p172 : 0 ≤ (0 : Int) := (by omega); have q172 : 0 < (l0.length : Int) := of_decide_eq_true (by first | (with_reducible assumption) | assumption); obtain ⟨ad172, A172_4, c172_4, e172, hx172_0, hx172_1, hx172_2, hx172_3, hx172_4, hl172_4, hi172_4⟩ := at_T33 (Kd.V_reads' HO0.out).2.2 0 p172 q172; cases e172; obtain ⟨ce172, hce172, hMe172, hcc172⟩ := Kd.V_get HO0.out z33 0 p172 (by first | exact q172 | exact of_decide_eq_true (by first | (with_reducible assumption) | assumption) | (have e_ := (Kd.V_reads' HO0.out).1; omega)); obtain ⟨ua172_4, uc172_4, rfl, ul172_4, ge172_4⟩ := k33_openF hMe172; have hv172_4 := hcc172 4 _ rfl; rw [add_field _ _ 4 (by omega)] at hv172_4; replace hv172_4 := Option.some.inj (hv172_4.symm.trans hx172_4); injection hv172_4 with hva_ hvn_ hvc_; rw [hva_] at ge172_4; rw [hvc_] at ul172_4; have HL172_4 := Aside0.mk (show Kd.V k33 33 _ w.heap.size _ _ ((rd_T33 l0 0).f4) from Kd.V_mk ul172_4 ge172_4); clear hva_ hvn_ hvc_ ge172_4 ul172_4; clear hcc172 hce172; have qi172 : (0 < l0.length) = True := eq_true (by omega); (try rw [show ((0 : Int)).toNat = 0 from rfl] at hx172_0); (try rw [show 0 * 5 = 0 from rfl] at hx172_0); (try rw [Addr.add_zero'] at hx172_0); (try rw [show ((0 : Int)).toNat = 0 from rfl] at hx172_1); (try rw [show 0 * 5 = 0 from rfl] at hx172_1); (try rw [Addr.add_zero'] at hx172_1); (try rw [show ((0 : Int)).toNat = 0 from rfl] at hx172_2); (try rw [show 0 * 5 = 0 from rfl] at hx172_2); (try rw [Addr.add_zero'] at hx172_2); (try rw [show ((0 : Int)).toNat = 0 from rfl] at hx172_3); (try rw [show 0 * 5 = 0 from rfl] at hx172_3); (try rw [Addr.add_zero'] at hx172_3); (try rw [show ((0 : Int)).toNat = 0 from rfl] at hx172_4); (try rw [show 0 * 5 = 0 from rfl] at hx172_4); (try rw [Addr.add_zero'] at hx172_4); have HR172_4 := Aside0.mk hi172_4; have HC172_4 := Aside0.mk hl172_4; clear hi172_4 hl172_4; replace p172 := eq_true p172; replace q172 := eq_true q172; have p173 : 0 ≤ (0 : Int) := (by omega); have q173 : 0 < (l0.length : Int) := of_decide_eq_true (by first | (with_reducible assumption) | assumption); obtain ⟨ad173, A173_4, c173_4, e173, hx173_0, hx173_1, hx173_2, hx173_3, hx173_4, hl173_4, hi173_4⟩ := at_T33 (Kd.V_reads' HO0.out).2.2 0 p173 q173; obtain rfl : ad172 = ad173 := (by injection e173); obtain ⟨ce173, hce173, hMe173, hcc173⟩ := Kd.V_get HO0.out z33 0 p173 (by first | exact q173 | exact of_decide_eq_true (by first | (with_reducible assumption) | assumption) | (have e_ := (Kd.V_reads' HO0.out).1; omega)); obtain ⟨ua173_4, uc173_4, rfl, ul173_4, ge173_4⟩ := k33_openF hMe173; have hv173_4 := hcc173 4 _ rfl; rw [add_field _ _ 4 (by omega)] at hv173_4; replace hv173_4 := Option.some.inj (hv173_4.symm.trans hx173_4); injection hv173_4 with hva_ hvn_ hvc_; rw [hva_] at ge173_4; rw [hvc_] at ul173_4; have HL173_4 := Aside0.mk (show Kd.V k33 33 _ w.heap.size _ _ ((rd_T33 l0 0).f4) from Kd.V_mk ul173_4 ge173_4); clear hva_ hvn_ hvc_ ge173_4 ul173_4; clear hcc173 hce173; have qi173 : (0 < l0.length) = True := eq_true (by omega); (try rw [show ((0 : Int)).toNat = 0 from rfl] at hx173_0); (try rw [show 0 * 5 = 0 from rfl] at hx173_0); (try rw [Addr.add_zero'] at hx173_0); (try rw [show ((0 : Int)).toNat = 0 from rfl] at hx173_1); (try rw [show 0 * 5 = 0 from rfl] at hx173_1); (try rw [Addr.add_zero'] at hx173_1); (try rw [show ((0 : Int)).toNat = 0 from rfl] at hx173_2); (try rw [show 0 * 5 = 0 from rfl] at hx173_2); (try rw [Addr.add_zero'] at hx173_2); (try rw [show ((0 : Int)).toNat = 0 from rfl] at hx173_3); (try rw [show 0 * 5 = 0 from rfl] at hx173_3); (try rw [Addr.add_zero'] at hx173_3); (try rw [show ((0 : Int)).toNat = 0 from rfl] at hx173_4); (try rw [show 0 * 5 = 0 from rfl] at hx173_4); (try rw [Addr.add_zero'] at hx173_4); have HR173_4 := Aside0.mk hi173_4; have HC173_4 := Aside0.mk hl173_4; clear hi173_4 hl173_4; replace p173 := eq_true p173; replace q173 := eq_true q173; have ea_ := Option.some.inj (hx172_4.symm.trans hx173_4); injection ea_ with ea_ en_ ec_; subst ea_; subst ec_; clear en_) | ((with_reducible refine gate_dst (N := 6) rfl ?_); refine box_event ?hg (N := 6) ?hd (cs := #[.int .i64 0, .bool false, .string (⟨#[]⟩ : ByteArray), .string (⟨#[]⟩ : ByteArray), .slice none 0 0]) (t := 33) ?hr ?_; (case hd => rfl); (case hg => rfl); (case hr => first | (go_simp; done) | (go_simp; rfl)); intro gb174 hg w13 hbox hb; have n0_ := Aside0.mk (Kd.V_below (Kd.V_elderB (by (with_reducible repeat (first | apply Kd.V_alloc | apply Kd.V_drewN | apply Kd.V_drew)); exact HO0.out) gb174 (Nat.le_of_eq hg.symm)) hb); have n1_ := Aside0.mk (Kd.N_below (Kd.N_elderB (by (with_reducible repeat (first | apply Kd.N_alloc | apply Kd.N_drewN | apply Kd.N_drew)); exact HO171.out) gb174 (Nat.le_of_eq hg.symm)) hb); have n2_ := Aside0.mk (Kd.V_below (Kd.V_elderB (by (with_reducible repeat (first | apply Kd.V_alloc | apply Kd.V_drewN | apply Kd.V_drew)); exact HL172_4.out) gb174 (Nat.le_of_eq hg.symm)) hb); have n3_ := Aside0.mk (Kd.V_below (Kd.V_elderB (by (with_reducible repeat (first | apply Kd.V_alloc | apply Kd.V_drewN | apply Kd.V_drew)); exact HL173_4.out) gb174 (Nat.le_of_eq hg.symm)) hb); have n4_ := Aside0.mk (Kd.C_below (by repeat (first | (with_reducible exact HR172_4.out) | (with_reducible refine Kd.C_alloc ?_ _) | (with_reducible refine Kd.C_drewN ?_ _) | (with_reducible refine Kd.C_drew ?_) | exact HR172_4.out)) hb); have n5_ := Aside0.mk (Kd.C_below (by repeat (first | (with_reducible exact HR173_4.out) | (with_reducible refine Kd.C_alloc ?_ _) | (with_reducible refine Kd.C_drewN ?_ _) | (with_reducible refine Kd.C_drew ?_) | exact HR173_4.out)) hb); have n6_ := Aside0.mk (below_step (by repeat (first | (with_reducible first | exact HB.out | apply below_alloc | apply pw_below_drewN | apply below_drew1) | exact HB.out)) hb); have n7_ := Aside0.mk (hbox); have n8_ := Aside0.mk ((by rw [hg]; exact (below_size (by repeat (first | (with_reducible first | exact HB.out | apply below_alloc | apply pw_below_drewN | apply below_drew1) | exact HB.out))) : w.heap.size ≤ gb174)); have n9_ := Aside0.mk ((by rw [hg]; exact (below_size (by repeat (first | (with_reducible first | exact HB.out | apply below_alloc | apply pw_below_drewN | apply below_drew1) | exact HB.out))) : w.heap.size ≤ gb174)); clear HO0; clear HO171; clear HL172_4; clear HL173_4; clear HR172_4; clear HR173_4; clear HB; have HO0 := n0_; have HO171 := n1_; have HL172_4 := n2_; have HL173_4 := n3_; have HR172_4 := n4_; have HR173_4 := n5_; have HB := n6_; have BK174 := n7_; have GW174 := n8_; have GE174 := n9_; clear n0_ n1_ n2_ n3_ n4_ n5_ n6_ n7_ n8_ n9_; clear hb hbox hg; have hcz14_0 : w13.cell? ⟨gb174, 0, none⟩ = some (.int .i64 0) := (blk_cell BK174.out 0).trans rfl; have hcz14_1 : w13.cell? ⟨gb174, 1, none⟩ = some (.bool false) := (blk_cell BK174.out 1).trans rfl; have hcz14_2 : w13.cell? ⟨gb174, 2, none⟩ = some (.string (⟨#[]⟩ : ByteArray)) := (blk_cell BK174.out 2).trans rfl; have hcz14_3 : w13.cell? ⟨gb174, 3, none⟩ = some (.string (⟨#[]⟩ : ByteArray)) := (blk_cell BK174.out 3).trans rfl; have hcz14_4 : w13.cell? ⟨gb174, 4, none⟩ = some (.slice none 0 0) := (blk_cell BK174.out 4).trans rfl; have hfz14_0 := blk_frozen BK174.out 0; have hfz14_1 := blk_frozen BK174.out 1; have hfz14_2 := blk_frozen BK174.out 2; have hfz14_3 := blk_frozen BK174.out 3; have hfz14_4 := blk_frozen BK174.out 4) | ((with_reducible refine gate_store (t := 33) (p := 6) rfl ?_); refine store_event (t := 33) (p := 6) (v := ?vo_w15) (w1 := (((((w13.setCell ⟨gb174, 0, none⟩ (.int .i64 ((rd_T33 l0 0).f0))).setCell ⟨gb174, 1, none⟩ (.bool ((rd_T33 l0 0).f1))).setCell ⟨gb174, 2, none⟩ (.string ((rd_T33 l0 0).f2))).setCell ⟨gb174, 3, none⟩ (.string ((rd_T33 l0 0).f3))).setCell ⟨gb174, 4, none⟩ (.slice A172_4 ((rd_T33 l0 0).f4).length c172_4))) ?hg ?ho ?hn ?hr ?_; (case ho => rfl); (case hg => rfl); (case hn => rfl); (case hr => first | (go_simp; done) | (go_simp; rfl)); intro w15 hw; have n0_ : Aside0 (Kd.V k33 33 w15 w.heap.size (fun k_ => (P0_ k_ ∨ w.heap.size ≤ k_) ∧ some k_ ≠ (v170 : Value).ownBlock ∧ k_ ≠ gb174) (.slice (some ad172) l0.length c0) l0) := ⟨(by rw [hw]; exact (by (with_reducible repeat (first | apply Kd.V_alloc | apply Kd.V_drewN | apply Kd.V_drew)); exact Kd.V_mono (Kd.V_far (p := ⟨gb174, 4, none⟩) (Kd.V_far (p := ⟨gb174, 3, none⟩) (Kd.V_far (p := ⟨gb174, 2, none⟩) (Kd.V_far (p := ⟨gb174, 1, none⟩) (Kd.V_far (p := ⟨gb174, 0, none⟩) (Kd.V_mono HO0.out (fun k_ hk => (⟨hk, hk.2⟩ : _ ∧ k_ ≠ gb174))) (fun _ hk => hk.2) (.int .i64 ((rd_T33 l0 0).f0))) (fun _ hk => hk.2) (.bool ((rd_T33 l0 0).f1))) (fun _ hk => hk.2) (.string ((rd_T33 l0 0).f2))) (fun _ hk => hk.2) (.string ((rd_T33 l0 0).f3))) (fun _ hk => hk.2) (.slice A172_4 ((rd_T33 l0 0).f4).length c172_4)) (fun _ hk => ⟨hk.1.1.1, ⟨hk.1.1.2, hk.1.2⟩⟩)))⟩; have n1_ : Aside0 (Kd.N k33 33 w15 w.heap.size (fun k_ => (P0_ k_ ∨ w.heap.size ≤ k_) ∧ k_ ≠ gb174) v170 y169) := ⟨(by rw [hw]; exact (by (with_reducible repeat (first | apply Kd.N_alloc | apply Kd.N_drewN | apply Kd.N_drew)); exact Kd.N_mono (Kd.N_far (p := ⟨gb174, 4, none⟩) (Kd.N_far (p := ⟨gb174, 3, none⟩) (Kd.N_far (p := ⟨gb174, 2, none⟩) (Kd.N_far (p := ⟨gb174, 1, none⟩) (Kd.N_far (p := ⟨gb174, 0, none⟩) (Kd.N_mono HO171.out (fun k_ hk => (⟨hk, hk.2⟩ : _ ∧ k_ ≠ gb174))) (fun _ hk => hk.2) (.int .i64 ((rd_T33 l0 0).f0))) (fun _ hk => hk.2) (.bool ((rd_T33 l0 0).f1))) (fun _ hk => hk.2) (.string ((rd_T33 l0 0).f2))) (fun _ hk => hk.2) (.string ((rd_T33 l0 0).f3))) (fun _ hk => hk.2) (.slice A172_4 ((rd_T33 l0 0).f4).length c172_4)) (fun _ hk => ⟨hk.1.1, hk.1.2⟩)))⟩; have n2_ : Aside0 (Kd.V k33 33 w15 w.heap.size (fun k_ => (P0_ k_ ∨ w.heap.size ≤ k_) ∧ some k_ ≠ (v170 : Value).ownBlock ∧ k_ ≠ gb174) (.slice A172_4 ((rd_T33 l0 0).f4).length c172_4) ((rd_T33 l0 0).f4)) := ⟨(by rw [hw]; exact (by (with_reducible repeat (first | apply Kd.V_alloc | apply Kd.V_drewN | apply Kd.V_drew)); exact Kd.V_mono (Kd.V_far (p := ⟨gb174, 4, none⟩) (Kd.V_far (p := ⟨gb174, 3, none⟩) (Kd.V_far (p := ⟨gb174, 2, none⟩) (Kd.V_far (p := ⟨gb174, 1, none⟩) (Kd.V_far (p := ⟨gb174, 0, none⟩) (Kd.V_mono HL172_4.out (fun k_ hk => (⟨hk, hk.2⟩ : _ ∧ k_ ≠ gb174))) (fun _ hk => hk.2) (.int .i64 ((rd_T33 l0 0).f0))) (fun _ hk => hk.2) (.bool ((rd_T33 l0 0).f1))) (fun _ hk => hk.2) (.string ((rd_T33 l0 0).f2))) (fun _ hk => hk.2) (.string ((rd_T33 l0 0).f3))) (fun _ hk => hk.2) (.slice A172_4 ((rd_T33 l0 0).f4).length c172_4)) (fun _ hk => ⟨hk.1.1.1, ⟨hk.1.1.2, hk.1.2⟩⟩)))⟩; have n3_ : Aside0 (Kd.V k33 33 w15 w.heap.size (fun k_ => (P0_ k_ ∨ w.heap.size ≤ k_) ∧ some k_ ≠ (v170 : Value).ownBlock ∧ k_ ≠ gb174) (.slice A172_4 ((rd_T33 l0 0).f4).length c172_4) ((rd_T33 l0 0).f4)) := ⟨(by rw [hw]; exact (by (with_reducible repeat (first | apply Kd.V_alloc | apply Kd.V_drewN | apply Kd.V_drew)); exact Kd.V_mono (Kd.V_far (p := ⟨gb174, 4, none⟩) (Kd.V_far (p := ⟨gb174, 3, none⟩) (Kd.V_far (p := ⟨gb174, 2, none⟩) (Kd.V_far (p := ⟨gb174, 1, none⟩) (Kd.V_far (p := ⟨gb174, 0, none⟩) (Kd.V_mono HL173_4.out (fun k_ hk => (⟨hk, hk.2⟩ : _ ∧ k_ ≠ gb174))) (fun _ hk => hk.2) (.int .i64 ((rd_T33 l0 0).f0))) (fun _ hk => hk.2) (.bool ((rd_T33 l0 0).f1))) (fun _ hk => hk.2) (.string ((rd_T33 l0 0).f2))) (fun _ hk => hk.2) (.string ((rd_T33 l0 0).f3))) (fun _ hk => hk.2) (.slice A172_4 ((rd_T33 l0 0).f4).length c172_4)) (fun _ hk => ⟨hk.1.1.1, ⟨hk.1.1.2, hk.1.2⟩⟩)))⟩; have n4_ : Aside0 (w15.heap[gb174]? = some (.cells #[.int .i64 ((rd_T33 l0 0).f0), .bool ((rd_T33 l0 0).f1), .string ((rd_T33 l0 0).f2), .string ((rd_T33 l0 0).f3), .slice A172_4 ((rd_T33 l0 0).f4).length c172_4] 33 (0, 0))) := ⟨(by rw [hw]; exact (by (with_reducible repeat (first | refine blk_drewN ?_ _ | refine blk_drew ?_ | refine blk_alloc ?_ _)); refine blk_put (cs := #[.int .i64 ((rd_T33 l0 0).f0), .bool ((rd_T33 l0 0).f1), .string ((rd_T33 l0 0).f2), .string ((rd_T33 l0 0).f3), .slice none 0 0]) ?_ 4 _ rfl; (with_reducible repeat (first | refine blk_drewN ?_ _ | refine blk_drew ?_ | refine blk_alloc ?_ _)); refine blk_put (cs := #[.int .i64 ((rd_T33 l0 0).f0), .bool ((rd_T33 l0 0).f1), .string ((rd_T33 l0 0).f2), .string (⟨#[]⟩ : ByteArray), .slice none 0 0]) ?_ 3 _ rfl; (with_reducible repeat (first | refine blk_drewN ?_ _ | refine blk_drew ?_ | refine blk_alloc ?_ _)); refine blk_put (cs := #[.int .i64 ((rd_T33 l0 0).f0), .bool ((rd_T33 l0 0).f1), .string (⟨#[]⟩ : ByteArray), .string (⟨#[]⟩ : ByteArray), .slice none 0 0]) ?_ 2 _ rfl; (with_reducible repeat (first | refine blk_drewN ?_ _ | refine blk_drew ?_ | refine blk_alloc ?_ _)); refine blk_put (cs := #[.int .i64 ((rd_T33 l0 0).f0), .bool false, .string (⟨#[]⟩ : ByteArray), .string (⟨#[]⟩ : ByteArray), .slice none 0 0]) ?_ 1 _ rfl; (with_reducible repeat (first | refine blk_drewN ?_ _ | refine blk_drew ?_ | refine blk_alloc ?_ _)); refine blk_put (cs := #[.int .i64 0, .bool false, .string (⟨#[]⟩ : ByteArray), .string (⟨#[]⟩ : ByteArray), .slice none 0 0]) ?_ 0 _ rfl; (with_reducible repeat (first | refine blk_drewN ?_ _ | refine blk_drew ?_ | refine blk_alloc ?_ _)); exact BK174.out))⟩; have n5_ : Aside0 (Below w.heap.size w w15) := ⟨(by rw [hw]; exact (by repeat (first | (with_reducible first | exact HB.out | apply below_alloc | apply pw_below_drewN | apply below_drew1 | refine below_set ?_ GE174.out) | exact HB.out)))⟩; clear hw; clear HO0; clear HO171; clear HL172_4; clear HL173_4; clear BK174; clear HB; have HO0 := n0_; have HO171 := n1_; have HL172_4 := n2_; have HL173_4 := n3_; have BK174 := n4_; have HB := n5_; clear n0_ n1_ n2_ n3_ n4_ n5_; have hcz16_0 : w15.cell? ⟨gb174, 0, none⟩ = some (.int .i64 ((rd_T33 l0 0).f0)) := (blk_cell BK174.out 0).trans rfl; have hcz16_1 : w15.cell? ⟨gb174, 1, none⟩ = some (.bool ((rd_T33 l0 0).f1)) := (blk_cell BK174.out 1).trans rfl; have hcz16_2 : w15.cell? ⟨gb174, 2, none⟩ = some (.string ((rd_T33 l0 0).f2)) := (blk_cell BK174.out 2).trans rfl; have hcz16_3 : w15.cell? ⟨gb174, 3, none⟩ = some (.string ((rd_T33 l0 0).f3)) := (blk_cell BK174.out 3).trans rfl; have hcz16_4 : w15.cell? ⟨gb174, 4, none⟩ = some (.slice A172_4 ((rd_T33 l0 0).f4).length c172_4) := (blk_cell BK174.out 4).trans rfl; have hfz16_0 := blk_frozen BK174.out 0; have hfz16_1 := blk_frozen BK174.out 1; have hfz16_2 := blk_frozen BK174.out 2; have hfz16_3 := blk_frozen BK174.out 3; have hfz16_4 := blk_frozen BK174.out 4) | ((with_reducible refine gate_store (t := 9) (p := 24) rfl ?_); refine store_event (t := 9) (p := 24) (v := ?vo_w17) (w1 := (w15.setCell ⟨gb174, 2, none⟩ (.string (((rd_T33 l0 0).f2).extract ((ji5) : Int).toNat ((rd_T33 l0 0).f2).size)))) ?hg ?ho ?hn ?hr ?_; (case ho => rfl); (case hg => rfl); (case hn => rfl); (case hr => first | (go_simp; done) | (go_simp; rfl)); intro w17 hw; have n0_ : Aside0 (Kd.V k33 33 w17 w.heap.size (fun k_ => (P0_ k_ ∨ w.heap.size ≤ k_) ∧ some k_ ≠ (v170 : Value).ownBlock ∧ k_ ≠ gb174) (.slice (some ad172) l0.length c0) l0) := ⟨(by rw [hw]; exact (by (with_reducible repeat (first | apply Kd.V_alloc | apply Kd.V_drewN | apply Kd.V_drew)); exact Kd.V_mono (Kd.V_far (p := ⟨gb174, 2, none⟩) (Kd.V_mono HO0.out (fun k_ hk => (⟨hk, hk.2.2⟩ : _ ∧ k_ ≠ gb174))) (fun _ hk => hk.2) (.string (((rd_T33 l0 0).f2).extract ((ji5) : Int).toNat ((rd_T33 l0 0).f2).size))) (fun _ hk => ⟨hk.1.1, ⟨hk.1.2.1, hk.1.2.2⟩⟩)))⟩; have n1_ : Aside0 (Kd.N k33 33 w17 w.heap.size (fun k_ => (P0_ k_ ∨ w.heap.size ≤ k_) ∧ k_ ≠ gb174) v170 y169) := ⟨(by rw [hw]; exact (by (with_reducible repeat (first | apply Kd.N_alloc | apply Kd.N_drewN | apply Kd.N_drew)); exact Kd.N_mono (Kd.N_far (p := ⟨gb174, 2, none⟩) (Kd.N_mono HO171.out (fun k_ hk => (⟨hk, hk.2⟩ : _ ∧ k_ ≠ gb174))) (fun _ hk => hk.2) (.string (((rd_T33 l0 0).f2).extract ((ji5) : Int).toNat ((rd_T33 l0 0).f2).size))) (fun _ hk => ⟨hk.1.1, hk.1.2⟩)))⟩; have n2_ : Aside0 (Kd.V k33 33 w17 w.heap.size (fun k_ => (P0_ k_ ∨ w.heap.size ≤ k_) ∧ some k_ ≠ (v170 : Value).ownBlock ∧ k_ ≠ gb174) (.slice A172_4 ((rd_T33 l0 0).f4).length c172_4) ((rd_T33 l0 0).f4)) := ⟨(by rw [hw]; exact (by (with_reducible repeat (first | apply Kd.V_alloc | apply Kd.V_drewN | apply Kd.V_drew)); exact Kd.V_mono (Kd.V_far (p := ⟨gb174, 2, none⟩) (Kd.V_mono HL172_4.out (fun k_ hk => (⟨hk, hk.2.2⟩ : _ ∧ k_ ≠ gb174))) (fun _ hk => hk.2) (.string (((rd_T33 l0 0).f2).extract ((ji5) : Int).toNat ((rd_T33 l0 0).f2).size))) (fun _ hk => ⟨hk.1.1, ⟨hk.1.2.1, hk.1.2.2⟩⟩)))⟩; have n3_ : Aside0 (Kd.V k33 33 w17 w.heap.size (fun k_ => (P0_ k_ ∨ w.heap.size ≤ k_) ∧ some k_ ≠ (v170 : Value).ownBlock ∧ k_ ≠ gb174) (.slice A172_4 ((rd_T33 l0 0).f4).length c172_4) ((rd_T33 l0 0).f4)) := ⟨(by rw [hw]; exact (by (with_reducible repeat (first | apply Kd.V_alloc | apply Kd.V_drewN | apply Kd.V_drew)); exact Kd.V_mono (Kd.V_far (p := ⟨gb174, 2, none⟩) (Kd.V_mono HL173_4.out (fun k_ hk => (⟨hk, hk.2.2⟩ : _ ∧ k_ ≠ gb174))) (fun _ hk => hk.2) (.string (((rd_T33 l0 0).f2).extract ((ji5) : Int).toNat ((rd_T33 l0 0).f2).size))) (fun _ hk => ⟨hk.1.1, ⟨hk.1.2.1, hk.1.2.2⟩⟩)))⟩; have n4_ : Aside0 (w17.heap[gb174]? = some (.cells #[.int .i64 ((rd_T33 l0 0).f0), .bool ((rd_T33 l0 0).f1), .string (((rd_T33 l0 0).f2).extract ((ji5) : Int).toNat ((rd_T33 l0 0).f2).size), .string ((rd_T33 l0 0).f3), .slice A172_4 ((rd_T33 l0 0).f4).length c172_4] 33 (0, 0))) := ⟨(by rw [hw]; exact (by (with_reducible repeat (first | refine blk_drewN ?_ _ | refine blk_drew ?_ | refine blk_alloc ?_ _)); refine blk_put (cs := #[.int .i64 ((rd_T33 l0 0).f0), .bool ((rd_T33 l0 0).f1), .string ((rd_T33 l0 0).f2), .string ((rd_T33 l0 0).f3), .slice A172_4 ((rd_T33 l0 0).f4).length c172_4]) ?_ 2 _ rfl; (with_reducible repeat (first | refine blk_drewN ?_ _ | refine blk_drew ?_ | refine blk_alloc ?_ _)); exact BK174.out))⟩; have n5_ : Aside0 (Below w.heap.size w w17) := ⟨(by rw [hw]; exact (by repeat (first | (with_reducible first | exact HB.out | apply below_alloc | apply pw_below_drewN | apply below_drew1 | refine below_set ?_ GE174.out) | exact HB.out)))⟩; clear hw; clear HO0; clear HO171; clear HL172_4; clear HL173_4; clear BK174; clear HB; have HO0 := n0_; have HO171 := n1_; have HL172_4 := n2_; have HL173_4 := n3_; have BK174 := n4_; have HB := n5_; clear n0_ n1_ n2_ n3_ n4_ n5_; have hcz18_0 : w17.cell? ⟨gb174, 0, none⟩ = some (.int .i64 ((rd_T33 l0 0).f0)) := (blk_cell BK174.out 0).trans rfl; have hcz18_1 : w17.cell? ⟨gb174, 1, none⟩ = some (.bool ((rd_T33 l0 0).f1)) := (blk_cell BK174.out 1).trans rfl; have hcz18_2 : w17.cell? ⟨gb174, 2, none⟩ = some (.string (((rd_T33 l0 0).f2).extract ((ji5) : Int).toNat ((rd_T33 l0 0).f2).size)) := (blk_cell BK174.out 2).trans rfl; have hcz18_3 : w17.cell? ⟨gb174, 3, none⟩ = some (.string ((rd_T33 l0 0).f3)) := (blk_cell BK174.out 3).trans rfl; have hcz18_4 : w17.cell? ⟨gb174, 4, none⟩ = some (.slice A172_4 ((rd_T33 l0 0).f4).length c172_4) := (blk_cell BK174.out 4).trans rfl; have hfz18_0 := blk_frozen BK174.out 0; have hfz18_1 := blk_frozen BK174.out 1; have hfz18_2 := blk_frozen BK174.out 2; have hfz18_3 := blk_frozen BK174.out 3; have hfz18_4 := blk_frozen BK174.out 4) | ((with_reducible refine gate_builtin (b := .append) (xs := #[.tmp 25, .tmp 27]) rfl ?_); at_builtin; refine Kd.N_append k33 (w0 := w) w.heap.size rfl (.tmp 25) (.tmp 27) 23 33 (.agg #[(.int .i64 0), (.bool false), (.string ⟨#[]⟩), (.string ⟨#[]⟩), (.slice none 0 0)]) 72 rfl Tryd.underlying23 info33 rfl (by decide) (by omega) v170 y169 (⟨(rd_T33 l0 0).f0, (rd_T33 l0 0).f1, ((rd_T33 l0 0).f2).extract ((ji5) : Int).toNat ((rd_T33 l0 0).f2).size, (rd_T33 l0 0).f3, (rd_T33 l0 0).f4⟩ : S33) [.int .i64 ((rd_T33 l0 0).f0), .bool ((rd_T33 l0 0).f1), .string (((rd_T33 l0 0).f2).extract ((ji5) : Int).toNat ((rd_T33 l0 0).f2).size), .string ((rd_T33 l0 0).f3), .slice A172_4 ((rd_T33 l0 0).f4).length c172_4] (fun k_ => (P0_ k_ ∨ w.heap.size ≤ k_) ∧ k_ ≠ gb174) (fun k_ => ((fun k_ => (P0_ k_ ∨ w.heap.size ≤ k_) ∧ k_ ≠ gb174)) k_ ∧ some k_ ≠ (v170 : Value).ownBlock) rfl rfl ?aP (fun _ hk => hk) ?aF ?aO ?aB ?aS ?aL ?_; (case aP => exact (k33_mkF _ _ (⟨(rd_T33 l0 0).f0, (rd_T33 l0 0).f1, ((rd_T33 l0 0).f2).extract ((ji5) : Int).toNat ((rd_T33 l0 0).f2).size, (rd_T33 l0 0).f3, (rd_T33 l0 0).f4⟩ : S33) (Kd.V_reads' (Kd.V_mono (ok' := (fun k_ => ((fun k_ => (P0_ k_ ∨ w.heap.size ≤ k_) ∧ k_ ≠ gb174)) k_ ∧ some k_ ≠ (v170 : Value).ownBlock)) (HL173_4.out) (fun k_ hk => ⟨⟨hk.1, hk.2.2⟩, hk.2.1⟩))).2.1 (Kd.V_F (Kd.V_mono (ok' := (fun k_ => ((fun k_ => (P0_ k_ ∨ w.heap.size ≤ k_) ∧ k_ ≠ gb174)) k_ ∧ some k_ ≠ (v170 : Value).ownBlock)) (HL173_4.out) (fun k_ hk => ⟨⟨hk.1, hk.2.2⟩, hk.2.1⟩))))); (case aB => exact (by repeat (first | (with_reducible first | exact HB.out | apply below_alloc | apply pw_below_drewN | apply below_drew1 | refine below_set ?_ GE174.out) | exact HB.out))); (case aF => exact (fun k_ hk => ⟨(.inr (Nat.le_trans (below_size (by repeat (first | (with_reducible first | exact HB.out | apply below_alloc | apply pw_below_drewN | apply below_drew1 | refine below_set ?_ GE174.out) | exact HB.out))) hk)), Kd.freshB (g := gb174) (o := .cells #[.int .i64 ((rd_T33 l0 0).f0), .bool ((rd_T33 l0 0).f1), .string (((rd_T33 l0 0).f2).extract ((ji5) : Int).toNat ((rd_T33 l0 0).f2).size), .string ((rd_T33 l0 0).f3), .slice A172_4 ((rd_T33 l0 0).f4).length c172_4] 33 (0, 0)) (by (with_reducible repeat (first | refine blk_drewN ?_ _ | refine blk_drew ?_ | refine blk_alloc ?_ _)); exact BK174.out) k_ hk⟩)); (case aO => exact (by (with_reducible repeat (first | apply Kd.N_alloc | apply Kd.N_drewN | apply Kd.N_drew)); exact HO171.out)); (case aS => exact (below_size (by repeat (first | (with_reducible first | exact HB.out | apply below_alloc | apply pw_below_drewN | apply below_drew1 | refine below_set ?_ GE174.out) | exact HB.out)))); (case aL => have := LMc8.out; omega); intro v176 w19 ho hb hg hat; rw [← Ny175.out] at ho; have n0_ := Aside0.mk (Kd.V_afterv (ok := (fun k_ => (P0_ k_ ∨ w.heap.size ≤ k_) ∧ k_ ≠ gb174)) (by (with_reducible repeat (first | apply Kd.V_alloc | apply Kd.V_drewN | apply Kd.V_drew)); exact Kd.V_mono HO0.out (fun _ hk => ⟨⟨hk.1, hk.2.2⟩, hk.2.1⟩)) hg hat); have n1_ := Aside0.mk (Kd.V_afterv (ok := (fun k_ => (P0_ k_ ∨ w.heap.size ≤ k_) ∧ k_ ≠ gb174)) (by (with_reducible repeat (first | apply Kd.V_alloc | apply Kd.V_drewN | apply Kd.V_drew)); exact Kd.V_mono HL172_4.out (fun _ hk => ⟨⟨hk.1, hk.2.2⟩, hk.2.1⟩)) hg hat); have n2_ := Aside0.mk (Kd.V_afterv (ok := (fun k_ => (P0_ k_ ∨ w.heap.size ≤ k_) ∧ k_ ≠ gb174)) (by (with_reducible repeat (first | apply Kd.V_alloc | apply Kd.V_drewN | apply Kd.V_drew)); exact Kd.V_mono HL173_4.out (fun _ hk => ⟨⟨hk.1, hk.2.2⟩, hk.2.1⟩)) hg hat); have n3_ := Aside0.mk (blk_grown (g := gb174) (o := .cells #[.int .i64 ((rd_T33 l0 0).f0), .bool ((rd_T33 l0 0).f1), .string (((rd_T33 l0 0).f2).extract ((ji5) : Int).toNat ((rd_T33 l0 0).f2).size), .string ((rd_T33 l0 0).f3), .slice A172_4 ((rd_T33 l0 0).f4).length c172_4] 33 (0, 0)) (by (with_reducible repeat (first | refine blk_drewN ?_ _ | refine blk_drew ?_ | refine blk_alloc ?_ _)); exact BK174.out) hg (Kd.N_away HO171.out (fun _ hk => hk.2))); have n4_ := Aside0.mk (hb); have n5_ := Aside0.mk (ho); clear HO0; clear HL172_4; clear HL173_4; clear BK174; clear HB; clear HO171; have HO0 := n0_; have HL172_4 := n1_; have HL173_4 := n2_; have BK174 := n3_; have HB := n4_; have HO177 := n5_; clear n0_ n1_ n2_ n3_ n4_ n5_; clear ho hb hg hat; have q20 : (1 : Int) ≤ ((l0.length : Int) : Int) := of_decide_eq_true (by first | (with_reducible assumption) | assumption); obtain ⟨i020, hi020, _, hsz20, _⟩ := info_parts info33; have hroom20 : l0.length ≤ c0 := (Kd.V_reads' HO0.out).2.1; have hC20 : Kd.F k33 _ _ (some ad172) l0.length l0 := (Kd.V_at (base := w.heap.size) HO0.out).2.2; have hcut20 := cut_from (P := Tryd.prog) 23 33 .i64 Tryd.underlying23 hi020 5 hsz20 (some ad172) l0.length c0 1 (by omega) q20; have hr20 := Kd.F_cut (m := (1 : Int).toNat) (c := c0) hC20 (by omega) hroom20; obtain ⟨A20, hA20⟩ : ∃ A1, A1 = (if c0 = (1 : Int).toNat then (some ad172) else ((some ad172) : Option Addr).map (·.add ((1 : Int).toNat * 5))) := ⟨_, rfl⟩; obtain ⟨c20, hc20⟩ : ∃ c1, c1 = c0 - (1 : Int).toNat := ⟨_, rfl⟩; have hy20 : y178.length = l0.length - (1 : Int).toNat := (by rw [Ny178.out, List.length_drop] <;> omega); rw [show (l0).drop (1 : Int).toNat = y178 from Ny178.out.symm] at hr20; replace hr20 : Kd.F k33 _ _ A20 y178.length y178 := (by rw [hA20]; exact hr20); rw [← hy20, ← hA20, ← hc20] at hcut20; have HO182 := Aside0.mk (show Kd.V k33 33 _ w.heap.size _ (.slice A20 y178.length c20) y178 from Kd.V_mk (by rw [hy20, hc20]; exact Nat.sub_le_sub_right hroom20 _) hr20); have HC182 := Aside0.mk (show y178.length ≤ c20 from by rw [hy20, hc20]; exact Nat.sub_le_sub_right hroom20 _); clear hr20 hC20 hroom20 hi020 hsz20 hc20; have KY20 := Aside0.mk hy20; have KA20 := Aside0.mk hA20; clear hy20 hA20; replace q20 := eq_true q20) | ((with_reducible refine gate_builtin (b := .append) (xs := #[.tmp 29, .tmp 31]) rfl ?_); at_builtin; refine Kd.N_append_rows k33 (w0 := w) w.heap.size rfl (.tmp 29) (.tmp 31) 23 33 (.agg #[(.int .i64 0), (.bool false), (.string ⟨#[]⟩), (.string ⟨#[]⟩), (.slice none 0 0)]) 72 rfl Tryd.underlying23 info33 rfl (by decide) (by omega) v176 y175 y178 _ _ _ (fun k_ => (P0_ k_ ∨ w.heap.size ≤ k_) ∧ k_ ≠ gb174) (fun k_ => ((fun k_ => (P0_ k_ ∨ w.heap.size ≤ k_) ∧ k_ ≠ gb174)) k_ ∧ some k_ ≠ (v176 : Value).ownBlock) rfl rfl ?aO ?aR (fun _ hk => hk) ?aF ?aB ?aS ?aL ?_; (case aR => exact (by skip; exact Kd.V_F (Kd.V_mono (ok' := (fun k_ => ((fun k_ => (P0_ k_ ∨ w.heap.size ≤ k_) ∧ k_ ≠ gb174)) k_ ∧ some k_ ≠ (v176 : Value).ownBlock)) (HO182.out) (fun k_ hk => ⟨⟨hk.1.1, hk.1.2⟩, hk.2⟩)))); (case aB => exact (by repeat (first | (with_reducible first | exact HB.out | apply below_alloc | apply pw_below_drewN | apply below_drew1 | refine below_set ?_ GE174.out) | exact HB.out))); (case aF => exact (fun k_ hk => ⟨(.inr (Nat.le_trans (below_size (by repeat (first | (with_reducible first | exact HB.out | apply below_alloc | apply pw_below_drewN | apply below_drew1 | refine below_set ?_ GE174.out) | exact HB.out))) hk)), Kd.freshB (g := gb174) (o := .cells #[.int .i64 ((rd_T33 l0 0).f0), .bool ((rd_T33 l0 0).f1), .string (((rd_T33 l0 0).f2).extract ((ji5) : Int).toNat ((rd_T33 l0 0).f2).size), .string ((rd_T33 l0 0).f3), .slice A172_4 ((rd_T33 l0 0).f4).length c172_4] 33 (0, 0)) (by (with_reducible repeat (first | refine blk_drewN ?_ _ | refine blk_drew ?_ | refine blk_alloc ?_ _)); exact BK174.out) k_ hk⟩)); (case aO => exact (by (with_reducible repeat (first | apply Kd.N_alloc | apply Kd.N_drewN | apply Kd.N_drew)); exact HO177.out)); (case aS => exact (below_size (by repeat (first | (with_reducible first | exact HB.out | apply below_alloc | apply pw_below_drewN | apply below_drew1 | refine below_set ?_ GE174.out) | exact HB.out)))); (case aL => have := LMc10.out; omega); intro v184 w21 ho hb hg hat; rw [← Ny183.out] at ho; have n0_ := Aside0.mk (Kd.V_afterv (ok := (fun k_ => (P0_ k_ ∨ w.heap.size ≤ k_) ∧ k_ ≠ gb174)) (by (with_reducible repeat (first | apply Kd.V_alloc | apply Kd.V_drewN | apply Kd.V_drew)); exact HO0.out) hg hat); have n1_ := Aside0.mk (Kd.V_afterv (ok := (fun k_ => (P0_ k_ ∨ w.heap.size ≤ k_) ∧ k_ ≠ gb174)) (by (with_reducible repeat (first | apply Kd.V_alloc | apply Kd.V_drewN | apply Kd.V_drew)); exact HL172_4.out) hg hat); have n2_ := Aside0.mk (Kd.V_afterv (ok := (fun k_ => (P0_ k_ ∨ w.heap.size ≤ k_) ∧ k_ ≠ gb174)) (by (with_reducible repeat (first | apply Kd.V_alloc | apply Kd.V_drewN | apply Kd.V_drew)); exact HL173_4.out) hg hat); have n3_ := Aside0.mk (blk_grown (g := gb174) (o := .cells #[.int .i64 ((rd_T33 l0 0).f0), .bool ((rd_T33 l0 0).f1), .string (((rd_T33 l0 0).f2).extract ((ji5) : Int).toNat ((rd_T33 l0 0).f2).size), .string ((rd_T33 l0 0).f3), .slice A172_4 ((rd_T33 l0 0).f4).length c172_4] 33 (0, 0)) (by (with_reducible repeat (first | refine blk_drewN ?_ _ | refine blk_drew ?_ | refine blk_alloc ?_ _)); exact BK174.out) hg (Kd.N_away HO177.out (fun _ hk => hk.2))); have n4_ := Aside0.mk (Kd.V_afterv (ok := (fun k_ => (P0_ k_ ∨ w.heap.size ≤ k_) ∧ k_ ≠ gb174)) (by (with_reducible repeat (first | apply Kd.V_alloc | apply Kd.V_drewN | apply Kd.V_drew)); exact HO182.out) hg hat); have n5_ := Aside0.mk (hb); have n6_ := Aside0.mk (ho); clear HO0; clear HL172_4; clear HL173_4; clear BK174; clear HO182; clear HB; clear HO177; have HO0 := n0_; have HL172_4 := n1_; have HL173_4 := n2_; have BK174 := n3_; have HO182 := n4_; have HB := n5_; have HO185 := n6_; clear n0_ n1_ n2_ n3_ n4_ n5_ n6_; clear ho hb hg hat))
                go_ret
                exact ⟨_, by first | rfl | (simp [errW_none, errW_some] <;> rfl) | (simp only [← hji5]; first | rfl | (simp [errW_none, errW_some] <;> rfl)) | (simp [*, errW_none, errW_some] <;> rfl), by (with_reducible repeat (first | apply Kd.N_alloc | apply Kd.N_drewN | apply Kd.N_drew)); exact Kd.N_mono HO185.out (fun _ hk => hk.1), by repeat (first | (with_reducible first | exact HB.out | apply below_alloc | apply pw_below_drewN | apply below_drew1 | refine below_set ?_ GE174.out) | exact HB.out)⟩
              · rw [if_neg c10] at H
                exact absurd H (by simp)
            · rw [if_neg c9] at H
              exact absurd H (by simp)
          · rw [if_neg c8] at H
            exact absurd H (by simp)
        · rw [if_neg c7] at H
          exact absurd H (by simp)
      · rw [if_neg c6] at H
        exact absurd H (by simp)
    · rw [if_neg c4] at H
      have c4b0 : decide ((wrap64 (a1 + 1)) < (((rd_T33 l0 0).f2).size : Int)) = false := decide_eq_false c4
      clear c4
      by_cases c22 : 1 ≤ (l0.length : Int)
      · rw [if_pos c22] at H
        have c22b0 := eq_true c22
        have c22b1 : decide (1 ≤ (l0.length : Int)) = true := decide_eq_true c22
        clear c22
        obtain ⟨y186, hy186⟩ : ∃ y_ : List (S33), y_ = (l0.drop 1) := ⟨_, rfl⟩
        replace H : (if y169.length + y186.length < 1954687338268 then (some (y169 ++ y186)) else (none)) = some r := by first | (rw [hy186]; with_reducible exact H) | (have H2_ := (Option.bind_some _ _).symm.trans H; rw [hy186]; with_reducible exact H2_) | (have H2_ := (Option.bind_some _ _).symm.trans H; with_reducible exact H2_) | with_reducible exact H | (rw [hy186]; exact H) | exact H
        have Ny186 := Aside0.mk hy186
        clear hy186
        by_cases c23 : y169.length + y186.length < 1954687338268
        · rw [if_pos c23] at H
          have LMc23 := Aside0.mk c23
          clear c23
          obtain ⟨y191, hy191⟩ : ∃ y_ : List (S33), y_ = (y169 ++ y186) := ⟨_, rfl⟩
          replace H : (some y191) = some r := by first | (rw [hy191]; with_reducible exact H) | (have H2_ := (Option.bind_some _ _).symm.trans H; rw [hy191]; with_reducible exact H2_) | (have H2_ := (Option.bind_some _ _).symm.trans H; with_reducible exact H2_) | with_reducible exact H | (rw [hy191]; exact H) | exact H
          have Ny191 := Aside0.mk hy191
          clear hy191
          obtain rfl := Option.some.inj H
          go_enter Tryd.func22, Tryd.ntmps22
          go_wp2_with (first | ((with_reducible refine gate_dst (N := 7) rfl ?_); refine Kd.N_lit k33 _ 33 ?hg (N' := 7) ?hd (xs := ([] : List (S33))) (inner := []) (ok := (fun k_ => (P0_ k_ ∨ w.heap.size ≤ k_))) (okp := (fun k_ => (P0_ k_ ∨ w.heap.size ≤ k_))) ?hr ?hp (fun _ hk => hk) ((show ∀ k_, w.heap.size ≤ k_ → (fun k_ => (P0_ k_ ∨ w.heap.size ≤ k_)) k_ from fun k_ hk => (.inr (Nat.le_trans (below_size (by repeat (first | (with_reducible first | exact HB.out | apply below_alloc | apply pw_below_drewN | apply below_drew1) | exact HB.out))) hk))) _ (Nat.le_refl _)) (Below.refl _ _) (Nat.le_refl _) (by simp) ?_; (case hd => rfl); (case hg => rfl); (case hr => first | (go_simp; done) | (go_simp; rfl)); (case hp => exact (Reps.none _ _)); intro v170 w24 ho25 hb hg_ hnew_; clear hg_ hnew_; (first | rw [← Ny169.out] at ho25 | (simp only [Int.reduceToNat] at ho25; rw [← Ny169.out] at ho25)); have n0_ := Aside0.mk (Kd.V_elder' (by (with_reducible repeat (first | apply Kd.V_alloc | apply Kd.V_drewN | apply Kd.V_drew)); exact HO0.out) (Kd.N_base ho25) hb); have n1_ := Aside0.mk (Kd.N_lower ho25 (below_size (by repeat (first | (with_reducible first | exact HB.out | apply below_alloc | apply pw_below_drewN | apply below_drew1) | exact HB.out)))); have n2_ := Aside0.mk (below_step (by repeat (first | (with_reducible first | exact HB.out | apply below_alloc | apply pw_below_drewN | apply below_drew1) | exact HB.out)) hb); clear HO0; clear HB; have HO0 := n0_; have HO171 := n1_; have HB := n2_; clear n0_ n1_ n2_; clear hb ho25; have p172 : 0 ≤ (0 : Int) := (by omega); have q172 : 0 < (l0.length : Int) := of_decide_eq_true (by first | (with_reducible assumption) | assumption); obtain ⟨ad172, A172_4, c172_4, e172, hx172_0, hx172_1, hx172_2, hx172_3, hx172_4, hl172_4, hi172_4⟩ := at_T33 (Kd.V_reads' HO0.out).2.2 0 p172 q172; cases e172; obtain ⟨ce172, hce172, hMe172, hcc172⟩ := Kd.V_get HO0.out z33 0 p172 (by first | exact q172 | exact of_decide_eq_true (by first | (with_reducible assumption) | assumption) | (have e_ := (Kd.V_reads' HO0.out).1; omega)); obtain ⟨ua172_4, uc172_4, rfl, ul172_4, ge172_4⟩ := k33_openF hMe172; have hv172_4 := hcc172 4 _ rfl; rw [add_field _ _ 4 (by omega)] at hv172_4; replace hv172_4 := Option.some.inj (hv172_4.symm.trans hx172_4); injection hv172_4 with hva_ hvn_ hvc_; rw [hva_] at ge172_4; rw [hvc_] at ul172_4; have HL172_4 := Aside0.mk (show Kd.V k33 33 _ w.heap.size _ _ ((rd_T33 l0 0).f4) from Kd.V_mk ul172_4 ge172_4); clear hva_ hvn_ hvc_ ge172_4 ul172_4; clear hcc172 hce172; have qi172 : (0 < l0.length) = True := eq_true (by omega); (try rw [show ((0 : Int)).toNat = 0 from rfl] at hx172_0); (try rw [show 0 * 5 = 0 from rfl] at hx172_0); (try rw [Addr.add_zero'] at hx172_0); (try rw [show ((0 : Int)).toNat = 0 from rfl] at hx172_1); (try rw [show 0 * 5 = 0 from rfl] at hx172_1); (try rw [Addr.add_zero'] at hx172_1); (try rw [show ((0 : Int)).toNat = 0 from rfl] at hx172_2); (try rw [show 0 * 5 = 0 from rfl] at hx172_2); (try rw [Addr.add_zero'] at hx172_2); (try rw [show ((0 : Int)).toNat = 0 from rfl] at hx172_3); (try rw [show 0 * 5 = 0 from rfl] at hx172_3); (try rw [Addr.add_zero'] at hx172_3); (try rw [show ((0 : Int)).toNat = 0 from rfl] at hx172_4); (try rw [show 0 * 5 = 0 from rfl] at hx172_4); (try rw [Addr.add_zero'] at hx172_4); have HR172_4 := Aside0.mk hi172_4; have HC172_4 := Aside0.mk hl172_4; clear hi172_4 hl172_4; replace p172 := eq_true p172; replace q172 := eq_true q172; have q26 : (1 : Int) ≤ ((l0.length : Int) : Int) := of_decide_eq_true (by first | (with_reducible assumption) | assumption); obtain ⟨i026, hi026, _, hsz26, _⟩ := info_parts info33; have hroom26 : l0.length ≤ c0 := (Kd.V_reads' HO0.out).2.1; have hC26 : Kd.F k33 _ _ (some ad172) l0.length l0 := (Kd.V_at (base := w.heap.size) HO0.out).2.2; have hcut26 := cut_from (P := Tryd.prog) 23 33 .i64 Tryd.underlying23 hi026 5 hsz26 (some ad172) l0.length c0 1 (by omega) q26; have hr26 := Kd.F_cut (m := (1 : Int).toNat) (c := c0) hC26 (by omega) hroom26; obtain ⟨A26, hA26⟩ : ∃ A1, A1 = (if c0 = (1 : Int).toNat then (some ad172) else ((some ad172) : Option Addr).map (·.add ((1 : Int).toNat * 5))) := ⟨_, rfl⟩; obtain ⟨c26, hc26⟩ : ∃ c1, c1 = c0 - (1 : Int).toNat := ⟨_, rfl⟩; have hy26 : y186.length = l0.length - (1 : Int).toNat := (by rw [Ny186.out, List.length_drop] <;> omega); rw [show (l0).drop (1 : Int).toNat = y186 from Ny186.out.symm] at hr26; replace hr26 : Kd.F k33 _ _ A26 y186.length y186 := (by rw [hA26]; exact hr26); rw [← hy26, ← hA26, ← hc26] at hcut26; have HO190 := Aside0.mk (show Kd.V k33 33 _ w.heap.size _ (.slice A26 y186.length c26) y186 from Kd.V_mk (by rw [hy26, hc26]; exact Nat.sub_le_sub_right hroom26 _) hr26); have HC190 := Aside0.mk (show y186.length ≤ c26 from by rw [hy26, hc26]; exact Nat.sub_le_sub_right hroom26 _); clear hr26 hC26 hroom26 hi026 hsz26 hc26; have KY26 := Aside0.mk hy26; have KA26 := Aside0.mk hA26; clear hy26 hA26; replace q26 := eq_true q26) | ((with_reducible refine gate_builtin (b := .append) (xs := #[.tmp 29, .tmp 31]) rfl ?_); at_builtin; refine Kd.N_append_rows k33 (w0 := w) w.heap.size rfl (.tmp 29) (.tmp 31) 23 33 (.agg #[(.int .i64 0), (.bool false), (.string ⟨#[]⟩), (.string ⟨#[]⟩), (.slice none 0 0)]) 72 rfl Tryd.underlying23 info33 rfl (by decide) (by omega) v170 y169 y186 _ _ _ (fun k_ => (P0_ k_ ∨ w.heap.size ≤ k_)) (fun k_ => ((fun k_ => (P0_ k_ ∨ w.heap.size ≤ k_))) k_ ∧ some k_ ≠ (v170 : Value).ownBlock) rfl rfl ?aO ?aR (fun _ hk => hk) ?aF ?aB ?aS ?aL ?_; (case aR => exact (by skip; exact Kd.V_F (Kd.V_mono (ok' := (fun k_ => ((fun k_ => (P0_ k_ ∨ w.heap.size ≤ k_))) k_ ∧ some k_ ≠ (v170 : Value).ownBlock)) (HO190.out) (fun k_ hk => ⟨hk.1, hk.2⟩)))); (case aB => exact (by repeat (first | (with_reducible first | exact HB.out | apply below_alloc | apply pw_below_drewN | apply below_drew1) | exact HB.out))); (case aF => exact (fun k_ hk => (.inr (Nat.le_trans (below_size (by repeat (first | (with_reducible first | exact HB.out | apply below_alloc | apply pw_below_drewN | apply below_drew1) | exact HB.out))) hk)))); (case aO => exact (by (with_reducible repeat (first | apply Kd.N_alloc | apply Kd.N_drewN | apply Kd.N_drew)); exact HO171.out)); (case aS => exact (below_size (by repeat (first | (with_reducible first | exact HB.out | apply below_alloc | apply pw_below_drewN | apply below_drew1) | exact HB.out)))); (case aL => have := LMc23.out; omega); intro v192 w27 ho hb hg hat; rw [← Ny191.out] at ho; have n0_ := Aside0.mk (Kd.V_afterv (ok := (fun k_ => (P0_ k_ ∨ w.heap.size ≤ k_))) (by (with_reducible repeat (first | apply Kd.V_alloc | apply Kd.V_drewN | apply Kd.V_drew)); exact HO0.out) hg hat); have n1_ := Aside0.mk (Kd.V_afterv (ok := (fun k_ => (P0_ k_ ∨ w.heap.size ≤ k_))) (by (with_reducible repeat (first | apply Kd.V_alloc | apply Kd.V_drewN | apply Kd.V_drew)); exact HL172_4.out) hg hat); have n2_ := Aside0.mk (Kd.V_afterv (ok := (fun k_ => (P0_ k_ ∨ w.heap.size ≤ k_))) (by (with_reducible repeat (first | apply Kd.V_alloc | apply Kd.V_drewN | apply Kd.V_drew)); exact HO190.out) hg hat); have n3_ := Aside0.mk (hb); have n4_ := Aside0.mk (ho); clear HO0; clear HL172_4; clear HO190; clear HB; clear HO171; have HO0 := n0_; have HL172_4 := n1_; have HO190 := n2_; have HB := n3_; have HO193 := n4_; clear n0_ n1_ n2_ n3_ n4_; clear ho hb hg hat))
          go_ret
          exact ⟨_, by first | rfl | (simp [errW_none, errW_some] <;> rfl) | (simp [*, errW_none, errW_some] <;> rfl), by (with_reducible repeat (first | apply Kd.N_alloc | apply Kd.N_drewN | apply Kd.N_drew)); exact HO193.out, by repeat (first | (with_reducible first | exact HB.out | apply below_alloc | apply pw_below_drewN | apply below_drew1) | exact HB.out)⟩
        · rw [if_neg c23] at H
          exact absurd H (by simp)
      · rw [if_neg c22] at H
        exact absurd H (by simp)
  · rw [if_neg c3] at H
    exact absurd H (by simp)

end Go.Proofs.YtkecpfjmdokieaaDoor.P
/- deadfallref03.Weight: it has an answer; not beyond 10000 it is what the parts and bytes are. -/
namespace Go.Proofs.YtkecpfjmdokieaaDoor.Word
open Go.RowKit Go.Proofs.YtkecpfjmdokieaaDoorW.PrintWords Go.Proofs.YtkecpfjmdokieaaDoor.P Go.Proofs.YtkecpfjmdokieaaDoor.NodeOps
set_option linter.unusedVariables false
set_option linter.unusedSimpArgs false
abbrev Pt := S33
theorem wr (x : Int) (h0 : -9223372036854775808 ≤ x) (h1 : x ≤ 9223372036854775807) : wrap64 x = x := by unfold wrap64; omega
theorem via {α β : Type} {g h' : Nat → Option α} {h : Nat → Option β} {b : β} {r : α} (hb : Ev h b) (hk : Ev h' r) (e : ∀ k, h k = some b → g (k + 1) = h' k) : Ev g r := by
  obtain ⟨k0, h0⟩ := hb
  obtain ⟨k1, h1⟩ := hk
  refine ⟨max k0 k1 + 1, fun k hk => ?_⟩
  obtain ⟨j, rfl⟩ : ∃ j, k = j + 1 := ⟨k - 1, by omega⟩
  rw [e j (h0 j (by omega))]
  exact h1 j (by omega)
/-- An answer in bounds. -/
theorem step {α : Type} {g f : Nat → Option α} {r : α} (h : Ev f r) (e : ∀ k, g (k + 1) = f k) : Ev g r := by
  obtain ⟨k0, h0⟩ := h
  exact ⟨k0 + 1, fun k hk => by obtain ⟨j, rfl⟩ : ∃ j, k = j + 1 := ⟨k - 1, by omega⟩; rw [e]; exact h0 j (by omega)⟩
theorem now {α : Type} {g : Nat → Option α} {r : α} (e : ∀ k, g (k + 1) = some r) : Ev g r := step (f := fun _ => some r) ⟨0, fun _ _ => rfl⟩ e
theorem size_pt (x : Pt) : SizeOf.sizeOf x.f4 < SizeOf.sizeOf x := by cases x; simp; omega
theorem size_in {l : List Pt} {x : Pt} (h : x ∈ l) : SizeOf.sizeOf x.f4 < SizeOf.sizeOf l := by
  have h1 := List.sizeOf_lt_of_mem h
  have h2 := size_pt x
  omega
/-- How many parts and bytes there are. -/
def wt (l : List Pt) : Nat := (l.attach.map fun x => 1 + x.1.f2.size + x.1.f3.size + wt x.1.f4).sum
termination_by SizeOf.sizeOf l
decreasing_by exact size_in x.2
theorem wt_eq (l : List Pt) : wt l = (l.map fun x => 1 + x.f2.size + x.f3.size + wt x.f4).sum := by
  rw [wt]
  have e : ∀ (g : Pt → Nat), (l.attach.map fun x => g x.1) = l.map g := fun g => by simp
  exact congrArg List.sum (e fun x => 1 + x.f2.size + x.f3.size + wt x.f4)
theorem rd_in (l : List Pt) (i : Nat) (h : i < l.length) : rd_T33 l (i : Int) = l[i] := by
  unfold rd_T33
  rw [Int.toNat_natCast, List.getD_eq_getElem?_getD, List.getElem?_eq_getElem h]
  rfl
theorem wt_cons (x : Pt) (l : List Pt) : wt (x :: l) = 1 + x.f2.size + x.f3.size + wt x.f4 + wt l := by
  rw [wt_eq, wt_eq l]
  simp
theorem wt_drop (l : List Pt) (i : Nat) (h : i < l.length) : wt (l.drop i) = 1 + l[i].f2.size + l[i].f3.size + wt l[i].f4 + wt (l.drop (i + 1)) := by
  rw [List.drop_eq_getElem_cons h, wt_cons]
/-- An answer; not beyond 10000 it is v. -/
def HasW (g : Nat → Option Int) (v : Nat) : Prop := ∃ r, 0 ≤ r ∧ r ≤ 100000 ∧ (r ≤ 10000 → r = (v : Int)) ∧ Ev g r
theorem hw_step {g f : Nat → Option Int} {v : Nat} (h : HasW f v) (e : ∀ k, g (k + 1) = f k) : HasW g v := by
  obtain ⟨r, h0, h1, h2, h3⟩ := h
  exact ⟨r, h0, h1, h2, step h3 e⟩
theorem w03_loop (deep : Int) (l : List Pt) (hl : l.length ≤ 10000) (hfit : ∀ y ∈ l, FitPart y) (hsub : ∀ y ∈ l, HasW (fun n => deadfallref03_Weight.f n y.f4 (wrap64 (deep + 1))) (wt y.f4)) :
    ∀ (d i : Nat), l.length - i ≤ d → i ≤ l.length → ∀ n5 : Int, 0 ≤ n5 → n5 ≤ 10000 → ∀ v : Nat, (v : Int) = n5 + (wt (l.drop i) : Int) → HasW (fun n => deadfallref03_Weight.l0 n deep n5 l (l.length : Int) (i : Int)) v := by
  intro d
  induction d with
  | zero =>
    intro i hd hi n5 h0 h1 v hv
    rw [List.drop_eq_nil_of_le (by omega), wt_eq] at hv
    refine ⟨n5, h0, by omega, fun _ => by simp at hv; omega, now fun k => ?_⟩
    show deadfallref03_Weight.l0 (k + 1) deep n5 l (l.length : Int) (i : Int) = _
    rw [deadfallref03_Weight.l0, if_neg (by omega)]
  | succ d ih =>
    intro i hd hi n5 h0 h1 v hv
    by_cases hlt : i < l.length
    · have hm : l[i] ∈ l := List.getElem_mem hlt
      have hrd := rd_in l i hlt
      rw [wt_drop l i hlt] at hv
      obtain ⟨t, t0, t1, t2, ht⟩ := hsub _ hm
      obtain ⟨_, s2, s3, _, _⟩ := hfit _ hm
      unfold Lim at s2 s3
      rw [← hrd] at ht t2 s2 s3 hv
      have e : wrap64 (n5 + wrap64 (wrap64 (wrap64 (1 + ((rd_T33 l (i : Int)).f2.size : Int)) + ((rd_T33 l (i : Int)).f3.size : Int)) + t)) = n5 + (1 + ((rd_T33 l (i : Int)).f2.size : Int) + ((rd_T33 l (i : Int)).f3.size : Int) + t) := by
        rw [wr (1 + ((rd_T33 l (i : Int)).f2.size : Int)) (by omega) (by omega), wr (1 + ((rd_T33 l (i : Int)).f2.size : Int) + ((rd_T33 l (i : Int)).f3.size : Int)) (by omega) (by omega), wr (1 + ((rd_T33 l (i : Int)).f2.size : Int) + ((rd_T33 l (i : Int)).f3.size : Int) + t) (by omega) (by omega)]
        exact wr _ (by omega) (by omega)
      obtain ⟨n', hn'⟩ : ∃ n', n' = n5 + (1 + ((rd_T33 l (i : Int)).f2.size : Int) + ((rd_T33 l (i : Int)).f3.size : Int) + t) := ⟨_, rfl⟩
      rw [← hn'] at e
      by_cases hb : n' > 10000
      · refine ⟨100000, by omega, by omega, fun h => by omega, via ht (r := 100000) (h' := fun _ => some 100000) ⟨0, fun _ _ => rfl⟩ fun k hk => ?_⟩
        show deadfallref03_Weight.l0 (k + 1) deep n5 l (l.length : Int) (i : Int) = _
        rw [deadfallref03_Weight.l0, if_pos (by omega), if_pos (by omega), if_pos (by omega), hk, Option.bind_some, e, if_pos hb]
      · have ht3 := t2 (by omega)
        obtain ⟨r, r0, r1, r2, hr⟩ := ih (i + 1) (by omega) (by omega) n' (by omega) (by omega) v (by omega)
        refine ⟨r, r0, r1, r2, via ht hr fun k hk => ?_⟩
        show deadfallref03_Weight.l0 (k + 1) deep n5 l (l.length : Int) (i : Int) = _
        rw [deadfallref03_Weight.l0, if_pos (by omega), if_pos (by omega), if_pos (by omega), hk, Option.bind_some, e, if_neg hb, wr ((i : Int) + 1) (by omega) (by omega)]
        rfl
    · rw [List.drop_eq_nil_of_le (by omega), wt_eq] at hv
      refine ⟨n5, h0, by omega, fun _ => by simp at hv; omega, now fun k => ?_⟩
      show deadfallref03_Weight.l0 (k + 1) deep n5 l (l.length : Int) (i : Int) = _
      rw [deadfallref03_Weight.l0, if_neg (by omega)]
theorem w03_any : ∀ (d : Nat), d ≤ 251 → ∀ l, FitWord l → HasW (fun n => deadfallref03_Weight.f n l (251 - (d : Int))) (wt l) := by
  intro d
  induction d with
  | zero =>
    intro _ l _
    refine hw_step (f := fun k => deadfallref03_Weight.j0 k l (251 - ((0 : Nat) : Int)) true) ⟨100000, by omega, by omega, fun h => by omega, now fun k => ?_⟩ fun k => ?_
    · show deadfallref03_Weight.j0 (k + 1) l (251 - ((0 : Nat) : Int)) true = _
      rw [deadfallref03_Weight.j0, if_pos rfl]
    · show deadfallref03_Weight.f (k + 1) l (251 - ((0 : Nat) : Int)) = _
      rw [deadfallref03_Weight.f, if_pos (by omega)]
  | succ d ih =>
    intro hd l hl
    have hw : wrap64 (251 - ((d + 1 : Nat) : Int) + 1) = 251 - (d : Int) := by unfold wrap64; omega
    refine hw_step (f := fun k => deadfallref03_Weight.j0 k l (251 - ((d + 1 : Nat) : Int)) (decide ((l.length : Int) > 10000))) ?_ (fun k => ?_)
    · by_cases hb : (l.length : Int) > 10000
      · refine ⟨100000, by omega, by omega, fun h => by omega, now fun k => ?_⟩
        show deadfallref03_Weight.j0 (k + 1) l (251 - ((d + 1 : Nat) : Int)) (decide ((l.length : Int) > 10000)) = _
        rw [deadfallref03_Weight.j0, if_pos (decide_eq_true hb)]
      · refine hw_step (w03_loop (251 - ((d + 1 : Nat) : Int)) l (by omega) hl.2 (fun y hy => ?_) l.length 0 (by omega) (by omega) 0 (by omega) (by omega) (wt l) (by rw [List.drop_zero]; omega)) fun k => ?_
        · rw [hw]
          have hf := hl.2 y hy
          exact ih (by omega) y.f4 (by cases hf with | mk _ _ _ a b => exact ⟨a, b⟩)
        · show deadfallref03_Weight.j0 (k + 1) l (251 - ((d + 1 : Nat) : Int)) (decide ((l.length : Int) > 10000)) = _
          rw [deadfallref03_Weight.j0, if_neg (by simpa using hb)]
          rfl
    · show deadfallref03_Weight.f (k + 1) l (251 - ((d + 1 : Nat) : Int)) = _
      rw [deadfallref03_Weight.f, if_neg (by omega)]
theorem w03 (l : List Pt) (h : FitWord l) : HasW (fun n => deadfallref03_Weight.f n l 0) (wt l) := w03_any 251 (by omega) l h
theorem weight_any (l : List Pt) (h : FitWord l) : ∃ r, (r ≤ 10000 → r = (wt l : Int)) ∧ ∀ (A : Option Addr) (n c : Nat) (w : World), Kd.C k33 w A n l → n ≤ c → Calls Tryd.prog 7 #[.slice A n c, .int .i64 0] w fun e w' => e = .returned (.int .i64 r) ∧ Below w.heap.size w w' := by
  obtain ⟨r, _, _, h2, K, hK⟩ := w03 l h
  refine ⟨r, h2, fun A n c w hC hc => ?_⟩
  obtain rfl := hC.1
  exact deadfallref03_Weight.calls K A c l 0 r w hC hc (hK K (Nat.le_refl _))
end Go.Proofs.YtkecpfjmdokieaaDoor.Word
/- word.Quote and the document's: the same text. -/
namespace Go.Proofs.YtkecpfjmdokieaaDoor.Word
open Go.RowKit Go.Proofs.YtkecpfjmdokieaaDoorW.PrintWords Go.Proofs.YtkecpfjmdokieaaDoorW.PrintLast Go.Proofs.YtkecpfjmdokieaaDoor.Base Go.Proofs.YtkecpfjmdokieaaDoor.P Go.Proofs.YtkecpfjmdokieaaDoor.NodeOps
set_option linter.unusedVariables false
set_option linter.unusedSimpArgs false
abbrev R4 : List UInt8 := [39, 92, 39, 39]
def qz (l : List UInt8) : List UInt8 := l.flatMap fun b => if b = 39 then R4 else [b]
theorem qz_cons (b : UInt8) (l : List UInt8) : qz (b :: l) = (if b = 39 then R4 else [b]) ++ qz l := by
  unfold qz
  rw [List.flatMap_cons]
theorem qz_len : ∀ l : List UInt8, (qz l).length ≤ 4 * l.length
  | [] => by unfold qz; simp
  | b :: l => by
    rw [qz_cons, List.length_append, List.length_cons]
    have := qz_len l
    by_cases h : b = 39
    · rw [if_pos h]
      show 4 + _ ≤ _
      omega
    · rw [if_neg h]
      show 1 + _ ≤ _
      omega
theorem replK : ∀ (s : List UInt8), Lib.replaceK [39] R4 (s.count 39) s = qz s
  | [] => rfl
  | b :: l => by
    have ih := replK l
    rw [qz_cons]
    by_cases h : b = 39
    · subst h
      rw [if_pos rfl, List.count_cons_self]
      have h0 : Lib.index (39 :: l) [39] = ((0 : Nat) : Int) := by
        rw [Lib.index_one]
        rfl
      rw [Lib.replaceK_hit _ _ _ _ 0 h0]
      show [] ++ R4 ++ Lib.replaceK [39] R4 (l.count 39) (List.drop 1 (39 :: l)) = _
      rw [List.drop_succ_cons, List.drop_zero, ih]
      rfl
    · rw [if_neg h, List.count_cons_of_ne (by simpa using h)]
      cases hk : l.count 39 with
      | zero =>
        rw [hk] at ih
        show b :: l = [b] ++ qz l
        rw [← ih]
        rfl
      | succ k =>
        rw [hk] at ih
        obtain ⟨i, hi⟩ := Lib.index_of_count (s := l) (old := [39]) (by rw [Lib.count_one, hk]; omega)
        have h1 : Lib.index (b :: l) [39] = ((i + 1 : Nat) : Int) := by
          rw [Lib.index_one] at hi ⊢
          unfold Lib.indexByte
          rw [if_neg (by simpa using h), hi, if_neg (by first | (simp; done) | (simp; omega))]
          rfl
        rw [Lib.replaceK_hit _ _ _ _ _ h1, ← ih, Lib.replaceK_hit _ _ _ _ _ hi]
        rfl
theorem replAll (s : List UInt8) : Lib.replaceAll s [39] R4 = qz s := by
  unfold Lib.replaceAll Lib.replace
  rw [if_neg (by decide)]
  have h1 : Lib.replaceNum s [39] (-1) = s.count 39 := by
    unfold Lib.replaceNum
    rw [if_pos (.inl (by decide)), Lib.count_one]
  rw [h1]
  exact replK s
/-- A text between marks. -/
def quoteS (s : ByteArray) : ByteArray := ⟨([39] ++ qz s.data.toList ++ [39]).toArray⟩
theorem quote_str (l : List UInt8) : ((⟨#[39]⟩ : ByteArray) ++ (⟨l.toArray⟩ : ByteArray)) ++ (⟨#[39]⟩ : ByteArray) = ⟨([39] ++ l ++ [39]).toArray⟩ := by
  apply ByteArray.ext
  simp [ByteArray.data_append]
set_option maxHeartbeats 2000000 in
set_option maxRecDepth 100000 in
theorem quote_any (s : ByteArray) (m : Int) (w : World) (hm : w.cell? ⟨0, 0, none⟩ = some (.int .i64 m)) (hs : s.size ≤ 1000000) :
    Calls Tryd.prog 17 #[.string s] w fun e w' => e = .returned (.string (quoteS s)) ∧ Below w.heap.size w w' := by
  have HL := Aside0.mk (Lib.countB_le ⟨#[39]⟩ (by decide) s.size s (Nat.le_refl _))
  have HM := Aside0.mk hm
  have HS := Aside0.mk hs
  have HQ := Aside0.mk (show (⟨(Lib.replaceAll s.data.toList [39] R4).toArray⟩ : ByteArray) = ⟨(qz s.data.toList).toArray⟩ by rw [replAll])
  have HQL := Aside0.mk (show (qz s.data.toList).length ≤ 4000000 by have h1 := qz_len s.data.toList; rw [data_length] at h1; omega)
  have HLN := Aside0.mk (show s.size + Lib.countB s ⟨#[39]⟩ * (ByteArray.mk #[39, 92, 39, 39]).size ≤ 140737488355328 by
    have e : (ByteArray.mk #[39, 92, 39, 39]).size = 4 := rfl
    have h1 := HL.out
    rw [e]
    omega)
  clear hm hs
  go_enter Tryd.func17, Tryd.ntmps17
  go_wp2_with (go_at_call 30; go_loud (with_reducible refine (Tryd.strings_ReplaceAll s ⟨#[39]⟩ ⟨#[39, 92, 39, 39]⟩ m _ (by have := HS.out; omega) HM.out (by decide) HLN.out).mono ?_); rintro e w1 ⟨rfl, hB⟩; go_loud (rw [show (⟨(Lib.replaceAll s.data.toList (ByteArray.mk #[39]).data.toList (ByteArray.mk #[39, 92, 39, 39]).data.toList).toArray⟩ : ByteArray) = ⟨(qz s.data.toList).toArray⟩ from HQ.out]); have HB := Aside0.mk hB; clear hB)
  all_goals first
    | (exfalso; have := HQL.out; omega)
    | (go_ret; exact ⟨by unfold quoteS; rw [← quote_str]; rfl, HB.out⟩)
/-- The document's. -/
def qn (l : List Int) : List Int := l.flatMap fun b => if b = 39 then [b, 92, 39, 39] else [b]
theorem qn_str : ∀ (l : List UInt8), (qn (l.map fun b => (b.toNat : Int))).map (fun n => UInt8.ofNat n.toNat) = qz l
  | [] => rfl
  | b :: l => by
    rw [qz_cons, ← qn_str l]
    unfold qn
    rw [List.map_cons, List.flatMap_cons, List.map_append]
    congr 1
    by_cases h : b = 39
    · subst h
      rfl
    · rw [if_neg (fun e => h (UInt8.toNat_inj.1 (show b.toNat = 39 by omega))), if_neg h]
      simp
theorem rquote_end (s : ByteArray) (hs : s.size ≤ 1000000) (i : Nat) (hi : ¬ i < s.size) (acc : List Int) (ha : acc.length ≤ 1 + 4 * i) (hi2 : i ≤ 1000000) : Ev (fun k => deadfallref03_Quote.l0 k s acc (i : Int)) (strOfNums (acc ++ qn ((bytesOf s).drop i) ++ [39])) := by
  rw [List.drop_eq_nil_of_le (by rw [bytesOf_length]; omega)]
  refine now fun k => ?_
  show deadfallref03_Quote.l0 (k + 1) s acc (i : Int) = _
  rw [deadfallref03_Quote.l0, if_neg (by omega), if_pos (by omega)]
  simp [qn]
theorem rquote_loop (s : ByteArray) (hs : s.size ≤ 1000000) : ∀ (d i : Nat), s.size - i ≤ d → i ≤ s.size → ∀ acc : List Int, acc.length ≤ 1 + 4 * i → Ev (fun k => deadfallref03_Quote.l0 k s acc (i : Int)) (strOfNums (acc ++ qn ((bytesOf s).drop i) ++ [39])) := by
  intro d
  induction d with
  | zero =>
    intro i hd hi acc ha
    exact rquote_end s hs i (by omega) acc ha (by omega)
  | succ d ih =>
    intro i hd hi acc ha
    by_cases hlt : i < s.size
    · have hb : (bytesOf s).drop i = bt s i :: (bytesOf s).drop (i + 1) := by
        rw [List.drop_eq_getElem_cons (by rw [bytesOf_length]; exact hlt)]
        congr 1
        have := bt_nat s i hlt
        rw [← this]
        simp [bytesOf, ByteArray.getElem_eq_getElem_data]
      have hw : wrap64 ((i : Int) + 1) = ((i + 1 : Nat) : Int) := by unfold wrap64; omega
      rw [hb]
      by_cases h39 : bt s i = 39
      · have e : acc ++ qn (bt s (i : Int) :: List.drop (i + 1) (bytesOf s)) ++ [39] = acc ++ [bt s i] ++ [92, 39, 39] ++ qn (List.drop (i + 1) (bytesOf s)) ++ [39] := by
          unfold qn
          rw [List.flatMap_cons, if_pos h39]
          simp
        rw [e]
        refine step (ih (i + 1) (by omega) (by omega) ((acc ++ [bt s i]) ++ [92, 39, 39]) (by simp; omega)) fun k => ?_
        show deadfallref03_Quote.l0 (k + 1) s acc (i : Int) = deadfallref03_Quote.l0 k s ((acc ++ [bt s i]) ++ [92, 39, 39]) ((i + 1 : Nat) : Int)
        rw [deadfallref03_Quote.l0, if_pos (by omega), if_pos (by omega), if_pos (by omega), Option.bind_some, if_pos h39, Option.bind_some, if_pos (by simp; omega), hw]
      · have e : acc ++ qn (bt s (i : Int) :: List.drop (i + 1) (bytesOf s)) ++ [39] = acc ++ [bt s i] ++ qn (List.drop (i + 1) (bytesOf s)) ++ [39] := by
          unfold qn
          rw [List.flatMap_cons, if_neg h39]
          simp
        rw [e]
        refine step (ih (i + 1) (by omega) (by omega) (acc ++ [bt s i]) (by simp; omega)) fun k => ?_
        show deadfallref03_Quote.l0 (k + 1) s acc (i : Int) = deadfallref03_Quote.l0 k s (acc ++ [bt s i]) ((i + 1 : Nat) : Int)
        rw [deadfallref03_Quote.l0, if_pos (by omega), if_pos (by omega), if_pos (by omega), Option.bind_some, if_neg h39, hw]
    · exact rquote_end s hs i hlt acc ha (by omega)
theorem rquote_any (s : ByteArray) (hs : s.size ≤ 1000000) (w : World) : Calls Tryd.prog 18 #[.string s] w fun e w' => e = .returned (.string (quoteS s)) ∧ Below w.heap.size w w' := by
  obtain ⟨K, hK⟩ := rquote_loop s hs s.size 0 (by omega) (by omega) [39] (by simp)
  rw [List.drop_zero] at hK
  have e : strOfNums ([39] ++ qn (bytesOf s) ++ [39]) = quoteS s := by
    unfold strOfNums quoteS
    congr 2
    rw [List.map_append, List.map_append, show bytesOf s = s.data.toList.map fun b => (b.toNat : Int) from rfl, qn_str]
    rfl
  rw [e] at hK
  exact deadfallref03_Quote.calls K s _ w (hK K (Nat.le_refl _))
end Go.Proofs.YtkecpfjmdokieaaDoor.Word
/- word.Split: the name, and the word behind it. -/
namespace Go.Proofs.YtkecpfjmdokieaaDoor.Word
open Go.RowKit Go.Proofs.YtkecpfjmdokieaaDoorW.PrintWords Go.Proofs.YtkecpfjmdokieaaDoorW.PrintLast Go.Proofs.YtkecpfjmdokieaaDoor.Base Go.Proofs.YtkecpfjmdokieaaDoor.P Go.Proofs.YtkecpfjmdokieaaDoor.NodeOps Go.Proofs.YtkecpfjmdokieaaDoor.Class
set_option linter.unusedVariables false
set_option linter.unusedSimpArgs false
section
variable {ops : Array Oper} {rest : List Oper} {o : Oper} {a : Act} {Q : Exit → Act → World → Prop}
theorem gate_st {W : World} (t p y : Nat) (ho : o.op = .store t (.tmp p) (.tmp y)) (h : wpList Tryd.prog ops Q (o :: rest) a W) : wpList Tryd.prog ops Q (o :: rest) a W := h
theorem gate_dw {W : World} {N : Tmp} (h0 : o.dst = some N) (h : wpList Tryd.prog ops Q (o :: rest) a W) : wpList Tryd.prog ops Q (o :: rest) a W := h
end
theorem pt_heap : Kd.Heap k33 := Kd.heap_fix (fun _ h_ => Kd.heap_iso _ (Kd.heap_pair (Kd.heap_int .i64) (Kd.heap_pair Kd.heap_bool (Kd.heap_pair Kd.heap_string (Kd.heap_pair Kd.heap_string (Kd.heap_slice 33 h_))))))
def ROut (w w' : World) (e : Ending) (l : List Pt) : Prop := ∃ v, e = .returned v ∧ Kd.N k33 33 w' w.heap.size (fun _ => True) v l ∧ Below w.heap.size w w'
set_option maxHeartbeats 2000000 in
set_option maxRecDepth 100000 in
theorem clone_w (ad : Addr) (n c : Nat) (l : List Pt) (w : World) (hr : Kd.C k33 w (some ad) n l) (hl : n ≤ 1000000) :
    Calls Tryd.prog 33 #[.slice (some ad) n c] w fun e w' => ROut w w' e l := by
  have q0 := fun w a n c n' c' => Go.Lib.run_eql_slice_nil w _ _ a n c n' c' Tryd.underlying23
  have hb := below_alloc (Below.refl w.heap.size w) (.cells #[] 33)
  have HF := Aside0.mk (Kd.F_below (Kd.C_F pt_heap hr) hb)
  have HB := Aside0.mk hb
  have HO := Aside0.mk (Kd.R_N (R_empty (d := k33) (base := w.heap.size) (blk_new w (.cells #[] 33)) (Nat.le_refl _)))
  clear hr hb
  go_enter Tryd.func33, Tryd.ntmps33
  go_wp2_with (first | (
      (with_reducible refine gate_dw (N := 7) rfl ?_)
      go_loud (refine Kd.N_append_rows k33 (w0 := w) w.heap.size rfl (.tmp 5) (.tmp 6) 23 33 (.agg #[(.int .i64 0), (.bool false), (.string ⟨#[]⟩), (.string ⟨#[]⟩), (.slice none 0 0)]) 72 rfl Tryd.underlying23 info33 rfl (by decide) (by decide) (.slice (some ⟨w.heap.size, 0, none⟩) 0 0) [] l (some ad) n c (fun _ => True) (fun k => k < w.heap.size) rfl rfl HO.out HF.out (fun k hk => ⟨trivial, by simp [Value.ownBlock]; omega⟩) (fun _ _ => trivial) HB.out HB.out.size (by simp; omega) ?_)
      intro v1 w1 hN hB2 hG hat
      have HN := Aside0.mk hN
      have HB2 := Aside0.mk hB2
      clear hN hB2 hG hat))
  go_ret
  exact ⟨v1, rfl, HN.out, HB2.out⟩
/-- What is cut at the first =. -/
def cutT (s : ByteArray) : List UInt8 × List UInt8 × Bool := Lib.cut s.data.toList [61]
abbrev cutB (s : ByteArray) : ByteArray := ⟨(cutT s).1.toArray⟩
abbrev cutA (s : ByteArray) : ByteArray := ⟨(cutT s).2.1.toArray⟩
abbrev cutF (s : ByteArray) : Bool := (cutT s).2.2
theorem cut_any (s : ByteArray) (m : Int) (w : World) (hs : s.size ≤ 1000000) (hm : w.cell? ⟨0, 0, none⟩ = some (.int .i64 m)) :
    Calls Tryd.prog 31 #[.string s, .string ⟨#[61]⟩] w fun e w' => e = .returned (.tuple #[.string (cutB s), .string (cutA s), .bool (cutF s)]) ∧ Below w.heap.size w w' := by
  refine (Tryd.strings_Cut s ⟨#[61]⟩ m w (by omega) hm).mono ?_
  rintro e w' ⟨rfl, n, rfl⟩
  exact ⟨rfl, pw_below_drewN (Below.refl _ _) n⟩
def setT (x : Pt) (a : ByteArray) : Pt := ⟨x.f0, x.f1, a, x.f3, x.f4⟩
abbrev hd0 (l : List Pt) : Pt := rd_T33 l 0
def restL (l : List Pt) (a : ByteArray) : List Pt := if a.size = 0 then l.drop 1 else setT (hd0 l) a :: l.drop 1
theorem set0 (l : List Pt) (x : Pt) (h : 0 < l.length) : l.set 0 x = x :: l.drop 1 := by
  cases l with
  | nil => simp at h
  | cons y l => rfl
def NoOut (w w' : World) (e : Ending) : Prop := e = .returned (.tuple #[.string ⟨#[]⟩, .slice none 0 0, .bool false]) ∧ Below w.heap.size w w'
def YesOut (w w' : World) (e : Ending) (b : ByteArray) (l : List Pt) : Prop := ∃ V k q, e = .returned (.tuple #[.string b, .slice V k q, .bool true]) ∧ Kd.C k33 w' V k l ∧ k ≤ q ∧ Below w.heap.size w w'
section
variable {A : Option Addr} {n c : Nat} {l : List Pt} {w : World}
set_option maxHeartbeats 2000000 in
set_option maxRecDepth 100000 in
theorem split_nil (A : Option Addr) (c : Nat) (w : World) : Calls Tryd.prog 20 #[.slice A 0 c] w fun e w' => NoOut w w' e := by
  go_enter Tryd.func20, Tryd.ntmps20
  go_wp2
  go_ret3
  exact ⟨rfl, Below.refl _ _⟩
set_option maxHeartbeats 2000000 in
set_option maxRecDepth 100000 in
theorem split_kind (hr : Kd.C k33 w A n l) (hn : 0 < n) (h0 : (rd_T33 l 0).f0 ≠ 1) : Calls Tryd.prog 20 #[.slice A n c] w fun e w' => NoOut w w' e := by
  obtain ⟨ad, A4, c4, rfl, d0, d1, d2, d3, d4, _, _⟩ := at_T33 hr 0 (by omega) (by omega)
  have b1 : ((n : Int) == 0) = false := by simp; omega
  have b2 : (0 < n) = True := eq_true hn
  simp only [Int.toNat_zero, Nat.zero_mul, Addr.add_zero'] at d0 d1 d2 d3 d4
  generalize rd_T33 l 0 = x at *
  have b0 : (x.f0 != 1) = true := by simpa using h0
  clear hr h0
  go_enter Tryd.func20, Tryd.ntmps20
  go_wp2
  go_ret3
  exact ⟨rfl, Below.refl _ _⟩
set_option maxHeartbeats 2000000 in
set_option maxRecDepth 100000 in
theorem split_marks (hr : Kd.C k33 w A n l) (hn : 0 < n) (h0 : (rd_T33 l 0).f0 = 1) (h1 : (rd_T33 l 0).f1 = true) : Calls Tryd.prog 20 #[.slice A n c] w fun e w' => NoOut w w' e := by
  obtain ⟨ad, A4, c4, rfl, d0, d1, d2, d3, d4, _, _⟩ := at_T33 hr 0 (by omega) (by omega)
  have b1 : ((n : Int) == 0) = false := by simp; omega
  have b2 : (0 < n) = True := eq_true hn
  simp only [Int.toNat_zero, Nat.zero_mul, Addr.add_zero'] at d0 d1 d2 d3 d4
  generalize rd_T33 l 0 = x at *
  rw [h0] at d0
  rw [h1] at d1
  clear hr h0 h1
  go_enter Tryd.func20, Tryd.ntmps20
  go_wp2
  go_ret3
  exact ⟨rfl, Below.refl _ _⟩
set_option maxHeartbeats 2000000 in
set_option maxRecDepth 100000 in
theorem split_nocut (hr : Kd.C k33 w A n l) (hn : 0 < n) (h0 : (rd_T33 l 0).f0 = 1) (h1 : (rd_T33 l 0).f1 = false) (hs : (rd_T33 l 0).f2.size ≤ 1000000) (hf : cutF (rd_T33 l 0).f2 = false) {m : Int} (hm : w.cell? ⟨0, 0, none⟩ = some (.int .i64 m)) : Calls Tryd.prog 20 #[.slice A n c] w fun e w' => NoOut w w' e := by
  obtain ⟨ad, A4, c4, rfl, d0, d1, d2, d3, d4, _, _⟩ := at_T33 hr 0 (by omega) (by omega)
  have b1 : ((n : Int) == 0) = false := by simp; omega
  have b2 : (0 < n) = True := eq_true hn
  simp only [Int.toNat_zero, Nat.zero_mul, Addr.add_zero'] at d0 d1 d2 d3 d4
  generalize rd_T33 l 0 = x at *
  rw [h0] at d0
  rw [h1] at d1
  have HCT := Aside0.mk (cut_any x.f2 m w hs hm)
  have HF := Aside0.mk hf
  clear hr h0 h1 hs hf hm
  go_enter Tryd.func20, Tryd.ntmps20
  go_wp2_with (go_at_call 31; go_loud (with_reducible refine HCT.out.mono ?_); rintro e w1 ⟨rfl, hB⟩; rw [HF.out]; have HB := Aside0.mk hB; clear hB)
  go_ret3
  exact ⟨rfl, HB.out⟩
set_option maxHeartbeats 2000000 in
set_option maxRecDepth 100000 in
theorem split_noname (hr : Kd.C k33 w A n l) (hn : 0 < n) (h0 : (rd_T33 l 0).f0 = 1) (h1 : (rd_T33 l 0).f1 = false) (hs : (rd_T33 l 0).f2.size ≤ 1000000) (hf : cutF (rd_T33 l 0).f2 = true) (hb : (cutB (rd_T33 l 0).f2).size ≤ 1000000) (hnm : nameB (cutB (rd_T33 l 0).f2) = false) {m : Int} (hm : w.cell? ⟨0, 0, none⟩ = some (.int .i64 m)) : Calls Tryd.prog 20 #[.slice A n c] w fun e w' => NoOut w w' e := by
  obtain ⟨ad, A4, c4, rfl, d0, d1, d2, d3, d4, _, _⟩ := at_T33 hr 0 (by omega) (by omega)
  have b1 : ((n : Int) == 0) = false := by simp; omega
  have b2 : (0 < n) = True := eq_true hn
  simp only [Int.toNat_zero, Nat.zero_mul, Addr.add_zero'] at d0 d1 d2 d3 d4
  generalize rd_T33 l 0 = x at *
  rw [h0] at d0
  rw [h1] at d1
  have HCT := Aside0.mk (cut_any x.f2 m w hs hm)
  have HF := Aside0.mk hf
  have HNM := Aside0.mk hnm
  have HBS := Aside0.mk hb
  clear hr h0 h1 hs hf hm hnm hb
  generalize cutB x.f2 = b at *
  generalize cutA x.f2 = a at *
  go_enter Tryd.func20, Tryd.ntmps20
  go_wp2_with (first
    | (go_at_call 31; go_loud (with_reducible refine HCT.out.mono ?_); rintro e w1 ⟨rfl, hB⟩; rw [HF.out]; have HB := Aside0.mk hB; clear hB)
    | (go_at_call 32; go_loud (with_reducible refine (name_any b _ (by have := HBS.out; omega)).mono ?_); rintro e w2 ⟨rfl, rfl⟩; rw [HNM.out]))
  go_ret3
  exact ⟨rfl, HB.out⟩
set_option maxHeartbeats 4000000 in
set_option maxRecDepth 100000 in
theorem split_yes (hr : Kd.C k33 w A n l) (hn : 0 < n) (hn1 : n ≤ 1000000) (h0 : (rd_T33 l 0).f0 = 1) (h1 : (rd_T33 l 0).f1 = false) (hs : (rd_T33 l 0).f2.size ≤ 1000000) (hf : cutF (rd_T33 l 0).f2 = true) (hb : (cutB (rd_T33 l 0).f2).size ≤ 1000000) (hnm : nameB (cutB (rd_T33 l 0).f2) = true) {m : Int} (hm : w.cell? ⟨0, 0, none⟩ = some (.int .i64 m)) :
    Calls Tryd.prog 20 #[.slice A n c] w fun e w' => YesOut w w' e (cutB (rd_T33 l 0).f2) (restL l (cutA (rd_T33 l 0).f2)) := by
  obtain ⟨ad, A4, c4, rfl, d0, d1, d2, d3, d4, _, _⟩ := at_T33 hr 0 (by omega) (by omega)
  have b1 : ((n : Int) == 0) = false := by simp; omega
  have b2 : (0 < n) = True := eq_true hn
  simp only [Int.toNat_zero, Nat.zero_mul, Addr.add_zero'] at d0 d1 d2 d3 d4
  have HCT := Aside0.mk (cut_any (rd_T33 l 0).f2 m w hs hm)
  have HF := Aside0.mk hf
  have HNM := Aside0.mk hnm
  have HBS := Aside0.mk hb
  have HR := Aside0.mk hr
  rw [h0] at d0
  rw [h1] at d1
  clear hs hf hm hnm hb hr
  generalize cutB (rd_T33 l 0).f2 = b at *
  generalize cutA (rd_T33 l 0).f2 = a at *
  generalize cutF (rd_T33 l 0).f2 = t at *
  obtain rfl := HF.out
  clear h0 h1
  go_enter Tryd.func20, Tryd.ntmps20
  go_upto_region 7 with (first
    | (go_at_call 31; go_loud (with_reducible refine HCT.out.mono ?_); rintro e w1 ⟨rfl, hB⟩; have HB := Aside0.mk hB; clear hB)
    | (go_at_call 32; go_loud (with_reducible refine (name_any b _ (by have := HBS.out; omega)).mono ?_); rintro e w2 ⟨rfl, rfl⟩; rw [HNM.out])
    | (go_at_call 33; go_loud (with_reducible refine (clone_w ad n c l _ (Kd.C_below HR.out HB.out) hn1).mono ?_); rintro e w3 ⟨v, rfl, hN, hB⟩; have HN := Aside0.mk hN; have HB3 := Aside0.mk hB; clear hN hB))
  have hll : l.length = n := HR.out.1
  obtain ⟨g, cap, rfl, hgb, hgl, cells, hcells⟩ := Kd.N_form HN.out (by omega)
  obtain ⟨cs, hcl, hFK, hcc, hfz⟩ := Kd.N_elem HN.out z33 0 (by omega) (by omega)
  obtain ⟨A5, c5, rfl, l5, F5⟩ := k33_openF hFK
  have HX := Aside0.mk (show Kd.FK k33 w3 (fun k => True ∧ k ≠ g) (setT (rd_T33 l 0) a) [.int .i64 (rd_T33 l 0).f0, .bool (rd_T33 l 0).f1, .string a, .string (rd_T33 l 0).f3, .slice A5 (rd_T33 l 0).f4.length c5] from k33_mkF w3 _ (setT (rd_T33 l 0) a) l5 F5)
  have HCC := Aside0.mk hcc
  have HL := Aside0.mk hll
  have b3 : (0 < l.length) = True := eq_true (by omega)
  clear hFK hcc hfz hcells hgl F5 l5 hcl d0 d1 d2 d3 d4 hll
  go_upto_region 8 with (first | (
    (with_reducible refine gate_st 9 43 41 rfl ?_)
    go_loud (refine Kd.N_store k33 (w0 := w1) w1.heap.size rfl rfl 9 (.tmp 43) (.tmp 41) rfl 33 (g := g) (n := l.length) (cap := cap) (o' := 2) 0 2 l (setT (rd_T33 l 0) a) (.string a) [.string a] _ (fun _ => True) (fun k => True ∧ k ≠ g) rfl rfl rfl rfl (by kernel_rfl) (by simp [Value.oneCell']) HN.out (by decide) (by have := HL.out; omega) rfl HCC.out (show 2 + 1 ≤ 5 by decide) HX.out (fun k hk => hk) HB3.out ?_)
    intro w4 hN hB hG
    have HN4 := Aside0.mk hN
    have HB4 := Aside0.mk hB
    clear hN hB hG))
  have h3 := Kd.N_reads' HN4.out
  rw [show l.set (Int.toNat 0) (setT (rd_T33 l 0) a) = _ from set0 l _ (by have := HL.out; omega)] at h3
  have HD := Aside0.mk h3.2.2
  have HLE := Aside0.mk h3.2.1
  clear h3
  by_cases ha : a.size = 0
  · obtain rfl : a = ⟨#[]⟩ := ByteArray.ext (Array.eq_empty_of_size_eq_zero ha)
    have b4 : (1 ≤ l.length) = True := eq_true (by have := HL.out; omega)
    have b5 : (l.length ≤ cap) = True := eq_true (by have := HLE.out; omega)
    have b6 : (1 ≤ cap) = True := eq_true (by have := HL.out; have := HLE.out; omega)
    have b7 : ¬ ((l.length : Int) < 1) := by have := HL.out; omega
    have HDD := Aside0.mk (show Kd.C k33 w4 (if cap = 1 then some ⟨g, 0, none⟩ else some ⟨g, 5, none⟩) (l.length - 1) (l.drop 1) by
      have hlx : (setT (rd_T33 l 0) (ByteArray.mk #[]) :: List.drop 1 l).length = l.length := by simp; have := HL.out; omega
      have h5 := Kd.C_drop (m := 1) (c := cap) HD.out (by rw [hlx]; have := HL.out; omega) (by rw [hlx]; exact HLE.out)
      rw [List.drop_succ_cons, List.drop_zero, List.length_drop] at h5
      exact h5)
    go_wp2
    · rename_i h
      go_ret3
      refine ⟨_, _, _, rfl, ?_, by have := HLE.out; omega, HB.out.trans (below_sub HB4.out HB.out.size)⟩
      have h5 := HDD.out
      rw [if_pos h] at h5
      rw [show restL l (ByteArray.mk #[]) = l.drop 1 from rfl]
      exact h5
    · rename_i h
      go_ret3
      refine ⟨_, _, _, rfl, ?_, by have := HLE.out; omega, HB.out.trans (below_sub HB4.out HB.out.size)⟩
      have h5 := HDD.out
      rw [if_neg h] at h5
      rw [show restL l (ByteArray.mk #[]) = l.drop 1 from rfl]
      exact h5
  · have hae : (a.toList == []) = false := by
      rw [beq_eq_false_iff_ne]
      intro e
      apply ha
      rw [Go.Lib.toList_data] at e
      have := data_length a
      rw [e] at this
      exact this.symm
    go_wp2
    go_ret3
    refine ⟨_, _, _, rfl, ?_, by have := HLE.out; omega, HB.out.trans (below_sub HB4.out HB.out.size)⟩
    have h5 := HD.out
    rw [show (setT (rd_T33 l 0) a :: List.drop 1 l).length = l.length by simp; have := HL.out; omega] at h5
    unfold restL
    rw [if_neg ha]
    exact h5
end
end Go.Proofs.YtkecpfjmdokieaaDoor.Word
/- strings.Builder, as the one field of a struct: copyCheck, WriteByte, WriteString, String. -/
namespace Go.Proofs.YtkecpfjmdokieaaDoor.BuilderW
open Go Go.RowKit Go.Proofs.YtkecpfjmdokieaaDoorW.PrintWords Go.Proofs.YtkecpfjmdokieaaDoor.Base
set_option linter.unusedVariables false
/-- A builder of the call's own at block b that holds the bytes l. -/
def Bld (w : World) (B b : Nat) (l : List UInt8) : Prop := Lib.IsBuilder 49 5 B b (Lib.byteCells l) w
theorem sizeBuilder : (Tryd.prog.info? 47).map (·.size) = some 2 := by kernel_rfl
theorem infoByte : (Tryd.prog.info? 5).map (fun i => (i.zero, i.size, i.bytes)) = some (some (.int .u8 0), 1, 1) := by kernel_rfl
theorem Bld_new {w : World} {g : Nat} {B : Nat} (hg : w.heap[g]? = some (.cells #[.pointer none, .slice none 0 0] 49 (0, 0))) (hB : B ≤ g) : Bld w B g [] :=
  .inl ⟨hB, _, hg, ⟨rfl, .inl ⟨rfl, rfl⟩⟩, by simp [Value.ownBlock]⟩
theorem Bld_below {w w1 : World} {B b : Nat} {l : List UInt8} (h : Bld w B b l) (hb : Below w.heap.size w w1) : Bld w1 B b l := by
  rcases h with ⟨hB, v, hg, hown, hne⟩ | ⟨hB, v, hg, hown, hne⟩
  · exact .inl ⟨hB, v, blk_below hg hb, pw_own_below hown hb, hne⟩
  · exact .inr ⟨hB, v, blk_below hg hb, pw_own_below hown hb, hne⟩
set_option maxHeartbeats 1000000 in
set_option maxRecDepth 100000 in
theorem check_used (b : Nat) (w : World) (h0 : w.cell? ⟨b, 0, none⟩ = some (.pointer (some ⟨b, 0, none⟩))) :
    Calls Tryd.prog 60 #[.pointer (some ⟨b, 0, none⟩)] w fun e w' => e = .returned (.tuple #[]) ∧ w = w' := by
  obtain ⟨j, hj, _⟩ := Option.map_eq_some_iff.1 sizeBuilder
  go_enter Tryd.func60, Tryd.ntmps60
  go_wp2
  rw [Lib.run_neq_ptr_same w _ Tryd.underlying44 hj]
  go_wp2
  go_end0
  exact ⟨rfl, rfl⟩
set_option maxHeartbeats 1000000 in
set_option maxRecDepth 100000 in
theorem check_fresh (b : Nat) (w : World) (h0 : w.cell? ⟨b, 0, none⟩ = some (.pointer none)) (hsh : w.shape? b = some (49, 2)) (hfz : w.frozen? ⟨b, 0, none⟩ = false) :
    Calls Tryd.prog 60 #[.pointer (some ⟨b, 0, none⟩)] w fun e w' => e = .returned (.tuple #[]) ∧ w' = w.setCell ⟨b, 0, none⟩ (.pointer (some ⟨b, 0, none⟩)) := by
  obtain ⟨j, hj, hjs⟩ := Option.map_eq_some_iff.1 sizeBuilder
  go_enter Tryd.func60, Tryd.ntmps60
  go_wp2
  rw [Lib.run_to_unsafe w ⟨b, 0, none⟩ Tryd.underlying44 Tryd.underlying86 hj (by rw [hjs]; decide) hsh (Nat.zero_lt_succ 1)]
  simp only [Result.andThen]
  rw [Oper.upon_value]
  go_wp2
  rw [run_callFunc_extern Tryd.func78 (by kernel_rfl) (by kernel_rfl) (by kernel_rfl) (e := Extern.AbiNoEscape.same) (by kernel_rfl)]
  rw [Lib.run_noEscape]
  simp only [Result.andThen]
  rw [Oper.upon_value]
  go_wp2
  rw [Lib.run_from_unsafe w ⟨b, 0, none⟩ Tryd.underlying86 Tryd.underlying44 hj hsh (by kernel_rfl)]
  simp only [Result.andThen]
  rw [Oper.upon_value]
  go_wp2
  go_end0
  exact ⟨rfl, rfl⟩
theorem check_any (B b : Nat) (l : List UInt8) (w : World) (h : Bld w B b l) :
    Calls Tryd.prog 60 #[.pointer (some ⟨b, 0, none⟩)] w fun e w' => e = .returned (.tuple #[]) ∧ (Lib.BuilderAt 49 5 B b (.pointer (some ⟨b, 0, none⟩)) (Lib.byteCells l) w' ∧ Below B w w') := by
  rcases h with h | h
  · refine (check_fresh b w h.cell0 h.shape h.frozen0).mono ?_
    rintro e w' ⟨rfl, rfl⟩
    exact ⟨rfl, h.used _, (Below.refl B w).setCell (p := ⟨b, 0, none⟩) h.1 _⟩
  · refine (check_used b w h.cell0).mono ?_
    rintro e w' ⟨rfl, rfl⟩
    exact ⟨rfl, h, Below.refl B _⟩
set_option maxHeartbeats 2000000 in
set_option maxRecDepth 100000 in
theorem writeByte_any (B b : Nat) (l : List UInt8) (c : UInt8) (w : World) (h : Bld w B b l) (hlen : l.length + 1 ≤ 140737488355328) (hBw : B ≤ w.heap.size) :
    Calls Tryd.prog 59 #[.pointer (some ⟨b, 0, none⟩), .int .u8 c.toNat] w fun e w' => e = .returned .nilIface ∧ Bld w' B b (l ++ [c]) ∧ Below B w w' := by
  obtain ⟨i0, hi, hz0, hz1, hz2⟩ := info_parts infoByte
  go_enter Tryd.func59, Tryd.ntmps59
  go_wp2_with fail
  refine (check_any B b l _ h).mono ?_
  rintro e w1 ⟨rfl, h1, hb1⟩
  obtain ⟨hB, v, hbk, hown, hne⟩ := h1
  have c0 : w1.cell? ⟨b, 0, none⟩ = some (.pointer (some ⟨b, 0, none⟩)) := by rw [Lib.cell_of_heap hbk]; rfl
  have c1 : w1.cell? ⟨b, 1, none⟩ = some v := by rw [Lib.cell_of_heap hbk]; rfl
  have HBK := Aside0.mk hbk
  have HOWN := Aside0.mk hown
  have HNE := Aside0.mk hne
  have HB1 := Aside0.mk hb1
  clear hbk hown hne hb1
  go_wp2_with ((with_reducible refine gate_dst (N := 14) rfl ?_)
               refine wpList_append_own _ rfl _ _ 45 rfl B 5 i0 (.int .u8 0) 1 1 Tryd.underlying45 hi hz0 hz1 hz2 rfl (by decide) _ _ _ rfl (HOWN.out.alloc _) ⟨w1.heap.size, 0, none⟩ 1 1 [.int .u8 c.toNat] rfl rfl ?c1 ?c2 ?c3 ?c4 ?c5 ?_)
  case c1 =>
    intro j u hj
    match j, hj with
    | 0, hj => simp at hj; subst hj; simp [Addr.add]
  case c2 => intro u hu; simp at hu; subst hu; rfl
  case c3 => rw [Lib.byteCells_length]; unfold maxLen; omega
  case c4 => rw [Lib.byteCells_length]; omega
  case c5 => have := HB1.out.size; simp; omega
  intro v' w2 hown' hgrow _
  have hlt := blk_lt HBK.out
  have hb2 : w2.heap[b]? = some (.cells #[.pointer (some ⟨b, 0, none⟩), v] 49 (0, 0)) := by
    rw [hgrow.block b (by simp; omega) (fun e => HNE.out e.symm), Lib.alloc_old w1 _ b hlt]
    exact HBK.out
  have d0 : w2.cell? ⟨b, 0, none⟩ = some (.pointer (some ⟨b, 0, none⟩)) := by rw [Lib.cell_of_heap hb2]; rfl
  have d1 : w2.cell? ⟨b, 1, none⟩ = some v := by rw [Lib.cell_of_heap hb2]; rfl
  have f1 : w2.frozen? ⟨b, 1, none⟩ = false := Lib.frozen_of_heap hb2 1
  obtain ⟨g, n', cap, rfl⟩ : ∃ g n' cap, v' = .slice (some ⟨g, 0, none⟩) n' cap := by
    rcases hown'.2 with ⟨_, h0⟩ | ⟨g, cap, cur, hv, _⟩
    · omega
    · exact ⟨g, _, cap, hv⟩
  have HB2 := Aside0.mk hb2
  have HO2 := Aside0.mk hown'
  have HG2 := Aside0.mk hgrow
  clear hb2 hown' hgrow
  go_wp2
  go_ret
  refine ⟨rfl, .inr ?_, ?_⟩
  · exact Lib.BuilderAt.put (T := 49) (e := 5) hB HB2.out (bs' := Lib.byteCells (l ++ [c])) (by simpa [Lib.byteCells] using HO2.out) (by decide)
  · exact ((HB1.out.alloc (by have := HB1.out.size; omega) _).grown HG2.out (by have := HB1.out.size; simp; omega) (fun k hk => (HOWN.out.lt k hk).1)).setCell (p := ⟨b, 1, none⟩) hB _
set_option maxHeartbeats 2000000 in
set_option maxRecDepth 100000 in
theorem writeString_any (B b : Nat) (l : List UInt8) (s : ByteArray) (w : World) (h : Bld w B b l) (hlen : l.length + s.size ≤ 140737488355328) (hBw : B ≤ w.heap.size) :
    Calls Tryd.prog 41 #[.pointer (some ⟨b, 0, none⟩), .string s] w fun e w' => e = .returned (.tuple #[.int .i64 s.size, .nilIface]) ∧ Bld w' B b (l ++ s.data.toList) ∧ Below B w w' := by
  obtain ⟨i0, hi, hz0, hz1, hz2⟩ := info_parts infoByte
  go_enter Tryd.func41, Tryd.ntmps41
  go_wp2_with fail
  refine (check_any B b l _ h).mono ?_
  rintro e w1 ⟨rfl, h1, hb1⟩
  obtain ⟨hB, v, hbk, hown, hne⟩ := h1
  have c0 : w1.cell? ⟨b, 0, none⟩ = some (.pointer (some ⟨b, 0, none⟩)) := by rw [Lib.cell_of_heap hbk]; rfl
  have c1 : w1.cell? ⟨b, 1, none⟩ = some v := by rw [Lib.cell_of_heap hbk]; rfl
  have HBK := Aside0.mk hbk
  have HOWN := Aside0.mk hown
  have HNE := Aside0.mk hne
  have HB1 := Aside0.mk hb1
  clear hbk hown hne hb1
  go_wp2_with ((with_reducible refine gate_dst (N := 14) rfl ?_)
               refine Lib.wpList_append_own_string w1 rfl _ _ 45 9 rfl B 5 i0 Tryd.underlying45 Tryd.underlying9 hi hz0 hz1 hz2 v _ _ rfl HOWN.out s rfl ?c3 ?c4 ?c5 ?_)
  case c3 => rw [Lib.byteCells_length]; unfold maxLen; omega
  case c4 => rw [Lib.byteCells_length]; omega
  case c5 => have := HB1.out.size; omega
  intro v' w2 hown' hgrow _
  have hlt := blk_lt HBK.out
  have hb2 : w2.heap[b]? = some (.cells #[.pointer (some ⟨b, 0, none⟩), v] 49 (0, 0)) := by
    rw [hgrow.block b hlt (fun e => HNE.out e.symm)]
    exact HBK.out
  have d0 : w2.cell? ⟨b, 0, none⟩ = some (.pointer (some ⟨b, 0, none⟩)) := by rw [Lib.cell_of_heap hb2]; rfl
  have d1 : w2.cell? ⟨b, 1, none⟩ = some v := by rw [Lib.cell_of_heap hb2]; rfl
  have f1 : w2.frozen? ⟨b, 1, none⟩ = false := Lib.frozen_of_heap hb2 1
  obtain ⟨g, n', cap, rfl⟩ : ∃ g n' cap, v' = .slice g n' cap := by
    rcases hown'.2 with ⟨hv, h0⟩ | ⟨g, cap, cur, hv, _⟩
    · exact ⟨none, 0, 0, hv⟩
    · exact ⟨_, _, cap, hv⟩
  have HB2 := Aside0.mk hb2
  have HO2 := Aside0.mk hown'
  have HG2 := Aside0.mk hgrow
  clear hb2 hown' hgrow
  go_wp2
  go_ret2
  refine ⟨rfl, .inr ?_, ?_⟩
  · exact Lib.BuilderAt.put (T := 49) (e := 5) hB HB2.out (bs' := Lib.byteCells (l ++ s.data.toList)) (by
      have e1 : Lib.byteCells (l ++ s.data.toList) = Lib.byteCells l ++ Lib.strCells s := by unfold Lib.byteCells Lib.strCells; rw [List.map_append]
      have e2 : (Lib.byteCells (l ++ s.data.toList)).length = (Lib.byteCells l).length + s.size := by rw [e1, List.length_append, Lib.strCells_length]
      rw [e2, e1]
      exact HO2.out) (by decide)
  · exact ((HB1.out).grown HG2.out (by have := HB1.out.size; omega) (fun k hk => (HOWN.out.lt k hk).1)).setCell (p := ⟨b, 1, none⟩) hB _
set_option maxHeartbeats 2000000 in
set_option maxRecDepth 100000 in
theorem string_any (B b : Nat) (l : List UInt8) (w : World) (h : Bld w B b l) (h0 : l ≠ []) :
    Calls Tryd.prog 26 #[.pointer (some ⟨b, 0, none⟩)] w fun e w' => e = .returned (.string ⟨l.toArray⟩) ∧ Below B w w' := by
  obtain ⟨p, hB, v, hbk, hown, hne⟩ : ∃ p, Lib.BuilderAt 49 5 B b p (Lib.byteCells l) w := by
    rcases h with h | h
    · exact ⟨_, h⟩
    · exact ⟨_, h⟩
  have hl0 : l.length ≠ 0 := by simpa using h0
  rw [Lib.byteCells_length] at hown
  rcases hown.2 with ⟨_, hz⟩ | ⟨g, cap, cur, rfl, hbg, hg, hnc, hcm, hcs, htake⟩
  · exact absurd hz hl0
  have c1 : w.drew.cell? ⟨b, 1, none⟩ = some (.slice (some ⟨g, 0, none⟩) l.length cap) := by
    have : w.drew.heap[b]? = some (.cells #[p, .slice (some ⟨g, 0, none⟩) l.length cap] 49 (0, 0)) := hbk
    rw [Lib.cell_of_heap this]; rfl
  have hSD : (Builtin.unsafeSliceData_ #[45] 69 #[.slice (some ⟨g, 0, none⟩) l.length cap]).run Tryd.prog w.drew = .ok (.pointer (some ⟨g, 0, none⟩)) w.drew :=
    Lib.run_unsafeSliceData_row _ _ _ _ _ _ (by omega)
  have hUS : (Builtin.unsafeString_ #[69, 3] 9 #[.pointer (some ⟨g, 0, none⟩), .int .i64 l.length]).run Tryd.prog w.drew = .ok (.string ⟨l.toArray⟩) (w.drew.freeze ⟨g, 0, none⟩ l.length) := by
    refine Lib.run_unsafeString_row w.drew 69 3 9 5 Tryd.underlying69 (by kernel_rfl) g cur.size (by have hg' : w.drew.heap[g]? = some (.cells cur 5 (0, 0)) := hg; simp [World.shape?, hg']) l h0 (by omega) (by unfold maxLen at hcm; omega) ?_
    intro j x hx
    exact hown.cells (g := g) rfl j (.int .u8 x.toNat) (by simp [Lib.byteCells, hx])
  clear hown hg hnc hcm hcs htake hne h h0 hl0
  have mixed : Tryd.prog.follows .mixedOrders = true := by kernel_rfl
  go_enter Tryd.func26, Tryd.ntmps26
  go_wp2
  go_region_o
  all_goals (go_wp2; go_ret; exact ⟨rfl, Lib.below_freeze (Below.drew (Below.refl B w)) (p := ⟨g, 0, none⟩) hbg _⟩)
set_option maxHeartbeats 2000000 in
set_option maxRecDepth 100000 in
theorem string_nil (B b : Nat) (p : Value) (w : World) (hbk : w.heap[b]? = some (.cells #[p, .slice none 0 0] 49 (0, 0))) :
    Calls Tryd.prog 26 #[.pointer (some ⟨b, 0, none⟩)] w fun e w' => e = .returned (.string ⟨#[]⟩) ∧ Below B w w' := by
  have hUS : ∀ W : World, (Builtin.unsafeString_ #[69, 3] 9 #[.pointer none, .int .i64 0]).run Tryd.prog W = .ok (.string .empty) W := fun W => Lib.run_unsafeString_none W _ _ _ none
  have c1 : w.drew.cell? ⟨b, 1, none⟩ = some (.slice none 0 0) := by
    have : w.drew.heap[b]? = some (.cells #[p, .slice none 0 0] 49 (0, 0)) := hbk
    rw [Lib.cell_of_heap this]; rfl
  have hSD : (Builtin.unsafeSliceData_ #[45] 69 #[.slice none 0 0]).run Tryd.prog w.drew = .ok (.pointer none) w.drew := rfl
  clear hbk
  have mixed : Tryd.prog.follows .mixedOrders = true := by kernel_rfl
  go_enter Tryd.func26, Tryd.ntmps26
  go_wp2
  go_region_o
  all_goals (go_wp2; go_ret; exact ⟨rfl, Below.drew (Below.refl B w)⟩)
end Go.Proofs.YtkecpfjmdokieaaDoor.BuilderW
/- a drawn region's operations: a call that is ready alone; a row of last ones. -/
namespace Go.Proofs.YtkecpfjmdokieaaDoor.Seq
open Go.RowKit Go.Proofs.YtkecpfjmdokieaaDoorW.PrintWords Go.Proofs.YtkecpfjmdokieaaDoorW.PrintLast Go.Proofs.YtkecpfjmdokieaaDoor.Base
set_option linter.unusedVariables false
section
variable {P : Program} {ops : Array Oper} {Q : Exit → Act → World → Prop} {S : World → Prop}
def opsAt (ops : Array Oper) (r : List (Nat × Option Tmp × K)) : List Oper := r.filterMap fun x => ops[x.1]?
def lastsB (ops : Array Oper) : List (Nat × Option Tmp × K) → Bool
  | [] => true
  | (i, _, .last) :: r => decide (i < ops.size) && lastsB ops r
  | _ => false
theorem s_tailL : ∀ (r : List (Nat × Option Tmp × K)) {a : Act} {w : World}, lastsB ops r = true → wpList P ops Q (opsAt ops r) a w → wpSeq P ops Q S r a w
  | [], a, w, ht, h => h
  | (i, N, .last) :: r, a, w, ht, h => by
    simp only [lastsB, Bool.and_eq_true, decide_eq_true_eq] at ht
    obtain ⟨hlt, ht⟩ := ht
    have ho : ops[i]? = some ops[i] := Array.getElem?_eq_getElem hlt
    have hd : opsAt ops ((i, N, K.last) :: r) = ops[i] :: opsAt ops r := by
      unfold opsAt
      rw [List.filterMap_cons]
      simp only [ho]
    rw [hd] at h
    unfold wpSeq wpOp
    simp only [ho]
    unfold wpList at h
    split
    · rename_i hw
      simp only [hw, if_true] at h
      exact h.imp (Oper.wp_mono fun a w hk => s_tailL r ht hk) id
    · rename_i hw
      simp only [hw] at h
      exact s_tailL r ht h
  | (i, _, .pure) :: r, a, w, ht, h => by simp [lastsB] at ht
  | (i, _, .held) :: r, a, w, ht, h => by simp [lastsB] at ht
  | (i, _, .one) :: r, a, w, ht, h => by simp [lastsB] at ht
/-- An operation that is ready alone (a call): S is shown behind it. -/
theorem s_oneL {i : Nat} {N : Option Tmp} {r : List (Nat × Option Tmp × K)} {o : Oper} {a : Act} {w : World} (ho : ops[i]? = some o)
    (h : ∀ K : Act → World → Prop, Shut (∀ a' w', S w' → wpSeq P ops Q S r a' w' → K a' w') → wpList P ops (Exit.then K Q) [o] a w) (hw : Region.wanted o (yielded ops a.tmps) = true) : wpSeq P ops Q S ((i, N, .one) :: r) a w := by
  unfold wpSeq wpOp
  simp only [ho, hw, if_true]
  have hK : Shut (∀ a' w', S w' → wpSeq P ops Q S r a' w' → (fun a' w' => (S w → S w') ∧ wpSeq P ops Q S r a' w') a' w') := fun a' w' hS hk => ⟨fun _ => hS, hk⟩
  have h1 := h _ hK
  unfold wpList at h1
  simp only [hw, if_true] at h1
  exact h1
end
end Go.Proofs.YtkecpfjmdokieaaDoor.Seq
/- word: the laws' own example. -/
namespace Go.Proofs.YtkecpfjmdokieaaDoor.Word
open Go.RowKit Go.Proofs.YtkecpfjmdokieaaDoorW.PrintWords Go.Proofs.YtkecpfjmdokieaaDoorW.PrintLast Go.Proofs.YtkecpfjmdokieaaDoor.Base Go.Proofs.YtkecpfjmdokieaaDoor.Seq Go.Proofs.YtkecpfjmdokieaaDoor.P Go.Proofs.YtkecpfjmdokieaaDoor.NodeOps
set_option linter.unusedVariables false
set_option linter.unusedSimpArgs false
set_option maxHeartbeats 2000000 in
set_option maxRecDepth 100000 in
theorem lit_q (k : Int) (t : ByteArray) (A : Option Addr) (c : Nat) (w : World) :
    Calls Tryd.prog 35 #[.agg #[.int .i64 k, .bool true, .string t, .string ⟨#[]⟩, .slice A 0 c], .int .i64 0] w fun e w' => e = .returned (.bool true) ∧ Below w.heap.size w w' := by
  have HB := Aside0.mk (below_alloc (Below.refl w.heap.size w) (.cells #[.int .i64 k, .bool true, .string t, .string ⟨#[]⟩, .slice A 0 c] 33))
  go_enter Tryd.func35, Tryd.ntmps35
  go_wp2
  go_ret
  exact ⟨rfl, HB.out⟩
/-- A text between marks, alone. -/
abbrev ptQ (t : ByteArray) : Pt := ⟨1, true, t, ⟨#[]⟩, []⟩
set_option maxHeartbeats 4000000 in
set_option maxRecDepth 100000 in
theorem parts_q (t : ByteArray) (A : Option Addr) (c : Nat) (w : World) (hr : Kd.C k33 w A 1 [ptQ t]) :
    Calls Tryd.prog 23 #[.slice A 1 c, .int .i64 0, .int .i64 1] w fun e w' => e = .returned (.bool true) ∧ Below w.heap.size w w' := by
  obtain ⟨ad, A4, c4, rfl, d0, d1, d2, d3, d4, _, _⟩ := at_T33 hr 0 (by omega) (by omega)
  simp only [Int.toNat_zero, Nat.zero_mul, Addr.add_zero'] at d0 d1 d2 d3 d4
  rw [show rd_T33 [ptQ t] 0 = ptQ t from rfl] at d0 d1 d2 d3 d4
  dsimp only [List.length_nil] at d0 d1 d2 d3 d4
  have HB := Aside0.mk (below_alloc (Below.refl w.heap.size w) (.cells #[.int .i64 1, .bool true, .string t, .string ⟨#[]⟩, .slice A4 0 c4] 33))
  have HG := Aside0.mk (blk_new w (.cells #[.int .i64 1, .bool true, .string t, .string ⟨#[]⟩, .slice A4 0 c4] 33))
  clear hr
  go_enter Tryd.func23, Tryd.ntmps23
  go_upto_region 2 with (fail)
  go_loopw [11] (fun v11 w' => (v11 = .int .i64 0 ∧ w' = w) ∨ (v11 = .int .i64 1 ∧ Aside0 (Below w.heap.size w w'))) (fun v11 _ => 1 - (intOf v11).toNat)
  case atStart => exact .inl ⟨rfl, rfl⟩
  case round =>
    rcases hrel with ⟨rfl, rfl⟩ | ⟨rfl, HB2⟩
    · go_upto_region 7 with (fail)
      generalize wr.alloc (.cells #[.int .i64 1, .bool true, .string t, .string ⟨#[]⟩, .slice A4 0 c4] 33) = wb at *
      generalize hg8 : wr.heap.size = g8 at HG ⊢
      have e0 : wb.cell? ⟨g8, 0, none⟩ = some (.int .i64 1) := (blk_cell HG.out 0).trans rfl
      have e1 : wb.cell? ⟨g8, 1, none⟩ = some (.bool true) := (blk_cell HG.out 1).trans rfl
      have e2 : wb.cell? ⟨g8, 2, none⟩ = some (.string t) := (blk_cell HG.out 2).trans rfl
      have e3 : wb.cell? ⟨g8, 3, none⟩ = some (.string ⟨#[]⟩) := (blk_cell HG.out 3).trans rfl
      have e4 : wb.cell? ⟨g8, 4, none⟩ = some (.slice A4 0 c4) := (blk_cell HG.out 4).trans rfl
      clear hg8
      refine region_seq (fun w_ => Below wb.heap.size wb w_) []
        [(1, some 21, .pure), (0, some 20, .held), (2, some 22, .one), (3, some 23, .pure), (4, some 24, .pure), (5, some 25, .pure), (6, some 26, .pure), (7, some 27, .pure), (8, some 28, .pure), (9, some 29, .pure), (10, some 30, .pure), (11, some 31, .pure), (12, some 32, .pure), (13, some 33, .held), (14, some 34, .pure), (15, some 35, .pure), (16, some 36, .pure), (17, some 37, .pure), (18, some 38, .pure), (19, some 39, .pure), (20, some 40, .pure), (21, some 41, .pure), (23, some 43, .pure), (22, some 42, .held), (24, some 44, .held), (25, some 45, .pure), (26, some 46, .pure), (27, some 47, .pure)] (by kernel_rfl) (by kernel_rfl) ?_
      have hS := below_drew (Below.refl wb.heap.size wb)
      repeat (first
        | (refine s_pure (v := ?_) (a' := ?_) rfl (fun _ _ _ h => h) rfl ?hy ?ha ?_; (case hy => (intro w_; go_simp; with_reducible rfl)); (case ha => (simp only [Act.put, List.setIfInBounds_toArray, List.set_cons_zero, List.set_cons_succ, i64_w, i32_w]; rfl)))
        | (refine s_held (v := ?_) (a' := ?_) hS rfl (fun _ _ _ h => h) rfl ?hy ?ha ?_; (case hy => (intro w_ hb_; have s0 := pw_cell_below hb_ e0; have s1 := pw_cell_below hb_ e1; have s2 := pw_cell_below hb_ e2; have s3 := pw_cell_below hb_ e3; have s4 := pw_cell_below hb_ e4; go_simp; with_reducible rfl)); (case ha => (simp only [Act.put, List.setIfInBounds_toArray, List.set_cons_zero, List.set_cons_succ, i64_w, i32_w]; rfl))))
      refine s_oneL rfl (fun K hK => ?_) rfl
      go_wp2_with (go_at_call 35; (with_reducible refine (lit_q 1 t A4 c4 _).mono ?_); rintro e w7 ⟨rfl, hB⟩)
      have hS2 : Below wb.heap.size wb w7 := hS.trans (below_sub hB hS.size)
      clear hB
      replace hS := hS2
      refine hK _ _ hS2 ?_
      clear hK
      repeat (first
        | (refine s_pure (v := ?_) (a' := ?_) rfl (fun _ _ _ h => h) rfl ?hy ?ha ?_; (case hy => (intro w_; go_simp; with_reducible rfl)); (case ha => (simp only [Act.put, List.setIfInBounds_toArray, List.set_cons_zero, List.set_cons_succ, i64_w, i32_w]; rfl)))
        | (refine s_held (v := ?_) (a' := ?_) hS rfl (fun _ _ _ h => h) rfl ?hy ?ha ?_; (case hy => (intro w_ hb_; have s0 := pw_cell_below hb_ e0; go_simp; with_reducible rfl)); (case ha => (simp only [Act.put, List.setIfInBounds_toArray, List.set_cons_zero, List.set_cons_succ, i64_w, i32_w]; rfl)))
        | (refine s_off (a' := ?_) rfl (fun _ _ _ h => h) rfl ?ha ?_; (case ha => (simp only [Act.put, List.setIfInBounds_toArray, List.set_cons_zero, List.set_cons_succ, i64_w, i32_w]; rfl)))
        | (refine s_offHeld (a' := ?_) hS rfl (fun _ _ _ h => h) rfl ?ha ?_; (case ha => (simp only [Act.put, List.setIfInBounds_toArray, List.set_cons_zero, List.set_cons_succ, i64_w, i32_w]; rfl)))
        | (refine s_offOne (a' := ?_) rfl rfl rfl ?ha ?_; (case ha => (simp only [Act.put, List.setIfInBounds_toArray, List.set_cons_zero, List.set_cons_succ, i64_w, i32_w]; rfl))))
      refine s_tailL _ (by kernel_rfl) ?_
      simp only [opsAt, List.filterMap_nil]
      have HS2 := Aside0.mk (HB.out.trans (below_sub hS2 HB.out.size))
      clear hS hS2 e0 e1 e2 e3 e4 d0 d1 d2 d3 d4
      go_wp2
      go_roundw
      case measure => simp [intOf]
      case rel => exact .inr ⟨by go_num, HS2⟩
    · go_wp2
      go_ret
      exact ⟨rfl, HB2.out⟩
set_option maxHeartbeats 2000000 in
set_option maxRecDepth 100000 in
theorem value_q (t : ByteArray) (A : Option Addr) (c : Nat) (w : World) (hr : Kd.C k33 w A 1 [ptQ t]) :
    Calls Tryd.prog 10 #[.slice A 1 c] w fun e w' => e = .returned (.bool true) ∧ Below w.heap.size w w' := by
  have HR := Aside0.mk hr
  clear hr
  go_enter Tryd.func10, Tryd.ntmps10
  go_wp2_with (go_at_call 23; (with_reducible refine (parts_q t A c _ HR.out).mono ?_); rintro e w1 ⟨rfl, hB⟩; have HB := Aside0.mk hB; clear hB)
  go_ret
  exact ⟨rfl, HB.out⟩
set_option maxHeartbeats 2000000 in
set_option maxRecDepth 100000 in
theorem right_q (t : ByteArray) (A : Option Addr) (c : Nat) (w : World) (hr : Kd.C k33 w A 1 [ptQ t]) :
    Calls Tryd.prog 8 #[.slice A 1 c] w fun e w' => e = .returned (.bool true) ∧ Below w.heap.size w w' := by
  obtain ⟨ad, A4, c4, rfl, d0, d1, d2, d3, d4, _, _⟩ := at_T33 hr 0 (by omega) (by omega)
  simp only [Int.toNat_zero, Nat.zero_mul, Addr.add_zero'] at d0 d1 d2 d3 d4
  rw [show rd_T33 [ptQ t] 0 = ptQ t from rfl] at d0 d1 d2 d3 d4
  dsimp only [List.length_nil] at d0 d1 d2 d3 d4
  have HR := Aside0.mk hr
  clear hr
  go_enter Tryd.func8, Tryd.ntmps8
  go_wp2_with (go_at_call 10; (with_reducible refine (value_q t (some ad) c _ HR.out).mono ?_); rintro e w1 ⟨rfl, hB⟩; have HB := Aside0.mk hB; replace d0 := pw_cell_below hB d0; replace d1 := pw_cell_below hB d1; clear hB)
  go_ret
  exact ⟨rfl, HB.out⟩
def WrOut (B b : Nat) (w w' : World) (e : Ending) (l : List UInt8) : Prop := e = .returned (.tuple #[]) ∧ BuilderW.Bld w' B b l ∧ Below B w w'
set_option maxHeartbeats 4000000 in
set_option maxRecDepth 100000 in
theorem write_q (t : ByteArray) (ht : t.size ≤ 1000000) (A : Option Addr) (c B b : Nat) (w : World) (hr : Kd.C k33 w A 1 [ptQ t]) (hb : BuilderW.Bld w B b []) (hBw : B ≤ w.heap.size) {m : Int} (hm : w.cell? ⟨0, 0, none⟩ = some (.int .i64 m)) :
    Calls Tryd.prog 25 #[.pointer (some ⟨b, 0, none⟩), .slice A 1 c, .bool false] w fun e w' => WrOut B b w w' e (quoteS t).data.toList := by
  obtain ⟨ad, A4, c4, rfl, d0, d1, d2, d3, d4, _, _⟩ := at_T33 hr 0 (by omega) (by omega)
  simp only [Int.toNat_zero, Nat.zero_mul, Addr.add_zero'] at d0 d1 d2 d3 d4
  rw [show rd_T33 [ptQ t] 0 = ptQ t from rfl] at d0 d1 d2 d3 d4
  dsimp only [List.length_nil] at d0 d1 d2 d3 d4
  have hal := below_alloc (Below.refl w.heap.size w) (.cells #[.int .i64 1, .bool true, .string t, .string ⟨#[]⟩, .slice A4 0 c4] 33)
  have HB := Aside0.mk hal
  have HG := Aside0.mk (blk_new w (.cells #[.int .i64 1, .bool true, .string t, .string ⟨#[]⟩, .slice A4 0 c4] 33))
  have HM := Aside0.mk (pw_cell_below hal hm)
  have HBD := Aside0.mk (BuilderW.Bld_below hb hal)
  have HBW := Aside0.mk hBw
  have HT := Aside0.mk ht
  have HLQ := Aside0.mk (show (quoteS t).size ≤ 5000000 by
    have h1 := qz_len t.data.toList
    rw [data_length] at h1
    show (List.toArray _).size ≤ _
    simp
    omega)
  clear hr hal hm hb hBw ht
  go_enter Tryd.func25, Tryd.ntmps25
  go_upto_region 1 with (fail)
  go_loopw [11] (fun v11 w' => (v11 = .int .i64 0 ∧ w' = w) ∨ (v11 = .int .i64 1 ∧ Aside0 (BuilderW.Bld w' B b (quoteS t).data.toList) ∧ Aside0 (Below B w w'))) (fun v11 _ => 1 - (intOf v11).toNat)
  case atStart => exact .inl ⟨rfl, rfl⟩
  case round =>
    rcases hrel with ⟨rfl, rfl⟩ | ⟨rfl, HB2, HB3⟩
    · go_upto_region 9 with (fail)
      generalize wr.alloc (.cells #[.int .i64 1, .bool true, .string t, .string ⟨#[]⟩, .slice A4 0 c4] 33) = wb at *
      generalize hg8 : wr.heap.size = g8 at HG ⊢
      have e0 : wb.cell? ⟨g8, 0, none⟩ = some (.int .i64 1) := (blk_cell HG.out 0).trans rfl
      have e1 : wb.cell? ⟨g8, 1, none⟩ = some (.bool true) := (blk_cell HG.out 1).trans rfl
      have e2 : wb.cell? ⟨g8, 2, none⟩ = some (.string t) := (blk_cell HG.out 2).trans rfl
      clear hg8
      go_upto_region 12 with (fail)
      refine region_seq (fun w_ => Below wb.heap.size wb w_) [6]
        [(0, some 64, .pure), (1, some 65, .pure), (2, some 66, .pure), (3, some 67, .pure), (4, some 68, .held), (5, some 69, .one), (6, some 70, .last)] (by kernel_rfl) (by kernel_rfl) ?_
      have hS := below_drew (Below.refl wb.heap.size wb)
      repeat (first
        | (refine s_pure (v := ?_) (a' := ?_) rfl (fun _ _ _ h => h) rfl ?hy ?ha ?_; (case hy => (intro w_; go_simp; with_reducible rfl)); (case ha => (simp only [Act.put, List.setIfInBounds_toArray, List.set_cons_zero, List.set_cons_succ, i64_w, i32_w]; rfl)))
        | (refine s_held (v := ?_) (a' := ?_) hS rfl (fun _ _ _ h => h) rfl ?hy ?ha ?_; (case hy => (intro w_ hb_; have s0 := pw_cell_below hb_ e0; have s1 := pw_cell_below hb_ e1; have s2 := pw_cell_below hb_ e2; go_simp; with_reducible rfl)); (case ha => (simp only [Act.put, List.setIfInBounds_toArray, List.set_cons_zero, List.set_cons_succ, i64_w, i32_w]; rfl))))
      refine s_oneL rfl (fun K hK => ?_) rfl
      go_wp2_with (go_at_call 17; (with_reducible refine (quote_any t m _ (pw_cell_below hS HM.out) HT.out).mono ?_); rintro e w7 ⟨rfl, hB⟩)
      have hS2 : Below wb.heap.size wb w7 := hS.trans (below_sub hB hS.size)
      clear hB
      replace hS := hS2
      refine hK _ _ hS2 ?_
      clear hK
      repeat (first
        | (refine s_pure (v := ?_) (a' := ?_) rfl (fun _ _ _ h => h) rfl ?hy ?ha ?_; (case hy => (intro w_; go_simp; with_reducible rfl)); (case ha => (simp only [Act.put, List.setIfInBounds_toArray, List.set_cons_zero, List.set_cons_succ, i64_w, i32_w]; rfl)))
        | (refine s_held (v := ?_) (a' := ?_) hS rfl (fun _ _ _ h => h) rfl ?hy ?ha ?_; (case hy => (intro w_ hb_; have s0 := pw_cell_below hb_ e0; go_simp; with_reducible rfl)); (case ha => (simp only [Act.put, List.setIfInBounds_toArray, List.set_cons_zero, List.set_cons_succ, i64_w, i32_w]; rfl))))
      refine s_tail 6 _ (by kernel_rfl) ?_
      simp only [List.drop_succ_cons, List.drop_zero]
      have HB7 := Aside0.mk (BuilderW.Bld_below HBD.out hS2)
      have HS7 := Aside0.mk ((HB.out.mono HBW.out).trans (hS2.mono (Nat.le_trans HBW.out HB.out.size)))
      clear hS hS2 e0 e1 e2 d0 d1 d2 d3 d4
      go_wp2_with (go_at_call 41; (with_reducible refine (BuilderW.writeString_any B b [] (quoteS t) _ HB7.out (by have := HLQ.out; simp; omega) (Nat.le_trans HBW.out HS7.out.size)).mono ?_); rintro e w8 ⟨rfl, hb8, hB8⟩; have HB8 := Aside0.mk hb8; have HS8 := Aside0.mk (HS7.out.trans hB8); clear hb8 hB8)
      go_roundw
      case measure => simp [intOf]
      case rel => exact .inr ⟨by go_num, HB8, HS8⟩
    · go_wp2
      go_end0
      exact ⟨rfl, HB2.out, HB3.out⟩
end Go.Proofs.YtkecpfjmdokieaaDoor.Word
/- word: the laws' own example: its text. -/
namespace Go.Proofs.YtkecpfjmdokieaaDoor.Word
open Go.RowKit Go.Proofs.YtkecpfjmdokieaaDoorW.PrintWords Go.Proofs.YtkecpfjmdokieaaDoorW.PrintLast Go.Proofs.YtkecpfjmdokieaaDoor.Base Go.Proofs.YtkecpfjmdokieaaDoor.Seq Go.Proofs.YtkecpfjmdokieaaDoor.P Go.Proofs.YtkecpfjmdokieaaDoor.NodeOps
set_option linter.unusedVariables false
set_option linter.unusedSimpArgs false
set_option maxHeartbeats 4000000 in
set_option maxRecDepth 100000 in
theorem text_q (t : ByteArray) (ht : t.size ≤ 1000000) (A : Option Addr) (c : Nat) (w : World) (hr : Kd.C k33 w A 1 [ptQ t]) {m : Int} (hm : w.cell? ⟨0, 0, none⟩ = some (.int .i64 m)) :
    Calls Tryd.prog 12 #[.slice A 1 c] w fun e w' => e = .returned (.string (quoteS t)) ∧ Below w.heap.size w w' := by
  have HR := Aside0.mk hr
  have HM := Aside0.mk hm
  have HT := Aside0.mk ht
  have HQ := Aside0.mk (show (quoteS t).data.toList ≠ [] by unfold quoteS; simp)
  have HQ2 := Aside0.mk (show (⟨(quoteS t).data.toList.toArray⟩ : ByteArray) = quoteS t by rfl)
  clear hr hm ht
  go_enter Tryd.func12, Tryd.ntmps12
  go_upto_region 4 with (go_at_call 10; (with_reducible refine (value_q t A c _ HR.out).mono ?_); rintro e w1 ⟨rfl, hB⟩; have HB := Aside0.mk hB; clear hB)
  have hal := below_alloc (Below.refl w1.heap.size w1) (.cells #[.pointer none, .slice none 0 0] 49)
  have HBD := Aside0.mk (BuilderW.Bld_new (B := w.heap.size) (blk_new w1 (.cells #[.pointer none, .slice none 0 0] 49)) HB.out.size)
  have HB2 := Aside0.mk (HB.out.trans (hal.mono HB.out.size))
  clear hal
  generalize w1.alloc (.cells #[.pointer none, .slice none 0 0] 49) = w2 at *
  generalize w1.heap.size = b at *
  go_wp2_with (first
    | (go_at_call 25; (with_reducible refine (write_q t HT.out A c w.heap.size b _ (Kd.C_below HR.out HB2.out) HBD.out HB2.out.size (pw_cell_below HB2.out HM.out)).mono ?_); rintro e w3 ⟨rfl, hb3, hB3⟩; have HBD3 := Aside0.mk hb3; have HB3 := Aside0.mk (HB2.out.trans hB3); clear hb3 hB3)
    | (go_at_call 26; go_loud (with_reducible refine (BuilderW.string_any w.heap.size b _ _ HBD3.out HQ.out).mono ?_); rintro e w4 ⟨rfl, hB4⟩; have HB4 := Aside0.mk (HB3.out.trans hB4); clear hB4))
  go_ret
  exact ⟨rfl, HB4.out⟩
theorem of_any (t : ByteArray) (w : World) : Calls Tryd.prog 19 #[.string t] w fun e w' => ∃ A c, e = .returned (.slice A 1 c) ∧ Kd.C k33 w' A 1 [ptQ t] ∧ 1 ≤ c ∧ Below w.heap.size w w' := by
  refine (word_Of.calls t [ptQ t] w rfl).mono ?_
  rintro e w' ⟨v, rfl, hR, hB⟩
  obtain ⟨A, n, c, rfl⟩ := R_slice3 hR
  obtain ⟨e1, e2, e3⟩ := Kd.R_reads' hR
  obtain rfl : n = 1 := e1
  exact ⟨A, c, rfl, e3, e2, hB⟩
set_option maxHeartbeats 4000000 in
set_option maxRecDepth 100000 in
theorem alive_any (w : World) {m : Int} (hm : w.cell? ⟨0, 0, none⟩ = some (.int .i64 m)) :
    Calls Tryd.prog 6 #[] w fun e w' => e = .returned (.bool true) ∧ Below w.heap.size w w' := by
  have HM := Aside0.mk hm
  have HQ := Aside0.mk (show quoteS ⟨#[97, 32, 98]⟩ = ⟨#[39, 97, 32, 98, 39]⟩ by kernel_rfl)
  have HBw := Aside0.mk (Below.refl w.heap.size w)
  clear hm
  go_enter Tryd.func6, Tryd.ntmps6
  go_wp2_with (first
    | (go_at_call 19; go_loud (with_reducible refine (of_any ⟨#[97, 32, 98]⟩ _).mono ?_); rintro e w1 ⟨A1, c1, rfl, hC, hc, hB⟩; have HC1 := Aside0.mk hC; have HBn := Aside0.mk (HBw.out.trans (below_sub hB HBw.out.size)); clear HBw hC hc hB; have HBw := HBn; clear HBn)
    | (go_at_call 12; go_loud (with_reducible refine (text_q ⟨#[97, 32, 98]⟩ (by decide) A1 c1 _ HC1.out (pw_cell_below HBw.out HM.out)).mono ?_); rintro e w2 ⟨rfl, hB⟩; rw [HQ.out]; have HBn := Aside0.mk (HBw.out.trans (below_sub hB HBw.out.size)); clear HBw hB; have HBw := HBn; clear HBn)
    | (go_at_call 8; go_loud (with_reducible refine (right_q ⟨#[97, 32, 98]⟩ A1 c1 _ HC1.out).mono ?_); rintro e w4 ⟨rfl, hB⟩; have HBn := Aside0.mk (HBw.out.trans (below_sub hB HBw.out.size)); clear HBw hB; have HBw := HBn; clear HBn))
  go_ret
  exact ⟨rfl, HBw.out⟩
end Go.Proofs.YtkecpfjmdokieaaDoor.Word
/- deadfallref03: Split and Rest, beside word.Split. -/
namespace Go.Proofs.YtkecpfjmdokieaaDoor.Word
open Go.RowKit Go.Proofs.YtkecpfjmdokieaaDoorW.PrintWords Go.Proofs.YtkecpfjmdokieaaDoorW.PrintLast Go.Proofs.YtkecpfjmdokieaaDoor.Base Go.Proofs.YtkecpfjmdokieaaDoor.P Go.Proofs.YtkecpfjmdokieaaDoor.NodeOps Go.Proofs.YtkecpfjmdokieaaDoor.Class
set_option linter.unusedVariables false
set_option linter.unusedSimpArgs false
theorem via2 {α : Type} {g f : Nat → Option α} {r : α} (h : Ev f r) (e : ∀ k, g k = f k) : Ev g r := by
  obtain ⟨k0, h0⟩ := h
  exact ⟨k0, fun k hk => by rw [e]; exact h0 k hk⟩
theorem bt_get (s : ByteArray) (k : Nat) (h : k < s.size) : ∃ b, s.data.toList[k]? = some b ∧ (b.toNat : Int) = bt s k := by
  have hk : k < s.data.toList.length := by rw [data_length]; exact h
  refine ⟨s.data.toList[k], List.getElem?_eq_getElem hk, ?_⟩
  rw [← bt_nat s k h]
  simp [ByteArray.getElem_eq_getElem_data]
theorem cut_none {s : ByteArray} (h : cutF s = false) (k : Nat) (hk : k < s.size) : bt s k ≠ 61 := by
  unfold cutF cutT Lib.cut at h
  rw [Lib.index_one] at h
  split at h
  · cases h
  · rename_i h0
    have h1 : Lib.indexByte s.data.toList 61 = -1 := by have := Lib.indexByte_ge s.data.toList 61; omega
    have h2 := Lib.indexByte_none h1 k
    obtain ⟨b, e1, e2⟩ := bt_get s k hk
    intro e
    apply h2
    rw [e1]
    congr 1
    apply UInt8.toNat_inj.1
    show b.toNat = 61
    omega
theorem cut_some {s : ByteArray} (h : cutF s = true) : ∃ i : Nat, i < s.size ∧ bt s i = 61 ∧ (∀ j : Nat, j < i → bt s j ≠ 61) ∧ cutB s = s.extract 0 i ∧ cutA s = s.extract (i + 1) s.size := by
  have hT : 0 ≤ Lib.indexByte s.data.toList 61 := by
    unfold cutF cutT Lib.cut at h
    rw [Lib.index_one] at h
    split at h
    · rename_i h0; exact h0
    · cases h
  obtain ⟨i, hi⟩ : ∃ i : Nat, Lib.indexByte s.data.toList 61 = (i : Int) := ⟨(Lib.indexByte s.data.toList 61).toNat, by omega⟩
  obtain ⟨h1, h2⟩ := Lib.indexByte_some hi
  have hlt : i < s.size := by
    have := (List.getElem?_eq_some_iff.1 h1).1
    rwa [data_length] at this
  have e : cutT s = (s.data.toList.take i, s.data.toList.drop (i + 1), true) := by
    unfold cutT Lib.cut
    rw [Lib.index_one, hi, if_pos (by omega)]
    rfl
  refine ⟨i, hlt, ?_, fun j hj => ?_, ?_, ?_⟩
  · obtain ⟨b, e1, e2⟩ := bt_get s i hlt
    rw [h1] at e1
    injection e1 with e1
    rw [← e2, ← e1]
    rfl
  · obtain ⟨b, e1, e2⟩ := bt_get s j (by omega)
    intro e3
    apply h2 j hj
    rw [e1]
    congr 1
    apply UInt8.toNat_inj.1
    show b.toNat = 61
    omega
  · unfold cutB
    rw [e]
    apply ByteArray.ext
    simp only [ByteArray.data_extract]
    apply Array.toList_inj.1
    rw [Array.toList_extract, List.extract_eq_take_drop]
    simp
  · unfold cutA
    rw [e]
    apply ByteArray.ext
    simp only [ByteArray.data_extract]
    apply Array.toList_inj.1
    rw [Array.toList_extract, List.extract_eq_take_drop]
    have := data_length s
    rw [List.take_of_length_le (by rw [List.length_drop]; omega)]
/-- Where a word's name ends. -/
def spI (l : List Pt) : Int := if l.length = 0 then -1 else if (hd0 l).f0 = 1 then (if (hd0 l).f1 = true then -1 else if cutF (hd0 l).f2 = true then (if nameB (cutB (hd0 l).f2) = true then ((cutB (hd0 l).f2).size : Int) else -1) else -1) else -1
theorem rsplit_loop (l : List Pt) (hl : 0 < l.length) (s : ByteArray) (hs : (rd_T33 l 0).f2 = s) (hz : s.size ≤ 1000000) (N : Nat) (hN : N ≤ s.size) (hno : ∀ j : Nat, j < N → bt s j ≠ 61) (r : Int)
    (hend : (N = s.size ∧ r = -1) ∨ (N < s.size ∧ bt s N = 61 ∧ r = if nameB (s.extract 0 N) = true then (N : Int) else -1)) :
    ∀ (d i : Nat), N - i ≤ d → i ≤ N → Ev (fun k => deadfallref03_Split.l0 k l (i : Int)) r := by
  have hend2 : ∀ k, deadfallref03_Split.l0 (k + 1) l (N : Int) = some r := by
    intro k
    rcases hend with ⟨h1, h2⟩ | ⟨h1, h2, h3⟩
    · rw [deadfallref03_Split.l0, if_pos (by omega), hs, if_neg (by omega), h2]
    · rw [deadfallref03_Split.l0, if_pos (by omega), hs, if_pos (by omega), if_pos (by omega), if_pos h2, if_pos (by omega), Int.toNat_natCast]
      have e : deadfallref02_Name.f (s.extract 0 N) = some (nameB (s.extract 0 N)) := by
        unfold deadfallref02_Name.f
        rw [if_pos (by rw [ByteArray.size_extract]; omega)]
      rw [e, Option.bind_some, h3]
      cases nameB (s.extract 0 N) <;> rfl
  intro d
  induction d with
  | zero =>
    intro i hd hi
    obtain rfl : i = N := by omega
    exact now hend2
  | succ d ih =>
    intro i hd hi
    by_cases hiN : i = N
    · subst hiN
      exact now hend2
    · have hw : wrap64 ((i : Int) + 1) = ((i + 1 : Nat) : Int) := by unfold wrap64; omega
      refine step (ih (i + 1) (by omega) (by omega)) fun k => ?_
      show deadfallref03_Split.l0 (k + 1) l (i : Int) = deadfallref03_Split.l0 k l ((i + 1 : Nat) : Int)
      rw [deadfallref03_Split.l0, if_pos (by omega), hs, if_pos (by omega), if_pos (by omega), if_neg (hno i (by omega)), hw]
theorem rsplit_ev (l : List Pt) (hz : (rd_T33 l 0).f2.size ≤ 1000000) : Ev (fun k => deadfallref03_Split.f k l) (spI l) := by
  unfold spI
  by_cases hl : l.length = 0
  · rw [if_pos hl]
    refine via2 (f := fun k => deadfallref03_Split.j0 k l true) (now fun k => ?_) fun k => ?_
    · rw [deadfallref03_Split.j0, if_pos rfl]
    · show deadfallref03_Split.f k l = _
      rw [deadfallref03_Split.f, if_pos (by omega)]
  · rw [if_neg hl]
    by_cases h0 : (hd0 l).f0 = 1
    · rw [if_pos h0]
      cases h1 : (hd0 l).f1 with
      | true =>
        rw [if_pos rfl]
        refine via2 (f := fun k => deadfallref03_Split.j0 k l true) (now fun k => ?_) fun k => ?_
        · rw [deadfallref03_Split.j0, if_pos rfl]
        · show deadfallref03_Split.f k l = _
          rw [deadfallref03_Split.f, if_neg (by omega), if_pos (by omega), if_pos h0, h1]
      | false =>
        rw [if_neg (by decide)]
        have key : ∀ r, Ev (fun k => deadfallref03_Split.l0 k l ((0 : Nat) : Int)) r → Ev (fun k => deadfallref03_Split.f k l) r := by
          intro r hr
          refine via2 (f := fun k => deadfallref03_Split.j0 k l false) (step hr fun k => ?_) fun k => ?_
          · rw [deadfallref03_Split.j0, if_neg (by decide)]; rfl
          · show deadfallref03_Split.f k l = _
            rw [deadfallref03_Split.f, if_neg (by omega), if_pos (by omega), if_pos h0, h1]
        refine key _ ?_
        cases hf : cutF (hd0 l).f2 with
        | false =>
          rw [if_neg (by decide)]
          exact rsplit_loop l (by omega) _ rfl hz _ (Nat.le_refl _) (fun j hj => cut_none hf j hj) (-1) (.inl ⟨rfl, rfl⟩) _ 0 (Nat.le_refl _) (Nat.zero_le _)
        | true =>
          rw [if_pos rfl]
          obtain ⟨i, hi, hb, hno, hB, hA⟩ := cut_some hf
          rw [hB]
          have hsz : ((hd0 l).f2.extract 0 i).size = i := by rw [ByteArray.size_extract]; omega
          rw [hsz]
          exact rsplit_loop l (by omega) _ rfl hz i (Nat.le_of_lt hi) hno _ (.inr ⟨hi, hb, rfl⟩) _ 0 (Nat.le_refl _) (Nat.zero_le _)
    · rw [if_neg h0]
      refine via2 (f := fun k => deadfallref03_Split.j0 k l true) (now fun k => ?_) fun k => ?_
      · rw [deadfallref03_Split.j0, if_pos rfl]
      · show deadfallref03_Split.f k l = _
        rw [deadfallref03_Split.f, if_neg (by omega), if_pos (by omega), if_neg h0]
theorem rsplit_any (l : List Pt) (hz : (rd_T33 l 0).f2.size ≤ 1000000) (A : Option Addr) (n c : Nat) (w : World) (hC : Kd.C k33 w A n l) (hc : n ≤ c) :
    Calls Tryd.prog 21 #[.slice A n c] w fun e w' => e = .returned (.int .i64 (spI l)) ∧ Below w.heap.size w w' := by
  obtain rfl := hC.1
  obtain ⟨K, hK⟩ := rsplit_ev l hz
  exact deadfallref03_Split.calls K A c l _ w hC hc (hK K (Nat.le_refl _))
/-- The word behind the name. -/
theorem rest_f (l : List Pt) (hl : 0 < l.length) (hln : l.length ≤ 1000000) (i : Nat) (hi : i < (hd0 l).f2.size) (hz : (hd0 l).f2.size ≤ 1000000) : deadfallref03_Rest.f l (i : Int) = some (restL l ((hd0 l).f2.extract (i + 1) (hd0 l).f2.size)) := by
  have hw : wrap64 ((i : Int) + 1) = ((i + 1 : Nat) : Int) := by unfold wrap64; omega
  have hsz : ((hd0 l).f2.extract (i + 1) (hd0 l).f2.size).size = (hd0 l).f2.size - (i + 1) := by rw [ByteArray.size_extract]; omega
  unfold deadfallref03_Rest.f restL
  rw [Option.bind_some, if_pos (by omega), hw]
  by_cases h : i + 1 < (hd0 l).f2.size
  · rw [if_pos (show ((rd_T33 l 0).f2.size : Int) > ((i + 1 : Nat) : Int) by have h2 : i + 1 < (rd_T33 l 0).f2.size := h; omega), if_pos (by omega), if_pos (show ((i + 1 : Nat) : Int) ≤ ((rd_T33 l 0).f2.size : Int) by have h2 : i + 1 < (rd_T33 l 0).f2.size := h; omega), if_pos (by simp), Option.bind_some, if_pos (by omega), Option.bind_some, if_pos (by simp; omega), if_neg (by rw [hsz]; omega), Int.toNat_natCast]
    rfl
  · rw [if_neg (show ¬ ((rd_T33 l 0).f2.size : Int) > ((i + 1 : Nat) : Int) by have h2 : ¬ i + 1 < (rd_T33 l 0).f2.size := h; omega), if_pos (by omega), Option.bind_some, if_pos (by simp; omega), if_pos (by rw [hsz]; omega)]
    rfl
theorem rrest_any (l : List Pt) (hl : 0 < l.length) (hln : l.length ≤ 1000000) (i : Nat) (hi : i < (hd0 l).f2.size) (hz : (hd0 l).f2.size ≤ 1000000) (A : Option Addr) (n c : Nat) (w : World) (hC : Kd.C k33 w A n l) (hc : n ≤ c) :
    Calls Tryd.prog 22 #[.slice A n c, .int .i64 (i : Int)] w fun e w' => ∃ V k q, e = .returned (.slice V k q) ∧ Kd.C k33 w' V k (restL l ((hd0 l).f2.extract (i + 1) (hd0 l).f2.size)) ∧ k ≤ q ∧ Below w.heap.size w w' := by
  obtain rfl := hC.1
  refine (deadfallref03_Rest.calls (fun k => k < w.heap.size) A c l (i : Int) _ w (Kd.V_mk hc (Kd.C_F pt_heap hC)) (rest_f l hl hln i hi hz)).mono ?_
  rintro e w' ⟨v, rfl, hN, hB⟩
  obtain ⟨V, q, rfl, h1, h2⟩ := Kd.N_reads hN
  exact ⟨V, _, q, rfl, h2, h1, hB⟩
end Go.Proofs.YtkecpfjmdokieaaDoor.Word
