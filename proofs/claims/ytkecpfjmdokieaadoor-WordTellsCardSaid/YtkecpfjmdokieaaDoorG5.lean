/- texts of this claim, one behind the other: P11 WordQuote WordRight WordInj P12 P13 WordWrit WordSplit WordAlive WordOut SeqTree -/
import Derived.Test.YtkecpfjmdokieaaDoorG4
import Derived.Lib.Replace
import Derived.Lib.SplitLaws
import Derived.Lib.SliceRun
namespace Go.Proofs.YtkecpfjmdokieaaDoor.P
open Go.RowKit Go.Proofs.YtkecpfjmdokieaaDoorW.PrintWords Go.Proofs.YtkecpfjmdokieaaDoorW.PrintLast Go.Proofs.YtkecpfjmdokieaaDoorW.PrintMore
attribute [local go_sem] max2_int min2_int max_two min_two max_three min_three max_four min_four   -- for this text's walks alone
set_option linter.unusedVariables false
set_option linter.unusedSimpArgs false
def deadfallref03_Value.f (k : Nat) (l0 : List (S33)) : Option (Bool) := (deadfallref03_Parts.f k l0 0 1).bind fun t155 => (some t155)
set_option maxHeartbeats 8000000 in
set_option maxRecDepth 100000 in
theorem deadfallref03_Value.calls (k : Nat) (A0 : Option Addr) (c0 : Nat) (l0 : List (S33)) (r : Bool) (w : World) (hr0 : Kd.C k33 w A0 l0.length l0) (hc0 : l0.length ≤ c0) (h : deadfallref03_Value.f k l0 = some r) :
    Calls Tryd.prog 11 #[.slice A0 l0.length c0] w fun e w' => e = .returned (.bool r) ∧ Below w.heap.size w w' := by
  have HR0 := Aside0.mk hr0
  have HC0 := Aside0.mk hc0
  clear hr0 hc0
  have HB := Aside0.mk (Below.refl w.heap.size w)
  have H : ((deadfallref03_Parts.f k l0 0 1).bind fun t155 => (some t155)) = some r := h
  clear h
  replace H := Option.bind_eq_some_iff.mp H
  obtain ⟨t155, A20, H⟩ := H
  replace H : (some t155) = some r := H
  have A2 := Aside0.mk A20
  clear A20
  obtain rfl := Option.some.inj H
  go_enter Tryd.func11, Tryd.ntmps11
  go_wp2_with (first | ((with_reducible refine gate_callee (f := 24) rfl ?_); refine goesL_ (some 4) rfl rfl Tryd.func24 (by kernel_rfl) rfl #[.slice A0 l0.length c0, .int .i64 0, .int .i64 1] rfl (by (try simp only [List.map_toArray, List.map_cons, List.map_nil]); first | done | rfl | (simp only [List.length_drop, List.length_take]; rfl)) ?_; (with_reducible refine (deadfallref03_Parts.calls k _ _ l0 0 1 t155 _ ?side1 ?side2 A2.out).mono ?_); (case side1 => repeat (first | exact HR0.out | (with_reducible refine Kd.C_alloc ?_ _) | (with_reducible refine Kd.C_drewN ?_ _) | (with_reducible refine Kd.C_drew ?_))); (case side2 => exact HC0.out); rintro e w3 ⟨rfl, hb⟩; refine ⟨_, rfl, ?_⟩; have n0_ := Aside0.mk (below_step (by repeat (first | (with_reducible first | exact HB.out | apply below_alloc | apply pw_below_drewN | apply below_drew1) | exact HB.out)) hb); clear HB; have HB := n0_; clear n0_; (try clear hb); (try clear hb2); (try clear hk); (try clear hi)))
  go_ret
  exact ⟨by first | rfl | (simp [errW_none, errW_some] <;> rfl) | (simp [*, errW_none, errW_some] <;> rfl), by repeat (first | (with_reducible first | exact HB.out | apply below_alloc | apply pw_below_drewN | apply below_drew1) | exact HB.out)⟩
def deadfallref03_Right.f (k : Nat) (l0 : List (S33)) : Option (Bool) := if (l0.length : Int) = 0 then (some false) else ((deadfallref03_Value.f k l0).bind fun t156 => (if t156 = true then (if 0 < (l0.length : Int) then (if ((rd_T33 l0 0).f0) = 2 then (some true) else (if (rd_T33 l0 0).f1 = true then (some true) else (if 0 < (((rd_T33 l0 0).f2).size : Int) then (some ((bt ((rd_T33 l0 0).f2) 0) != 35)) else (none)))) else (none)) else (some false)))
set_option maxHeartbeats 8000000 in
set_option maxRecDepth 100000 in
theorem deadfallref03_Right.calls (k : Nat) (A0 : Option Addr) (c0 : Nat) (l0 : List (S33)) (r : Bool) (w : World) (hr0 : Kd.C k33 w A0 l0.length l0) (hc0 : l0.length ≤ c0) (h : deadfallref03_Right.f k l0 = some r) :
    Calls Tryd.prog 9 #[.slice A0 l0.length c0] w fun e w' => e = .returned (.bool r) ∧ Below w.heap.size w w' := by
  have HR0 := Aside0.mk hr0
  have HC0 := Aside0.mk hc0
  clear hr0 hc0
  have HB := Aside0.mk (Below.refl w.heap.size w)
  have H : (if (l0.length : Int) = 0 then (some false) else ((deadfallref03_Value.f k l0).bind fun t156 => (if t156 = true then (if 0 < (l0.length : Int) then (if ((rd_T33 l0 0).f0) = 2 then (some true) else (if (rd_T33 l0 0).f1 = true then (some true) else (if 0 < (((rd_T33 l0 0).f2).size : Int) then (some ((bt ((rd_T33 l0 0).f2) 0) != 35)) else (none)))) else (none)) else (some false)))) = some r := h
  clear h
  by_cases c2 : (l0.length : Int) = 0
  · rw [if_pos c2] at H
    have c2b0 : ((l0.length : Int) == 0) = true := beq_iff_eq.mpr c2
    have c2b1 : ((l0.length : Int) != 0) = false := bne_eq_false_iff_eq.mpr c2
    clear c2
    obtain rfl := Option.some.inj H
    go_enter Tryd.func9, Tryd.ntmps9
    go_wp2
    go_ret
    exact ⟨by first | rfl | (simp [errW_none, errW_some] <;> rfl) | (simp [*, errW_none, errW_some] <;> rfl), by repeat (first | (with_reducible first | exact HB.out | apply below_alloc | apply pw_below_drewN | apply below_drew1) | exact HB.out)⟩
  · rw [if_neg c2] at H
    have c2b0 : ((l0.length : Int) == 0) = false := beq_eq_false_iff_ne.mpr c2
    have c2b1 : ((l0.length : Int) != 0) = true := bne_iff_ne.mpr c2
    have c2b2 : ¬ (l0 = []) := fun h_ => c2 (by rw [h_]; rfl)
    replace H := Option.bind_eq_some_iff.mp H
    obtain ⟨t156, A30, H⟩ := H
    replace H : (if t156 = true then (if 0 < (l0.length : Int) then (if ((rd_T33 l0 0).f0) = 2 then (some true) else (if (rd_T33 l0 0).f1 = true then (some true) else (if 0 < (((rd_T33 l0 0).f2).size : Int) then (some ((bt ((rd_T33 l0 0).f2) 0) != 35)) else (none)))) else (none)) else (some false)) = some r := H
    have A3 := Aside0.mk A30
    clear A30
    by_cases c4 : t156 = true
    · subst c4
      have H1 : (if 0 < (l0.length : Int) then (if ((rd_T33 l0 0).f0) = 2 then (some true) else (if (rd_T33 l0 0).f1 = true then (some true) else (if 0 < (((rd_T33 l0 0).f2).size : Int) then (some ((bt ((rd_T33 l0 0).f2) 0) != 35)) else (none)))) else (none)) = some r := by rw [if_pos rfl] at H; exact H
      clear H
      have H := H1
      clear H1
      by_cases c5 : 0 < (l0.length : Int)
      · rw [if_pos c5] at H
        have c5b0 : decide (0 < (l0.length : Int)) = true := decide_eq_true c5
        have c5b1 : decide (0 < l0.length) = true := decide_eq_true (by omega)
        clear c5
        by_cases c6 : ((rd_T33 l0 0).f0) = 2
        · rw [if_pos c6] at H
          have c6b0 : (((rd_T33 l0 0).f0) == 2) = true := beq_iff_eq.mpr c6
          have c6b1 : (((rd_T33 l0 0).f0) != 2) = false := bne_eq_false_iff_eq.mpr c6
          clear c6
          obtain rfl := Option.some.inj H
          go_enter Tryd.func9, Tryd.ntmps9
          go_wp2_with (first | (go_at_call 11; (with_reducible refine (deadfallref03_Value.calls k _ _ l0 true _ ?side1 ?side2 A3.out).mono ?_); (case side1 => repeat (first | exact HR0.out | (with_reducible refine Kd.C_alloc ?_ _) | (with_reducible refine Kd.C_drewN ?_ _) | (with_reducible refine Kd.C_drew ?_))); (case side2 => exact HC0.out); rintro e w7 ⟨rfl, hb⟩; have n0_ := Aside0.mk (below_step (by repeat (first | (with_reducible first | exact HB.out | apply below_alloc | apply pw_below_drewN | apply below_drew1) | exact HB.out)) hb); clear HB; have HB := n0_; clear n0_; (try clear hb); (try clear hb2); (try clear hk); (try clear hi); have p157 : 0 ≤ (0 : Int) := (by omega); have q157 : 0 < (l0.length : Int) := of_decide_eq_true (by first | (with_reducible assumption) | assumption); obtain ⟨ad157, A157_4, c157_4, e157, hx157_0, hx157_1, hx157_2, hx157_3, hx157_4, hl157_4, hi157_4⟩ := at_T33 HR0.out 0 p157 q157; cases e157; have qi157 : (0 < l0.length) = True := eq_true (by omega); (try rw [show ((0 : Int)).toNat = 0 from rfl] at hx157_0); (try rw [show 0 * 5 = 0 from rfl] at hx157_0); (try rw [Addr.add_zero'] at hx157_0); (try rw [show ((0 : Int)).toNat = 0 from rfl] at hx157_1); (try rw [show 0 * 5 = 0 from rfl] at hx157_1); (try rw [Addr.add_zero'] at hx157_1); (try rw [show ((0 : Int)).toNat = 0 from rfl] at hx157_2); (try rw [show 0 * 5 = 0 from rfl] at hx157_2); (try rw [Addr.add_zero'] at hx157_2); (try rw [show ((0 : Int)).toNat = 0 from rfl] at hx157_3); (try rw [show 0 * 5 = 0 from rfl] at hx157_3); (try rw [Addr.add_zero'] at hx157_3); (try rw [show ((0 : Int)).toNat = 0 from rfl] at hx157_4); (try rw [show 0 * 5 = 0 from rfl] at hx157_4); (try rw [Addr.add_zero'] at hx157_4); replace hx157_0 := (HB.out.cell (World.block_lt_of_cell? w _ hx157_0)).trans hx157_0; replace hx157_1 := (HB.out.cell (World.block_lt_of_cell? w _ hx157_1)).trans hx157_1; replace hx157_2 := (HB.out.cell (World.block_lt_of_cell? w _ hx157_2)).trans hx157_2; replace hx157_3 := (HB.out.cell (World.block_lt_of_cell? w _ hx157_3)).trans hx157_3; replace hx157_4 := (HB.out.cell (World.block_lt_of_cell? w _ hx157_4)).trans hx157_4; have HR157_4 := Aside0.mk hi157_4; have HC157_4 := Aside0.mk hl157_4; clear hi157_4 hl157_4; replace p157 := eq_true p157; replace q157 := eq_true q157))
          go_ret
          exact ⟨by first | rfl | (simp [errW_none, errW_some] <;> rfl) | (simp [*, errW_none, errW_some] <;> rfl), by repeat (first | (with_reducible first | exact HB.out | apply below_alloc | apply pw_below_drewN | apply below_drew1) | exact HB.out)⟩
        · rw [if_neg c6] at H
          have c6b0 : (((rd_T33 l0 0).f0) == 2) = false := beq_eq_false_iff_ne.mpr c6
          have c6b1 : (((rd_T33 l0 0).f0) != 2) = true := bne_iff_ne.mpr c6
          obtain ⟨bq8, hbq8⟩ : ∃ b_ : Bool, b_ = ((rd_T33 l0 0).f1) := ⟨_, rfl⟩
          replace H : (if bq8 = true then (some true) else (if 0 < (((rd_T33 l0 0).f2).size : Int) then (some ((bt ((rd_T33 l0 0).f2) 0) != 35)) else (none))) = some r := by rw [← hbq8] at H; exact H
          have Nbq8 := Aside0.mk hbq8
          clear hbq8
          by_cases c9 : bq8 = true
          · subst c9
            have H1 : (some true) = some r := by rw [if_pos rfl] at H; exact H
            clear H
            have H := H1
            clear H1
            obtain rfl := Option.some.inj H
            go_enter Tryd.func9, Tryd.ntmps9
            go_wp2_with (first | (go_at_call 11; (with_reducible refine (deadfallref03_Value.calls k _ _ l0 true _ ?side1 ?side2 A3.out).mono ?_); (case side1 => repeat (first | exact HR0.out | (with_reducible refine Kd.C_alloc ?_ _) | (with_reducible refine Kd.C_drewN ?_ _) | (with_reducible refine Kd.C_drew ?_))); (case side2 => exact HC0.out); rintro e w10 ⟨rfl, hb⟩; have n0_ := Aside0.mk (below_step (by repeat (first | (with_reducible first | exact HB.out | apply below_alloc | apply pw_below_drewN | apply below_drew1) | exact HB.out)) hb); clear HB; have HB := n0_; clear n0_; (try clear hb); (try clear hb2); (try clear hk); (try clear hi); have p157 : 0 ≤ (0 : Int) := (by omega); have q157 : 0 < (l0.length : Int) := of_decide_eq_true (by first | (with_reducible assumption) | assumption); obtain ⟨ad157, A157_4, c157_4, e157, hx157_0, hx157_1, hx157_2, hx157_3, hx157_4, hl157_4, hi157_4⟩ := at_T33 HR0.out 0 p157 q157; (try rw [← Nbq8.out] at hx157_1); cases e157; have qi157 : (0 < l0.length) = True := eq_true (by omega); (try rw [show ((0 : Int)).toNat = 0 from rfl] at hx157_0); (try rw [show 0 * 5 = 0 from rfl] at hx157_0); (try rw [Addr.add_zero'] at hx157_0); (try rw [show ((0 : Int)).toNat = 0 from rfl] at hx157_1); (try rw [show 0 * 5 = 0 from rfl] at hx157_1); (try rw [Addr.add_zero'] at hx157_1); (try rw [show ((0 : Int)).toNat = 0 from rfl] at hx157_2); (try rw [show 0 * 5 = 0 from rfl] at hx157_2); (try rw [Addr.add_zero'] at hx157_2); (try rw [show ((0 : Int)).toNat = 0 from rfl] at hx157_3); (try rw [show 0 * 5 = 0 from rfl] at hx157_3); (try rw [Addr.add_zero'] at hx157_3); (try rw [show ((0 : Int)).toNat = 0 from rfl] at hx157_4); (try rw [show 0 * 5 = 0 from rfl] at hx157_4); (try rw [Addr.add_zero'] at hx157_4); replace hx157_0 := (HB.out.cell (World.block_lt_of_cell? w _ hx157_0)).trans hx157_0; replace hx157_1 := (HB.out.cell (World.block_lt_of_cell? w _ hx157_1)).trans hx157_1; replace hx157_2 := (HB.out.cell (World.block_lt_of_cell? w _ hx157_2)).trans hx157_2; replace hx157_3 := (HB.out.cell (World.block_lt_of_cell? w _ hx157_3)).trans hx157_3; replace hx157_4 := (HB.out.cell (World.block_lt_of_cell? w _ hx157_4)).trans hx157_4; have HR157_4 := Aside0.mk hi157_4; have HC157_4 := Aside0.mk hl157_4; clear hi157_4 hl157_4; replace p157 := eq_true p157; replace q157 := eq_true q157; have p158 : 0 ≤ (0 : Int) := (by omega); have q158 : 0 < (l0.length : Int) := of_decide_eq_true (by first | (with_reducible assumption) | assumption); obtain ⟨ad158, A158_4, c158_4, e158, hx158_0, hx158_1, hx158_2, hx158_3, hx158_4, hl158_4, hi158_4⟩ := at_T33 HR0.out 0 p158 q158; (try rw [← Nbq8.out] at hx158_1); obtain rfl : ad157 = ad158 := (by injection e158); have qi158 : (0 < l0.length) = True := eq_true (by omega); (try rw [show ((0 : Int)).toNat = 0 from rfl] at hx158_0); (try rw [show 0 * 5 = 0 from rfl] at hx158_0); (try rw [Addr.add_zero'] at hx158_0); (try rw [show ((0 : Int)).toNat = 0 from rfl] at hx158_1); (try rw [show 0 * 5 = 0 from rfl] at hx158_1); (try rw [Addr.add_zero'] at hx158_1); (try rw [show ((0 : Int)).toNat = 0 from rfl] at hx158_2); (try rw [show 0 * 5 = 0 from rfl] at hx158_2); (try rw [Addr.add_zero'] at hx158_2); (try rw [show ((0 : Int)).toNat = 0 from rfl] at hx158_3); (try rw [show 0 * 5 = 0 from rfl] at hx158_3); (try rw [Addr.add_zero'] at hx158_3); (try rw [show ((0 : Int)).toNat = 0 from rfl] at hx158_4); (try rw [show 0 * 5 = 0 from rfl] at hx158_4); (try rw [Addr.add_zero'] at hx158_4); replace hx158_0 := (HB.out.cell (World.block_lt_of_cell? w _ hx158_0)).trans hx158_0; replace hx158_1 := (HB.out.cell (World.block_lt_of_cell? w _ hx158_1)).trans hx158_1; replace hx158_2 := (HB.out.cell (World.block_lt_of_cell? w _ hx158_2)).trans hx158_2; replace hx158_3 := (HB.out.cell (World.block_lt_of_cell? w _ hx158_3)).trans hx158_3; replace hx158_4 := (HB.out.cell (World.block_lt_of_cell? w _ hx158_4)).trans hx158_4; have HR158_4 := Aside0.mk hi158_4; have HC158_4 := Aside0.mk hl158_4; clear hi158_4 hl158_4; replace p158 := eq_true p158; replace q158 := eq_true q158; have ea_ := Option.some.inj (hx157_4.symm.trans hx158_4); injection ea_ with ea_ en_ ec_; subst ea_; subst ec_; clear en_))
            go_ret
            exact ⟨by first | rfl | (simp [errW_none, errW_some] <;> rfl) | (simp [*, errW_none, errW_some] <;> rfl), by repeat (first | (with_reducible first | exact HB.out | apply below_alloc | apply pw_below_drewN | apply below_drew1) | exact HB.out)⟩
          · replace c9 := Bool.eq_false_iff.mpr c9
            subst c9
            have H1 : (if 0 < (((rd_T33 l0 0).f2).size : Int) then (some ((bt ((rd_T33 l0 0).f2) 0) != 35)) else (none)) = some r := by rw [if_neg (show ¬ (false = true) by decide)] at H; exact H
            clear H
            have H := H1
            clear H1
            by_cases c11 : 0 < (((rd_T33 l0 0).f2).size : Int)
            · rw [if_pos c11] at H
              have c11b0 : decide (0 < (((rd_T33 l0 0).f2).size : Int)) = true := decide_eq_true c11
              have c11b1 : decide (0 < ((rd_T33 l0 0).f2).size) = true := decide_eq_true (by omega)
              clear c11
              obtain rfl := Option.some.inj H
              go_enter Tryd.func9, Tryd.ntmps9
              go_wp2_with (first | (go_at_call 11; (with_reducible refine (deadfallref03_Value.calls k _ _ l0 true _ ?side1 ?side2 A3.out).mono ?_); (case side1 => repeat (first | exact HR0.out | (with_reducible refine Kd.C_alloc ?_ _) | (with_reducible refine Kd.C_drewN ?_ _) | (with_reducible refine Kd.C_drew ?_))); (case side2 => exact HC0.out); rintro e w13 ⟨rfl, hb⟩; have n0_ := Aside0.mk (below_step (by repeat (first | (with_reducible first | exact HB.out | apply below_alloc | apply pw_below_drewN | apply below_drew1) | exact HB.out)) hb); clear HB; have HB := n0_; clear n0_; (try clear hb); (try clear hb2); (try clear hk); (try clear hi); have p157 : 0 ≤ (0 : Int) := (by omega); have q157 : 0 < (l0.length : Int) := of_decide_eq_true (by first | (with_reducible assumption) | assumption); obtain ⟨ad157, A157_4, c157_4, e157, hx157_0, hx157_1, hx157_2, hx157_3, hx157_4, hl157_4, hi157_4⟩ := at_T33 HR0.out 0 p157 q157; (try rw [← Nbq8.out] at hx157_1); cases e157; have qi157 : (0 < l0.length) = True := eq_true (by omega); (try rw [show ((0 : Int)).toNat = 0 from rfl] at hx157_0); (try rw [show 0 * 5 = 0 from rfl] at hx157_0); (try rw [Addr.add_zero'] at hx157_0); (try rw [show ((0 : Int)).toNat = 0 from rfl] at hx157_1); (try rw [show 0 * 5 = 0 from rfl] at hx157_1); (try rw [Addr.add_zero'] at hx157_1); (try rw [show ((0 : Int)).toNat = 0 from rfl] at hx157_2); (try rw [show 0 * 5 = 0 from rfl] at hx157_2); (try rw [Addr.add_zero'] at hx157_2); (try rw [show ((0 : Int)).toNat = 0 from rfl] at hx157_3); (try rw [show 0 * 5 = 0 from rfl] at hx157_3); (try rw [Addr.add_zero'] at hx157_3); (try rw [show ((0 : Int)).toNat = 0 from rfl] at hx157_4); (try rw [show 0 * 5 = 0 from rfl] at hx157_4); (try rw [Addr.add_zero'] at hx157_4); replace hx157_0 := (HB.out.cell (World.block_lt_of_cell? w _ hx157_0)).trans hx157_0; replace hx157_1 := (HB.out.cell (World.block_lt_of_cell? w _ hx157_1)).trans hx157_1; replace hx157_2 := (HB.out.cell (World.block_lt_of_cell? w _ hx157_2)).trans hx157_2; replace hx157_3 := (HB.out.cell (World.block_lt_of_cell? w _ hx157_3)).trans hx157_3; replace hx157_4 := (HB.out.cell (World.block_lt_of_cell? w _ hx157_4)).trans hx157_4; have HR157_4 := Aside0.mk hi157_4; have HC157_4 := Aside0.mk hl157_4; clear hi157_4 hl157_4; replace p157 := eq_true p157; replace q157 := eq_true q157; have p158 : 0 ≤ (0 : Int) := (by omega); have q158 : 0 < (l0.length : Int) := of_decide_eq_true (by first | (with_reducible assumption) | assumption); obtain ⟨ad158, A158_4, c158_4, e158, hx158_0, hx158_1, hx158_2, hx158_3, hx158_4, hl158_4, hi158_4⟩ := at_T33 HR0.out 0 p158 q158; (try rw [← Nbq8.out] at hx158_1); obtain rfl : ad157 = ad158 := (by injection e158); have qi158 : (0 < l0.length) = True := eq_true (by omega); (try rw [show ((0 : Int)).toNat = 0 from rfl] at hx158_0); (try rw [show 0 * 5 = 0 from rfl] at hx158_0); (try rw [Addr.add_zero'] at hx158_0); (try rw [show ((0 : Int)).toNat = 0 from rfl] at hx158_1); (try rw [show 0 * 5 = 0 from rfl] at hx158_1); (try rw [Addr.add_zero'] at hx158_1); (try rw [show ((0 : Int)).toNat = 0 from rfl] at hx158_2); (try rw [show 0 * 5 = 0 from rfl] at hx158_2); (try rw [Addr.add_zero'] at hx158_2); (try rw [show ((0 : Int)).toNat = 0 from rfl] at hx158_3); (try rw [show 0 * 5 = 0 from rfl] at hx158_3); (try rw [Addr.add_zero'] at hx158_3); (try rw [show ((0 : Int)).toNat = 0 from rfl] at hx158_4); (try rw [show 0 * 5 = 0 from rfl] at hx158_4); (try rw [Addr.add_zero'] at hx158_4); replace hx158_0 := (HB.out.cell (World.block_lt_of_cell? w _ hx158_0)).trans hx158_0; replace hx158_1 := (HB.out.cell (World.block_lt_of_cell? w _ hx158_1)).trans hx158_1; replace hx158_2 := (HB.out.cell (World.block_lt_of_cell? w _ hx158_2)).trans hx158_2; replace hx158_3 := (HB.out.cell (World.block_lt_of_cell? w _ hx158_3)).trans hx158_3; replace hx158_4 := (HB.out.cell (World.block_lt_of_cell? w _ hx158_4)).trans hx158_4; have HR158_4 := Aside0.mk hi158_4; have HC158_4 := Aside0.mk hl158_4; clear hi158_4 hl158_4; replace p158 := eq_true p158; replace q158 := eq_true q158; have ea_ := Option.some.inj (hx157_4.symm.trans hx158_4); injection ea_ with ea_ en_ ec_; subst ea_; subst ec_; clear en_; have p159 : 0 ≤ (0 : Int) := (by omega); have q159 : 0 < (l0.length : Int) := of_decide_eq_true (by first | (with_reducible assumption) | assumption); obtain ⟨ad159, A159_4, c159_4, e159, hx159_0, hx159_1, hx159_2, hx159_3, hx159_4, hl159_4, hi159_4⟩ := at_T33 HR0.out 0 p159 q159; (try rw [← Nbq8.out] at hx159_1); obtain rfl : ad157 = ad159 := (by injection e159); have qi159 : (0 < l0.length) = True := eq_true (by omega); (try rw [show ((0 : Int)).toNat = 0 from rfl] at hx159_0); (try rw [show 0 * 5 = 0 from rfl] at hx159_0); (try rw [Addr.add_zero'] at hx159_0); (try rw [show ((0 : Int)).toNat = 0 from rfl] at hx159_1); (try rw [show 0 * 5 = 0 from rfl] at hx159_1); (try rw [Addr.add_zero'] at hx159_1); (try rw [show ((0 : Int)).toNat = 0 from rfl] at hx159_2); (try rw [show 0 * 5 = 0 from rfl] at hx159_2); (try rw [Addr.add_zero'] at hx159_2); (try rw [show ((0 : Int)).toNat = 0 from rfl] at hx159_3); (try rw [show 0 * 5 = 0 from rfl] at hx159_3); (try rw [Addr.add_zero'] at hx159_3); (try rw [show ((0 : Int)).toNat = 0 from rfl] at hx159_4); (try rw [show 0 * 5 = 0 from rfl] at hx159_4); (try rw [Addr.add_zero'] at hx159_4); replace hx159_0 := (HB.out.cell (World.block_lt_of_cell? w _ hx159_0)).trans hx159_0; replace hx159_1 := (HB.out.cell (World.block_lt_of_cell? w _ hx159_1)).trans hx159_1; replace hx159_2 := (HB.out.cell (World.block_lt_of_cell? w _ hx159_2)).trans hx159_2; replace hx159_3 := (HB.out.cell (World.block_lt_of_cell? w _ hx159_3)).trans hx159_3; replace hx159_4 := (HB.out.cell (World.block_lt_of_cell? w _ hx159_4)).trans hx159_4; have HR159_4 := Aside0.mk hi159_4; have HC159_4 := Aside0.mk hl159_4; clear hi159_4 hl159_4; replace p159 := eq_true p159; replace q159 := eq_true q159; have ea_ := Option.some.inj (hx157_4.symm.trans hx159_4); injection ea_ with ea_ en_ ec_; subst ea_; subst ec_; clear en_; have p12 : 0 ≤ (0 : Int) := (by omega); have q12 : 0 < ((rd_T33 l0 0).f2).size := (by have : (0 : Int) < (((rd_T33 l0 0).f2).size : Int) := of_decide_eq_true (by first | (with_reducible assumption) | assumption); omega); have hx12 : ∀ h : 0 < ((rd_T33 l0 0).f2).size, ((((rd_T33 l0 0).f2)[0]'h).toNat : Int) = bt ((rd_T33 l0 0).f2) 0 := bt_at ((rd_T33 l0 0).f2) 0; clear p12; have qi12 : (0 < (((rd_T33 l0 0).f2).size : Int)) = True := eq_true (of_decide_eq_true (by first | (with_reducible assumption) | assumption)); replace q12 := eq_true q12))
              go_ret
              exact ⟨by first | rfl | (simp [errW_none, errW_some] <;> rfl) | (simp [*, errW_none, errW_some] <;> rfl), by repeat (first | (with_reducible first | exact HB.out | apply below_alloc | apply pw_below_drewN | apply below_drew1) | exact HB.out)⟩
            · rw [if_neg c11] at H
              exact absurd H (by simp)
      · rw [if_neg c5] at H
        exact absurd H (by simp)
    · replace c4 := Bool.eq_false_iff.mpr c4
      subst c4
      have H1 : (some false) = some r := by rw [if_neg (show ¬ (false = true) by decide)] at H; exact H
      clear H
      have H := H1
      clear H1
      obtain rfl := Option.some.inj H
      go_enter Tryd.func9, Tryd.ntmps9
      go_wp2_with (first | (go_at_call 11; (with_reducible refine (deadfallref03_Value.calls k _ _ l0 false _ ?side1 ?side2 A3.out).mono ?_); (case side1 => repeat (first | exact HR0.out | (with_reducible refine Kd.C_alloc ?_ _) | (with_reducible refine Kd.C_drewN ?_ _) | (with_reducible refine Kd.C_drew ?_))); (case side2 => exact HC0.out); rintro e w14 ⟨rfl, hb⟩; have n0_ := Aside0.mk (below_step (by repeat (first | (with_reducible first | exact HB.out | apply below_alloc | apply pw_below_drewN | apply below_drew1) | exact HB.out)) hb); clear HB; have HB := n0_; clear n0_; (try clear hb); (try clear hb2); (try clear hk); (try clear hi)))
      go_ret
      exact ⟨by first | rfl | (simp [errW_none, errW_some] <;> rfl) | (simp [*, errW_none, errW_some] <;> rfl), by repeat (first | (with_reducible first | exact HB.out | apply below_alloc | apply pw_below_drewN | apply below_drew1) | exact HB.out)⟩
def deadfallref03_Quote.l0 : Nat → ByteArray → List Int → Int → Option (ByteArray)
  | 0, _, _, _ => none
  | k + 1, x0, x3, x4 => if x4 < (x0.size : Int) then (if 0 ≤ x4 then (if x3.length < 140737488355328 then ((some (x3 ++ [bt x0 x4] : List Int)).bind fun y163 => (if (bt x0 x4) = 39 then ((some (([92, 39, 39] : List Int) : List Int)).bind fun y166 => (if y163.length + y166.length < 140737488355328 then (deadfallref03_Quote.l0 k x0 (y163 ++ y166) (wrap64 (x4 + 1))) else (none))) else (deadfallref03_Quote.l0 k x0 y163 (wrap64 (x4 + 1))))) else (none)) else (none)) else (if x3.length < 140737488355328 then (some (strOfNums (x3 ++ [39]))) else (none))
def deadfallref03_Quote.f (k : Nat) (a0 : ByteArray) : Option (ByteArray) := deadfallref03_Quote.l0 k a0 (([39] : List Int)) 0
set_option maxHeartbeats 8000000 in
set_option maxRecDepth 100000 in
theorem deadfallref03_Quote.calls (k : Nat) (a0 : ByteArray) (r : ByteArray) (w : World) (h : deadfallref03_Quote.f k a0 = some r) :
    Calls Tryd.prog 18 #[.string a0] w fun e w' => e = .returned (.string r) ∧ Below w.heap.size w w' := by
  have HB := Aside0.mk (Below.refl w.heap.size w)
  have H : (deadfallref03_Quote.l0 k a0 (([39] : List Int)) 0) = some r := h
  clear h
  obtain ⟨y160, hy160⟩ : ∃ y_ : List Int, y_ = (([39] : List Int)) := ⟨_, rfl⟩
  replace H : (deadfallref03_Quote.l0 k a0 y160 0) = some r := by first | (rw [hy160]; with_reducible exact H) | (have H2_ := (Option.bind_some _ _).symm.trans H; rw [hy160]; with_reducible exact H2_) | (have H2_ := (Option.bind_some _ _).symm.trans H; with_reducible exact H2_) | with_reducible exact H | (rw [hy160]; exact H) | exact H
  have Ny160 := Aside0.mk hy160
  clear hy160
  have H' := Aside0.mk H
  clear H
  go_enter Tryd.func18, Tryd.ntmps18
  go_wp2_with (first | ((with_reducible refine gate_dst (N := 5) rfl ?_); refine Kd.R_lit (Kd.int .u8) _ 5 ?hg (N := 5) ?hd (xs := ([39] : List Int)) (inner := [.int .u8 39]) (ok := fun _ => True) (okp := fun _ => True) ?hr ?hp (fun _ hk => hk) trivial (Below.refl _ _) (Nat.le_refl _) (by simp) ?_; (case hd => rfl); (case hg => rfl); (case hr => first | (go_simp; done) | (go_simp; rfl)); (case hp => exact (Reps.one (show Kd.M (Kd.int .u8) _ _ _ 39 [.int .u8 39] from rfl) (Reps.none _ _))); intro v161 w2 ho3 hb hg_ hnew_; clear hg_ hnew_; (first | rw [← Ny160.out] at ho3 | (simp only [Int.reduceToNat] at ho3; rw [← Ny160.out] at ho3)); have n0_ := Aside0.mk (Kd.R_lower ho3 (below_size (by repeat (first | (with_reducible first | exact HB.out | apply below_alloc | apply pw_below_drewN | apply below_drew1) | exact HB.out)))); have n1_ := Aside0.mk (below_step (by repeat (first | (with_reducible first | exact HB.out | apply below_alloc | apply pw_below_drewN | apply below_drew1) | exact HB.out)) hb); clear HB; have HO162 := n0_; have HB := n1_; clear n0_ n1_; clear hb ho3))
  go_loopg [3, 4] k (fun kq v3 v4 w' => ∃ (x3_1 : List Int) (x4_1 : Int), v4 = .int .i64 x4_1 ∧ Aside0 (deadfallref03_Quote.l0 kq a0 x3_1 x4_1 = some r) ∧ Aside0 (kq ≤ k) ∧ Aside0 (Kd.R (Kd.int .u8) 5 w' w.heap.size (fun _ => True) v3 x3_1) ∧ Aside0 (Below w.heap.size w w'))
  case atStart => exact ⟨(y160), (0), (by first | rfl | (simp; done) | (simp [*]; done)), H', ⟨Nat.le_refl _⟩, ⟨by (with_reducible repeat (first | apply Kd.R_alloc | apply Kd.R_drewN | apply Kd.R_drew)); exact HO162.out⟩, ⟨by repeat (first | (with_reducible first | exact HB.out | apply below_alloc | apply pw_below_drewN | apply below_drew1) | exact HB.out)⟩⟩
  case round =>
    clear H'
    try clear c1
    try clear p2
    obtain ⟨x3_1, x4_1, rfl, HA, HK1, HO_3, HB⟩ := hrel
    cases gk with
    | zero => exact absurd HA.out (by simp [deadfallref03_Quote.l0])
    | succ k1 =>
      have H := HA.out
      clear HA
      simp only [deadfallref03_Quote.l0] at H
      by_cases c4 : x4_1 < (a0.size : Int)
      · rw [if_pos c4] at H
        have c4b0 : decide (x4_1 < (a0.size : Int)) = true := decide_eq_true c4
        clear c4
        by_cases c5 : 0 ≤ x4_1
        · rw [if_pos c5] at H
          have c5b0 : decide (0 ≤ x4_1) = true := decide_eq_true c5
          clear c5
          by_cases c7 : x3_1.length < 140737488355328
          · rw [if_pos c7] at H
            have LMc7 := Aside0.mk c7
            clear c7
            obtain ⟨y163, hy163⟩ : ∃ y_ : List Int, y_ = (x3_1 ++ [bt a0 x4_1]) := ⟨_, rfl⟩
            replace H : (if (bt a0 x4_1) = 39 then ((some (([92, 39, 39] : List Int) : List Int)).bind fun y166 => (if y163.length + y166.length < 140737488355328 then (deadfallref03_Quote.l0 k1 a0 (y163 ++ y166) (wrap64 (x4_1 + 1))) else (none))) else (deadfallref03_Quote.l0 k1 a0 y163 (wrap64 (x4_1 + 1)))) = some r := by first | (rw [hy163]; with_reducible exact H) | (have H2_ := (Option.bind_some _ _).symm.trans H; rw [hy163]; with_reducible exact H2_) | (have H2_ := (Option.bind_some _ _).symm.trans H; with_reducible exact H2_) | with_reducible exact H | (rw [hy163]; exact H) | exact H
            have Ny163 := Aside0.mk hy163
            clear hy163
            by_cases c9 : (bt a0 x4_1) = 39
            · rw [if_pos c9] at H
              have c9b0 : ((bt a0 x4_1) == 39) = true := beq_iff_eq.mpr c9
              have c9b1 : ((bt a0 x4_1) != 39) = false := bne_eq_false_iff_eq.mpr c9
              clear c9
              obtain ⟨y166, hy166⟩ : ∃ y_ : List Int, y_ = (([92, 39, 39] : List Int)) := ⟨_, rfl⟩
              replace H : (if y163.length + y166.length < 140737488355328 then (deadfallref03_Quote.l0 k1 a0 (y163 ++ y166) (wrap64 (x4_1 + 1))) else (none)) = some r := by first | (rw [hy166]; with_reducible exact H) | (have H2_ := (Option.bind_some _ _).symm.trans H; rw [hy166]; with_reducible exact H2_) | (have H2_ := (Option.bind_some _ _).symm.trans H; with_reducible exact H2_) | with_reducible exact H | (rw [hy166]; exact H) | exact H
              have Ny166 := Aside0.mk hy166
              clear hy166
              by_cases c10 : y163.length + y166.length < 140737488355328
              · rw [if_pos c10] at H
                have LMc10 := Aside0.mk c10
                clear c10
                obtain ⟨y169, hy169⟩ : ∃ y_ : List Int, y_ = (y163 ++ y166) := ⟨_, rfl⟩
                replace H : (deadfallref03_Quote.l0 k1 a0 y169 (wrap64 (x4_1 + 1))) = some r := by first | (rw [hy169]; with_reducible exact H) | (have H2_ := (Option.bind_some _ _).symm.trans H; rw [hy169]; with_reducible exact H2_) | (have H2_ := (Option.bind_some _ _).symm.trans H; with_reducible exact H2_) | with_reducible exact H | (rw [hy169]; exact H) | exact H
                have Ny169 := Aside0.mk hy169
                clear hy169
                have H' := Aside0.mk H
                clear H
                have p6 : 0 ≤ (x4_1 : Int) := of_decide_eq_true (by first | (with_reducible assumption) | assumption)
                have q6 : x4_1 < (a0.size : Int) := of_decide_eq_true (by first | (with_reducible assumption) | assumption)
                have hx6 := bt_at a0 x4_1
                replace p6 := eq_true p6
                replace q6 := eq_true q6
                go_wp2_with (first | ((with_reducible refine gate_builtin (b := .append) (xs := #[.tmp 12, .tmp 16]) rfl ?_); at_builtin; refine Kd.R_append (Kd.int .u8) (w0 := w) w.heap.size rfl (.tmp 12) (.tmp 16) 45 5 (.int .u8 0) 1 rfl Tryd.underlying45 info5 rfl (by decide) (by omega) u3 x3_1 (bt a0 x4_1) [.int .u8 (bt a0 x4_1)] (fun _ => True) (fun _ => False) rfl rfl ?aP (fun _ hk => hk.elim) ?aF ?aO ?aB ?aS ?aL ?_; (case aP => exact rfl); (case aB => exact (by repeat (first | (with_reducible first | exact HB.out | apply below_alloc | apply pw_below_drewN | apply below_drew1) | exact HB.out))); (case aF => exact (fun _ _ => trivial)); (case aO => exact (by (with_reducible repeat (first | apply Kd.R_alloc | apply Kd.R_drewN | apply Kd.R_drew)); exact HO_3.out)); (case aS => exact (below_size (by repeat (first | (with_reducible first | exact HB.out | apply below_alloc | apply pw_below_drewN | apply below_drew1) | exact HB.out)))); (case aL => have := LMc7.out; omega); intro v164 w11 ho hb hg hat; rw [← Ny163.out] at ho; have n0_ := Aside0.mk (hb); have n1_ := Aside0.mk (ho); clear HB; clear HO_3; have HB := n0_; have HO165 := n1_; clear n0_ n1_; clear ho hb hg hat; have p8 : 0 ≤ (x4_1 : Int) := of_decide_eq_true (by first | (with_reducible assumption) | assumption); have q8 : x4_1 < (a0.size : Int) := of_decide_eq_true (by first | (with_reducible assumption) | assumption); have hx8 := bt_at a0 x4_1; replace p8 := eq_true p8; replace q8 := eq_true q8) | ((with_reducible refine gate_dst (N := 23) rfl ?_); refine Kd.R_lit (Kd.int .u8) _ 5 ?hg (N := 23) ?hd (xs := ([92, 39, 39] : List Int)) (inner := [.int .u8 92, .int .u8 39, .int .u8 39]) (ok := fun _ => True) (okp := fun _ => True) ?hr ?hp (fun _ hk => hk) trivial (Below.refl _ _) (Nat.le_refl _) (by simp) ?_; (case hd => rfl); (case hg => rfl); (case hr => first | (go_simp; done) | (go_simp; rfl)); (case hp => exact (Reps.one (show Kd.M (Kd.int .u8) _ _ _ 92 [.int .u8 92] from rfl) (Reps.one (show Kd.M (Kd.int .u8) _ _ _ 39 [.int .u8 39] from rfl) (Reps.one (show Kd.M (Kd.int .u8) _ _ _ 39 [.int .u8 39] from rfl) (Reps.none _ _))))); intro v167 w12 ho13 hb hg_ hnew_; clear hg_ hnew_; (first | rw [← Ny166.out] at ho13 | (simp only [Int.reduceToNat] at ho13; rw [← Ny166.out] at ho13)); have n0_ := Aside0.mk (Kd.R_elder' (by (with_reducible repeat (first | apply Kd.R_alloc | apply Kd.R_drewN | apply Kd.R_drew)); exact HO165.out) (Kd.R_base ho13) hb); have n1_ := Aside0.mk (Kd.R_lower (Kd.R_new' ho13 (Kd.R_lt (by (with_reducible repeat (first | apply Kd.R_alloc | apply Kd.R_drewN | apply Kd.R_drew)); exact HO165.out))) (below_size (by repeat (first | (with_reducible first | exact HB.out | apply below_alloc | apply pw_below_drewN | apply below_drew1) | exact HB.out)))); have n2_ := Aside0.mk (below_step (by repeat (first | (with_reducible first | exact HB.out | apply below_alloc | apply pw_below_drewN | apply below_drew1) | exact HB.out)) hb); clear HO165; clear HB; have HO165 := n0_; have HO168 := n1_; have HB := n2_; clear n0_ n1_ n2_; clear hb ho13; obtain ⟨Ao15, co15, eo15⟩ := Kd.R_slice HO168.out; subst eo15) | ((with_reducible refine gate_builtin (b := .append) (xs := #[.tmp 22, .tmp 23]) rfl ?_); at_builtin; refine Kd.R_append_rows (Kd.int .u8) (w0 := w) w.heap.size rfl (.tmp 22) (.tmp 23) 45 5 (.int .u8 0) 1 rfl Tryd.underlying45 info5 rfl (by decide) (by omega) v164 y163 y166 _ _ _ (fun k_ => some k_ ≠ (.slice Ao15 y166.length co15 : Value).ownBlock) (fun _ => False) rfl rfl ?aO ?aR (fun _ _ h => h) (fun _ h => h.elim) ?aF ?aB ?aS ?aL ?_; (case aR => repeat (first | exact (Kd.R_reads' HO168.out).2.2 | (with_reducible refine Kd.C_alloc ?_ _) | (with_reducible refine Kd.C_drewN ?_ _) | (with_reducible refine Kd.C_drew ?_))); (case aB => exact (by repeat (first | (with_reducible first | exact HB.out | apply below_alloc | apply pw_below_drewN | apply below_drew1) | exact HB.out))); (case aF => exact (fun k_ hk => Kd.fresh' (Kd.R_lt (by (with_reducible repeat (first | apply Kd.R_alloc | apply Kd.R_drewN | apply Kd.R_drew)); exact HO168.out)) k_ hk)); (case aO => exact (by (with_reducible repeat (first | apply Kd.R_alloc | apply Kd.R_drewN | apply Kd.R_drew)); exact Kd.R_mono HO165.out (fun _ hk => hk.2))); (case aS => exact (below_size (by repeat (first | (with_reducible first | exact HB.out | apply below_alloc | apply pw_below_drewN | apply below_drew1) | exact HB.out)))); (case aL => have := LMc10.out; omega); intro v170 w14 ho hb hg hat; rw [← Ny169.out] at ho; have n0_ := Aside0.mk (Kd.R_after (ok := (fun _ => True)) (by (with_reducible repeat (first | apply Kd.R_alloc | apply Kd.R_drewN | apply Kd.R_drew)); exact HO168.out) hg hat); have n1_ := Aside0.mk (hb); have n2_ := Aside0.mk (ho); clear HO168; clear HB; clear HO165; have HO168 := n0_; have HB := n1_; have HO171 := n2_; clear n0_ n1_ n2_; clear ho hb hg hat))
                go_roundg k1
                case measure => have := HK1.out; omega
                case rel => exact ⟨(y169), (wrap64 (x4_1 + 1)), (by first | rfl | (simp; done) | (simp [*]; done)), H', ⟨by have := HK1.out; omega⟩, ⟨by (with_reducible repeat (first | apply Kd.R_alloc | apply Kd.R_drewN | apply Kd.R_drew)); exact Kd.R_mono HO171.out (fun _ hk => trivial)⟩, ⟨by repeat (first | (with_reducible first | exact HB.out | apply below_alloc | apply pw_below_drewN | apply below_drew1) | exact HB.out)⟩⟩
              · rw [if_neg c10] at H
                exact absurd H (by simp)
            · rw [if_neg c9] at H
              have c9b0 : ((bt a0 x4_1) == 39) = false := beq_eq_false_iff_ne.mpr c9
              have c9b1 : ((bt a0 x4_1) != 39) = true := bne_iff_ne.mpr c9
              have H' := Aside0.mk H
              clear H
              have p6 : 0 ≤ (x4_1 : Int) := of_decide_eq_true (by first | (with_reducible assumption) | assumption)
              have q6 : x4_1 < (a0.size : Int) := of_decide_eq_true (by first | (with_reducible assumption) | assumption)
              have hx6 := bt_at a0 x4_1
              replace p6 := eq_true p6
              replace q6 := eq_true q6
              go_wp2_with (first | ((with_reducible refine gate_builtin (b := .append) (xs := #[.tmp 12, .tmp 16]) rfl ?_); at_builtin; refine Kd.R_append (Kd.int .u8) (w0 := w) w.heap.size rfl (.tmp 12) (.tmp 16) 45 5 (.int .u8 0) 1 rfl Tryd.underlying45 info5 rfl (by decide) (by omega) u3 x3_1 (bt a0 x4_1) [.int .u8 (bt a0 x4_1)] (fun _ => True) (fun _ => False) rfl rfl ?aP (fun _ hk => hk.elim) ?aF ?aO ?aB ?aS ?aL ?_; (case aP => exact rfl); (case aB => exact (by repeat (first | (with_reducible first | exact HB.out | apply below_alloc | apply pw_below_drewN | apply below_drew1) | exact HB.out))); (case aF => exact (fun _ _ => trivial)); (case aO => exact (by (with_reducible repeat (first | apply Kd.R_alloc | apply Kd.R_drewN | apply Kd.R_drew)); exact HO_3.out)); (case aS => exact (below_size (by repeat (first | (with_reducible first | exact HB.out | apply below_alloc | apply pw_below_drewN | apply below_drew1) | exact HB.out)))); (case aL => have := LMc7.out; omega); intro v164 w16 ho hb hg hat; rw [← Ny163.out] at ho; have n0_ := Aside0.mk (hb); have n1_ := Aside0.mk (ho); clear HB; clear HO_3; have HB := n0_; have HO165 := n1_; clear n0_ n1_; clear ho hb hg hat; have p8 : 0 ≤ (x4_1 : Int) := of_decide_eq_true (by first | (with_reducible assumption) | assumption); have q8 : x4_1 < (a0.size : Int) := of_decide_eq_true (by first | (with_reducible assumption) | assumption); have hx8 := bt_at a0 x4_1; replace p8 := eq_true p8; replace q8 := eq_true q8))
              go_roundg k1
              case measure => have := HK1.out; omega
              case rel => exact ⟨(y163), (wrap64 (x4_1 + 1)), (by first | rfl | (simp; done) | (simp [*]; done)), H', ⟨by have := HK1.out; omega⟩, ⟨by (with_reducible repeat (first | apply Kd.R_alloc | apply Kd.R_drewN | apply Kd.R_drew)); exact HO165.out⟩, ⟨by repeat (first | (with_reducible first | exact HB.out | apply below_alloc | apply pw_below_drewN | apply below_drew1) | exact HB.out)⟩⟩
          · rw [if_neg c7] at H
            exact absurd H (by simp)
        · rw [if_neg c5] at H
          exact absurd H (by simp)
      · rw [if_neg c4] at H
        have c4b0 : decide (x4_1 < (a0.size : Int)) = false := decide_eq_false c4
        clear c4
        by_cases c17 : x3_1.length < 140737488355328
        · rw [if_pos c17] at H
          have LMc17 := Aside0.mk c17
          clear c17
          obtain ⟨y172, hy172⟩ : ∃ y_ : List Int, y_ = (x3_1 ++ [39]) := ⟨_, rfl⟩
          replace H : (some (strOfNums y172)) = some r := by first | (rw [hy172]; with_reducible exact H) | (have H2_ := (Option.bind_some _ _).symm.trans H; rw [hy172]; with_reducible exact H2_) | (have H2_ := (Option.bind_some _ _).symm.trans H; with_reducible exact H2_) | with_reducible exact H | (rw [hy172]; exact H) | exact H
          have Ny172 := Aside0.mk hy172
          clear hy172
          obtain rfl := Option.some.inj H
          go_wp2_with (first | ((with_reducible refine gate_builtin (b := .append) (xs := #[.tmp 25, .tmp 26]) rfl ?_); at_builtin; refine Kd.R_append (Kd.int .u8) (w0 := w) w.heap.size rfl (.tmp 25) (.tmp 26) 45 5 (.int .u8 0) 1 rfl Tryd.underlying45 info5 rfl (by decide) (by omega) u3 x3_1 39 [.int .u8 39] (fun _ => True) (fun _ => False) rfl rfl ?aP (fun _ hk => hk.elim) ?aF ?aO ?aB ?aS ?aL ?_; (case aP => exact rfl); (case aB => exact (by repeat (first | (with_reducible first | exact HB.out | apply below_alloc | apply pw_below_drewN | apply below_drew1) | exact HB.out))); (case aF => exact (fun _ _ => trivial)); (case aO => exact (by (with_reducible repeat (first | apply Kd.R_alloc | apply Kd.R_drewN | apply Kd.R_drew)); exact HO_3.out)); (case aS => exact (below_size (by repeat (first | (with_reducible first | exact HB.out | apply below_alloc | apply pw_below_drewN | apply below_drew1) | exact HB.out)))); (case aL => have := LMc17.out; omega); intro v173 w18 ho hb hg hat; rw [← Ny172.out] at ho; have n0_ := Aside0.mk (hb); have n1_ := Aside0.mk (ho); clear HB; clear HO_3; have HB := n0_; have HO174 := n1_; clear n0_ n1_; clear ho hb hg hat; have hcv19 := own_string (P := Tryd.prog) Tryd.underlying45 Tryd.underlying5 Tryd.underlying9 (Kd.own_of_R HO174.out)))
          go_ret
          exact ⟨by first | rfl | (simp [errW_none, errW_some] <;> rfl) | (simp [*, errW_none, errW_some] <;> rfl), by repeat (first | (with_reducible first | exact HB.out | apply below_alloc | apply pw_below_drewN | apply below_drew1) | exact HB.out)⟩
        · rw [if_neg c17] at H
          exact absurd H (by simp)
end Go.Proofs.YtkecpfjmdokieaaDoor.P
namespace Go.Proofs.YtkecpfjmdokieaaDoor.Word
open Go.RowKit Go.Proofs.YtkecpfjmdokieaaDoorW.PrintWords Go.Proofs.YtkecpfjmdokieaaDoorW.PrintLast Go.Proofs.YtkecpfjmdokieaaDoor.Base Go.Proofs.YtkecpfjmdokieaaDoor.P Go.Proofs.YtkecpfjmdokieaaDoor.NodeOps
set_option linter.unusedVariables false
set_option linter.unusedSimpArgs false
abbrev R4 : List UInt8 := [39, 92, 39, 39]
def qz (l : List UInt8) : List UInt8 := l.flatMap fun b => if b = 39 then R4 else [b]
theorem qz_cons (b : UInt8) (l : List UInt8) : qz (b :: l) = (if b = 39 then R4 else [b]) ++ qz l := by
  unfold qz
  rw [List.flatMap_cons]
theorem qz_len : ∀ l : List UInt8, (qz l).length ≤ 4 * l.length
  | [] => by unfold qz; simp
  | b :: l => by
    rw [qz_cons, List.length_append, List.length_cons]
    have := qz_len l
    by_cases h : b = 39
    · rw [if_pos h]
      show 4 + _ ≤ _
      omega
    · rw [if_neg h]
      show 1 + _ ≤ _
      omega
theorem replK : ∀ (s : List UInt8), Lib.replaceK [39] R4 (s.count 39) s = qz s
  | [] => rfl
  | b :: l => by
    have ih := replK l
    rw [qz_cons]
    by_cases h : b = 39
    · subst h
      rw [if_pos rfl, List.count_cons_self]
      have h0 : Lib.index (39 :: l) [39] = ((0 : Nat) : Int) := by
        rw [Lib.index_one]
        rfl
      rw [Lib.replaceK_hit _ _ _ _ 0 h0]
      show [] ++ R4 ++ Lib.replaceK [39] R4 (l.count 39) (List.drop 1 (39 :: l)) = _
      rw [List.drop_succ_cons, List.drop_zero, ih]
      rfl
    · rw [if_neg h, List.count_cons_of_ne (by simpa using h)]
      cases hk : l.count 39 with
      | zero =>
        rw [hk] at ih
        show b :: l = [b] ++ qz l
        rw [← ih]
        rfl
      | succ k =>
        rw [hk] at ih
        obtain ⟨i, hi⟩ := Lib.index_of_count (s := l) (old := [39]) (by rw [Lib.count_one, hk]; omega)
        have h1 : Lib.index (b :: l) [39] = ((i + 1 : Nat) : Int) := by
          rw [Lib.index_one] at hi ⊢
          unfold Lib.indexByte
          rw [if_neg (by simpa using h), hi, if_neg (by first | (simp; done) | (simp; omega))]
          rfl
        rw [Lib.replaceK_hit _ _ _ _ _ h1, ← ih, Lib.replaceK_hit _ _ _ _ _ hi]
        rfl
theorem replAll (s : List UInt8) : Lib.replaceAll s [39] R4 = qz s := by
  unfold Lib.replaceAll Lib.replace
  rw [if_neg (by decide)]
  have h1 : Lib.replaceNum s [39] (-1) = s.count 39 := by
    unfold Lib.replaceNum
    rw [if_pos (.inl (by decide)), Lib.count_one]
  rw [h1]
  exact replK s
def quoteS (s : ByteArray) : ByteArray := ⟨([39] ++ qz s.data.toList ++ [39]).toArray⟩
theorem quote_str (l : List UInt8) : ((⟨#[39]⟩ : ByteArray) ++ (⟨l.toArray⟩ : ByteArray)) ++ (⟨#[39]⟩ : ByteArray) = ⟨([39] ++ l ++ [39]).toArray⟩ := by
  apply ByteArray.ext
  simp [ByteArray.data_append]
set_option maxHeartbeats 2000000 in
set_option maxRecDepth 100000 in
theorem quote_any (s : ByteArray) (m : Int) (w : World) (hm : w.cell? ⟨0, 0, none⟩ = some (.int .i64 m)) (hs : s.size ≤ 1000000) :
    Calls Tryd.prog 17 #[.string s] w fun e w' => e = .returned (.string (quoteS s)) ∧ Below w.heap.size w w' := by
  have HL := Aside0.mk (Lib.countB_le ⟨#[39]⟩ (by decide) s.size s (Nat.le_refl _))
  have HM := Aside0.mk hm
  have HS := Aside0.mk hs
  have HQ := Aside0.mk (show (⟨(Lib.replaceAll s.data.toList [39] R4).toArray⟩ : ByteArray) = ⟨(qz s.data.toList).toArray⟩ by rw [replAll])
  have HQL := Aside0.mk (show (qz s.data.toList).length ≤ 4000000 by have h1 := qz_len s.data.toList; rw [data_length] at h1; omega)
  have HLN := Aside0.mk (show s.size + Lib.countB s ⟨#[39]⟩ * (ByteArray.mk #[39, 92, 39, 39]).size ≤ 140737488355328 by
    have e : (ByteArray.mk #[39, 92, 39, 39]).size = 4 := rfl
    have h1 := HL.out
    rw [e]
    omega)
  clear hm hs
  go_enter Tryd.func17, Tryd.ntmps17
  go_wp2_with (go_at_call 30; go_loud (with_reducible refine (Tryd.strings_ReplaceAll s ⟨#[39]⟩ ⟨#[39, 92, 39, 39]⟩ m _ (by have := HS.out; omega) HM.out (by decide) HLN.out).mono ?_); rintro e w1 ⟨rfl, hB⟩; go_loud (rw [show (⟨(Lib.replaceAll s.data.toList (ByteArray.mk #[39]).data.toList (ByteArray.mk #[39, 92, 39, 39]).data.toList).toArray⟩ : ByteArray) = ⟨(qz s.data.toList).toArray⟩ from HQ.out]); have HB := Aside0.mk hB; clear hB)
  all_goals first
    | (exfalso; have := HQL.out; omega)
    | (go_ret; exact ⟨by unfold quoteS; rw [← quote_str]; rfl, HB.out⟩)
def qn (l : List Int) : List Int := l.flatMap fun b => if b = 39 then [b, 92, 39, 39] else [b]
theorem qn_str : ∀ (l : List UInt8), (qn (l.map fun b => (b.toNat : Int))).map (fun n => UInt8.ofNat n.toNat) = qz l
  | [] => rfl
  | b :: l => by
    rw [qz_cons, ← qn_str l]
    unfold qn
    rw [List.map_cons, List.flatMap_cons, List.map_append]
    congr 1
    by_cases h : b = 39
    · subst h
      rfl
    · rw [if_neg (fun e => h (UInt8.toNat_inj.1 (show b.toNat = 39 by omega))), if_neg h]
      simp
theorem rquote_end (s : ByteArray) (hs : s.size ≤ 1000000) (i : Nat) (hi : ¬ i < s.size) (acc : List Int) (ha : acc.length ≤ 1 + 4 * i) (hi2 : i ≤ 1000000) : Ev (fun k => deadfallref03_Quote.l0 k s acc (i : Int)) (strOfNums (acc ++ qn ((bytesOf s).drop i) ++ [39])) := by
  rw [List.drop_eq_nil_of_le (by rw [bytesOf_length]; omega)]
  refine now fun k => ?_
  show deadfallref03_Quote.l0 (k + 1) s acc (i : Int) = _
  rw [deadfallref03_Quote.l0, if_neg (by omega), if_pos (by omega)]
  simp [qn]
theorem rquote_loop (s : ByteArray) (hs : s.size ≤ 1000000) : ∀ (d i : Nat), s.size - i ≤ d → i ≤ s.size → ∀ acc : List Int, acc.length ≤ 1 + 4 * i → Ev (fun k => deadfallref03_Quote.l0 k s acc (i : Int)) (strOfNums (acc ++ qn ((bytesOf s).drop i) ++ [39])) := by
  intro d
  induction d with
  | zero =>
    intro i hd hi acc ha
    exact rquote_end s hs i (by omega) acc ha (by omega)
  | succ d ih =>
    intro i hd hi acc ha
    by_cases hlt : i < s.size
    · have hb : (bytesOf s).drop i = bt s i :: (bytesOf s).drop (i + 1) := by
        rw [List.drop_eq_getElem_cons (by rw [bytesOf_length]; exact hlt)]
        congr 1
        have := bt_nat s i hlt
        rw [← this]
        simp [bytesOf, ByteArray.getElem_eq_getElem_data]
      have hw : wrap64 ((i : Int) + 1) = ((i + 1 : Nat) : Int) := by unfold wrap64; omega
      rw [hb]
      by_cases h39 : bt s i = 39
      · have e : acc ++ qn (bt s (i : Int) :: List.drop (i + 1) (bytesOf s)) ++ [39] = acc ++ [bt s i] ++ [92, 39, 39] ++ qn (List.drop (i + 1) (bytesOf s)) ++ [39] := by
          unfold qn
          rw [List.flatMap_cons, if_pos h39]
          simp
        rw [e]
        refine step (ih (i + 1) (by omega) (by omega) ((acc ++ [bt s i]) ++ [92, 39, 39]) (by simp; omega)) fun k => ?_
        show deadfallref03_Quote.l0 (k + 1) s acc (i : Int) = deadfallref03_Quote.l0 k s ((acc ++ [bt s i]) ++ [92, 39, 39]) ((i + 1 : Nat) : Int)
        rw [deadfallref03_Quote.l0, if_pos (by omega), if_pos (by omega), if_pos (by omega), Option.bind_some, if_pos h39, Option.bind_some, if_pos (by simp; omega), hw]
      · have e : acc ++ qn (bt s (i : Int) :: List.drop (i + 1) (bytesOf s)) ++ [39] = acc ++ [bt s i] ++ qn (List.drop (i + 1) (bytesOf s)) ++ [39] := by
          unfold qn
          rw [List.flatMap_cons, if_neg h39]
          simp
        rw [e]
        refine step (ih (i + 1) (by omega) (by omega) (acc ++ [bt s i]) (by simp; omega)) fun k => ?_
        show deadfallref03_Quote.l0 (k + 1) s acc (i : Int) = deadfallref03_Quote.l0 k s (acc ++ [bt s i]) ((i + 1 : Nat) : Int)
        rw [deadfallref03_Quote.l0, if_pos (by omega), if_pos (by omega), if_pos (by omega), Option.bind_some, if_neg h39, hw]
    · exact rquote_end s hs i hlt acc ha (by omega)
end Go.Proofs.YtkecpfjmdokieaaDoor.Word
namespace Go.Proofs.YtkecpfjmdokieaaDoor.Word
open Go.RowKit Go.Proofs.YtkecpfjmdokieaaDoorW.PrintWords Go.Proofs.YtkecpfjmdokieaaDoorW.PrintLast Go.Proofs.YtkecpfjmdokieaaDoor.Base Go.Proofs.YtkecpfjmdokieaaDoor.P Go.Proofs.YtkecpfjmdokieaaDoor.NodeOps Go.Proofs.YtkecpfjmdokieaaDoor.Class
set_option linter.unusedVariables false
set_option linter.unusedSimpArgs false
inductive Rt : Int → List Pt → Prop
  | nil (a : Int) : Rt a []
  | lit (a : Int) (x : Pt) (l : List Pt) (h0 : x.f0 = 1) (h : litB a x = true) (hadj : ∀ y, l.head? = some y → y.f0 = 1 → y.f1 ≠ x.f1) (ht : Rt a l) : Rt a (x :: l)
  | par (a : Int) (x : Pt) (l : List Pt) (h0 : x.f0 = 2) (hp : paramB x.f2 = true) (hq : ¬ (a = 2 ∧ x.f1 = false)) (ho : x.f3.size = 0 ∧ x.f4 = [] ∨ opB x.f3 = true) (hs : Rt (nextI x.f1) x.f4) (ht : Rt a l) : Rt a (x :: l)
theorem allI_iff (p : Nat → Bool) : ∀ (d i : Nat), allI p i d = true ↔ ∀ j, i ≤ j → j < i + d → p j = true := by
  intro d
  induction d with
  | zero => exact fun i => ⟨fun _ j h1 h2 => absurd h2 (by omega), fun _ => rfl⟩
  | succ d ih =>
    intro i
    show (p i && allI p (i + 1) d) = true ↔ _
    rw [Bool.and_eq_true, ih]
    constructor
    · rintro ⟨h1, h2⟩ j h3 h4
      by_cases h : j = i
      · rw [h]; exact h1
      · exact h2 j (by omega) (by omega)
    · intro h
      exact ⟨h i (by omega) (by omega), fun j h1 h2 => h j (by omega) (by omega)⟩
theorem rd_succ (x : Pt) (l : List Pt) (i : Nat) : rd_T33 (x :: l) ((i + 1 : Nat) : Int) = rd_T33 l (i : Int) := by
  unfold rd_T33
  rw [Int.toNat_natCast, Int.toNat_natCast, List.getD_cons_succ]
theorem rd_zero (x : Pt) (l : List Pt) : rd_T33 (x :: l) ((0 : Nat) : Int) = x := rfl
theorem adj_tail (x : Pt) (l : List Pt) (i : Nat) (h : 0 < i) : adjB (x :: l) (i + 1) = adjB l i := by
  obtain ⟨i, rfl⟩ : ∃ j, i = j + 1 := ⟨i - 1, by omega⟩
  unfold adjB
  have e1 : (((i + 1 + 1 : Nat) : Int) - 1) = ((i + 1 : Nat) : Int) := by omega
  have e2 : (((i + 1 : Nat) : Int) - 1) = (i : Int) := by omega
  rw [e1, e2, rd_succ, rd_succ]
  simp
theorem okI_tail (sub : Int → List Pt → Bool) (deep : Bool) (a : Int) (x : Pt) (l : List Pt) (i : Nat) (h : okI sub deep a (x :: l) (i + 1) = true) : okI sub deep a l i = true := by
  unfold okI at h ⊢
  rw [rd_succ] at h
  by_cases hi : 0 < i
  · rw [adj_tail x l i hi] at h
    exact h
  · obtain rfl : i = 0 := by omega
    have e : adjB l 0 = false := rfl
    rw [e]
    split
    · rename_i h1
      rw [if_pos h1, Bool.and_eq_true] at h
      rw [h.1]
      rfl
    · rename_i h1
      rw [if_neg h1] at h
      exact h
theorem rt_row (sub : Int → List Pt → Bool) (hsub : ∀ q l, sub q l = true → Rt q l) (deep : Bool) (a : Int) : ∀ l : List Pt, (∀ i, i < l.length → okI sub deep a l i = true) → Rt a l := by
  intro l
  induction l with
  | nil => exact fun _ => .nil a
  | cons x l ih =>
    intro h
    have ht := ih fun i hi => okI_tail sub deep a x l i (h (i + 1) (by rw [List.length_cons]; omega))
    have h0 := h 0 (by rw [List.length_cons]; omega)
    unfold okI at h0
    rw [rd_zero] at h0
    by_cases h1 : x.f0 = 1
    · rw [if_pos h1, Bool.and_eq_true] at h0
      refine .lit a x l h1 h0.1 (fun y hy hy0 e => ?_) ht
      cases l with
      | nil => cases hy
      | cons z l =>
        obtain rfl : z = y := Option.some.inj hy
        have h2 := h 1 (by simp)
        unfold okI at h2
        have e1 : rd_T33 (x :: z :: l) ((1 : Nat) : Int) = z := rfl
        rw [e1, if_pos hy0, Bool.and_eq_true] at h2
        have h3 := h2.2
        unfold adjB at h3
        have e2 : (((1 : Nat) : Int) - 1) = ((0 : Nat) : Int) := by omega
        rw [e2, rd_zero, e1, h1, e] at h3
        simp at h3
    · rw [if_neg h1] at h0
      by_cases h2 : x.f0 = 2
      · rw [if_pos h2] at h0
        unfold parB at h0
        split at h0
        · cases h0
        split at h0
        · cases h0
        rename_i hp
        split at h0
        · cases h0
        rename_i hq
        have hp : paramB x.f2 = true := by simpa using hp
        split at h0
        · rename_i h3
          have h4 : x.f4 = [] := List.length_eq_zero_iff.1 (of_decide_eq_true h0)
          exact .par a x l h2 hp hq (.inl ⟨h3, h4⟩) (by rw [h4]; exact .nil _) ht
        · split at h0
          · cases h0
          rename_i ho
          have ho : opB x.f3 = true := by simpa using ho
          split at h0
          · cases h0
          exact .par a x l h2 hp hq (.inr ho) (hsub _ _ h0) ht
      · rw [if_neg h2] at h0
        cases h0
theorem rt_of : ∀ (n : Nat) (a : Int) (l : List Pt), partsF n a l = true → Rt a l
  | 0, a, l, h => rt_row (fun _ _ => false) (fun _ _ h => by cases h) false a l fun i hi => (allI_iff _ _ _).1 h i (by omega) (by omega)
  | n + 1, a, l, h => rt_row (partsF n) (fun q l h => rt_of n q l h) true a l fun i hi => (allI_iff _ _ _).1 h i (by omega) (by omega)
def spec (b : UInt8) : Bool := [34, 36, 92, 96, 125].contains b
def esc (l : List UInt8) : List UInt8 := l.flatMap fun b => if spec b = true then [92, b] else [b]
def mark (t : Bool) (x : Pt) : List UInt8 := if x.f1 = true then (if t = true then [] else [34]) else []
def oneL (t : Bool) (x : Pt) (sub : List UInt8) : List UInt8 :=
  if x.f0 = 1 then (if t = true then esc x.f2.data.toList else if x.f1 = true then [39] ++ qz x.f2.data.toList ++ [39] else x.f2.data.toList)
  else mark t x ++ [36, 123] ++ x.f2.data.toList ++ x.f3.data.toList ++ sub ++ [125] ++ mark t x
def wrL (t : Bool) (l : List Pt) : List UInt8 := (l.attach.map fun x => oneL t x.1 (wrL x.1.f1 x.1.f4)).flatten
termination_by SizeOf.sizeOf l
decreasing_by exact size_in x.2
theorem wrL_eq (t : Bool) (l : List Pt) : wrL t l = (l.map fun x => oneL t x (wrL x.f1 x.f4)).flatten := by
  rw [wrL]
  have e : ∀ (g : Pt → List UInt8), (l.attach.map fun x => g x.1) = l.map g := fun g => by simp
  exact congrArg List.flatten (e fun x => oneL t x (wrL x.f1 x.f4))
theorem wrL_nil (t : Bool) : wrL t [] = [] := by rw [wrL_eq]; rfl
theorem wrL_cons (t : Bool) (x : Pt) (l : List Pt) : wrL t (x :: l) = oneL t x (wrL x.f1 x.f4) ++ wrL t l := by
  rw [wrL_eq, wrL_eq t l]
  rfl
theorem wrL_snoc (t : Bool) (l : List Pt) (i : Nat) (h : i < l.length) : wrL t (l.take (i + 1)) = wrL t (l.take i) ++ oneL t l[i] (wrL l[i].f1 l[i].f4) := by
  rw [List.take_succ_eq_append_getElem h, wrL_eq, wrL_eq t (l.take i), List.map_append, List.flatten_append]
  simp
theorem esc_cons (b : UInt8) (l : List UInt8) : esc (b :: l) = (if spec b = true then [92, b] else [b]) ++ esc l := by
  unfold esc
  rw [List.flatMap_cons]
theorem esc_snoc (l : List UInt8) (b : UInt8) : esc (l ++ [b]) = esc l ++ (if spec b = true then [92, b] else [b]) := by
  unfold esc
  rw [List.flatMap_append]
  simp
theorem esc_len : ∀ l : List UInt8, (esc l).length ≤ 2 * l.length
  | [] => by unfold esc; simp
  | b :: l => by
    rw [esc_cons, List.length_append, List.length_cons]
    have := esc_len l
    by_cases h : spec b = true
    · rw [if_pos h]
      show 2 + _ ≤ _
      omega
    · rw [if_neg h]
      show 1 + _ ≤ _
      omega
theorem mark_len (t : Bool) (x : Pt) : (mark t x).length ≤ 1 := by
  unfold mark
  split
  · split <;> simp
  · simp
theorem oneL_len (t : Bool) (x : Pt) (sub : List UInt8) : (oneL t x sub).length ≤ 6 * (1 + x.f2.size + x.f3.size) + sub.length := by
  unfold oneL
  have e2 : x.f2.data.toList.length = x.f2.size := data_length _
  have e3 : x.f3.data.toList.length = x.f3.size := data_length _
  split
  · split
    · have := esc_len x.f2.data.toList
      omega
    · split
      · have := qz_len x.f2.data.toList
        simp only [List.length_append, List.length_cons, List.length_nil]
        omega
      · omega
  · have := mark_len t x
    simp only [List.length_append, List.length_cons, List.length_nil]
    omega
theorem wrL_len : ∀ (N : Nat) (l : List Pt), SizeOf.sizeOf l < N → ∀ t, (wrL t l).length ≤ 6 * wt l
  | 0, l, h, t => absurd h (Nat.not_lt_zero _)
  | N + 1, [], h, t => by rw [wrL_nil]; simp
  | N + 1, x :: l, h, t => by
    have h1 : SizeOf.sizeOf x.f4 < SizeOf.sizeOf (x :: l) := size_in (List.mem_cons_self ..)
    have h2 : SizeOf.sizeOf l < SizeOf.sizeOf (x :: l) := by simp; omega
    have i1 := wrL_len N x.f4 (by omega) x.f1
    have i2 := wrL_len N l (by omega) t
    have i3 := oneL_len t x (wrL x.f1 x.f4)
    rw [wrL_cons, wt_cons, List.length_append]
    omega
theorem wrL_le (t : Bool) (l : List Pt) : (wrL t l).length ≤ 6 * wt l := wrL_len (SizeOf.sizeOf l + 1) l (Nat.lt_succ_self _) t
end Go.Proofs.YtkecpfjmdokieaaDoor.Word
namespace Go.Proofs.YtkecpfjmdokieaaDoor.Word
open Go.RowKit Go.Proofs.YtkecpfjmdokieaaDoorW.PrintWords Go.Proofs.YtkecpfjmdokieaaDoorW.PrintLast Go.Proofs.YtkecpfjmdokieaaDoor.Base Go.Proofs.YtkecpfjmdokieaaDoor.P Go.Proofs.YtkecpfjmdokieaaDoor.NodeOps Go.Proofs.YtkecpfjmdokieaaDoor.Class
set_option linter.unusedVariables false
set_option linter.unusedSimpArgs false
abbrev by2 (s : ByteArray) : List UInt8 := s.data.toList
theorem by2_inj {s t : ByteArray} (h : by2 s = by2 t) : s = t := by
  cases s; cases t
  simp only [by2] at h
  congr 1
  exact Array.toList_inj.1 h
theorem by2_all (s : ByteArray) (p : Int → Bool) (h : (bytesOf s).all p = true) : ∀ b ∈ by2 s, p (b.toNat : Int) = true := by
  intro b hb
  rw [List.all_eq_true] at h
  exact h _ (List.mem_map.2 ⟨b, hb, rfl⟩)
theorem by2_ne (s : ByteArray) (h : neS s = true) : by2 s ≠ [] := by
  intro e
  have h1 := data_length s
  unfold by2 at e
  rw [e] at h1
  unfold neS at h
  have := of_decide_eq_true h
  simp at h1
  omega
theorem all_b {p : UInt8 → Prop} (h : ∀ n : Fin 256, p (UInt8.ofNat n.val)) (b : UInt8) : p b := by
  have := h ⟨b.toNat, b.toNat_lt⟩
  simpa using this
def tagB (a : Int) (b : UInt8) : Nat :=
  if a = 2 then (if b = 125 then 0 else if b = 36 then 4 else 2)
  else if b = 39 then 2 else if b = 34 then 4 else if b = 36 then 3 else if a = 1 ∧ b = 125 then 0 else 1
def tag (a : Int) : List UInt8 → Nat
  | [] => 0
  | b :: _ => tagB a b
def kindP (x : Pt) : Nat := if x.f0 = 1 then (if x.f1 = true then 2 else 1) else (if x.f1 = true then 4 else 3)
def kind : List Pt → Nat
  | [] => 0
  | x :: _ => kindP x
def Stop (a : Int) (r : List UInt8) : Prop := if a = 0 then r = [] else ∃ s, r = 125 :: s
abbrev Pl (a : Int) : Prop := a = 0 ∨ a = 1 ∨ a = 2
abbrev tt (a : Int) : Bool := decide (a = 2)
theorem bare_tag : ∀ b : UInt8, bareB (b.toNat : Int) = true → tagB 0 b = 1 ∧ b ≠ 92 := by
  refine all_b ?_
  decide +kernel
theorem loose_tag : ∀ b : UInt8, (!(bytesOf CH).contains (b.toNat : Int)) = true → tagB 1 b = 1 ∧ b ≠ 92 := by
  refine all_b ?_
  decide +kernel
theorem lit_cases {a : Int} (ha : Pl a) {x : Pt} (h : litB a x = true) : x.f3.size = 0 ∧ x.f4 = [] ∧ ((a = 2 ∧ x.f1 = true ∧ by2 x.f2 ≠ []) ∨ (a ≠ 2 ∧ x.f1 = true) ∨ (a ≠ 2 ∧ x.f1 = false ∧ by2 x.f2 ≠ [] ∧ ∀ b ∈ by2 x.f2, tagB a b = 1 ∧ b ≠ 92)) := by
  unfold litB at h
  split at h
  · rename_i h34
    refine ⟨h34.1, List.length_eq_zero_iff.1 h34.2, ?_⟩
    by_cases h2 : a = 2
    · rw [if_pos h2, Bool.and_eq_true] at h
      exact .inl ⟨h2, h.1, by2_ne _ h.2⟩
    · rw [if_neg h2] at h
      refine .inr ?_
      cases hq : x.f1 with
      | true => exact .inl ⟨h2, rfl⟩
      | false =>
        rw [hq, if_neg (by decide)] at h
        refine .inr ⟨h2, rfl, ?_⟩
        rcases ha with rfl | rfl | rfl
        · rw [if_neg (by decide), Bool.and_eq_true] at h
          exact ⟨by2_ne _ h.1, fun b hb => bare_tag b (by2_all _ _ h.2 b hb)⟩
        · rw [if_pos rfl, Bool.and_eq_true] at h
          exact ⟨by2_ne _ h.1, fun b hb => loose_tag b (by2_all _ _ h.2 b hb)⟩
        · exact absurd rfl h2
  · cases h
theorem one_q {t : Bool} {x : Pt} (h0 : x.f0 = 1) (ht : t = false) (hq : x.f1 = true) (s : List UInt8) : oneL t x s = 39 :: (qz (by2 x.f2) ++ [39]) := by
  unfold oneL
  rw [if_pos h0, ht, if_neg (by decide), hq, if_pos rfl]
  rfl
theorem one_b {t : Bool} {x : Pt} (h0 : x.f0 = 1) (ht : t = false) (hq : x.f1 = false) (s : List UInt8) : oneL t x s = by2 x.f2 := by
  unfold oneL
  rw [if_pos h0, ht, if_neg (by decide), hq, if_neg (by decide)]
theorem one_t {t : Bool} {x : Pt} (h0 : x.f0 = 1) (ht : t = true) (s : List UInt8) : oneL t x s = esc (by2 x.f2) := by
  unfold oneL
  rw [if_pos h0, ht, if_pos rfl]
theorem one_p {t : Bool} {x : Pt} (h0 : x.f0 = 2) (s : List UInt8) : oneL t x s = mark t x ++ (36 :: 123 :: (by2 x.f2 ++ (by2 x.f3 ++ (s ++ (125 :: mark t x))))) := by
  unfold oneL
  rw [if_neg (by rw [h0]; decide)]
  simp [by2]
theorem esc_head (b : UInt8) : spec b = false → b ≠ 125 ∧ b ≠ 36 ∧ b ≠ 92 := by
  revert b
  refine all_b ?_
  decide +kernel
theorem tag_one {a : Int} (ha : Pl a) {x : Pt} (h : (x.f0 = 1 ∧ litB a x = true) ∨ (x.f0 = 2 ∧ ¬ (a = 2 ∧ x.f1 = false))) (s z : List UInt8) :
    tag a (oneL (tt a) x s ++ z) = kindP x ∧ (oneL (tt a) x s ++ z).head? ≠ none ∧ (a ≠ 2 → (oneL (tt a) x s ++ z).head? ≠ some 92) := by
  rcases h with ⟨h0, hl⟩ | ⟨h0, hq⟩
  · have hk : kindP x = if x.f1 = true then 2 else 1 := if_pos h0
    obtain ⟨_, _, h⟩ := lit_cases ha hl
    rcases h with ⟨rfl, hq, hne⟩ | ⟨h2, hq⟩ | ⟨h2, hq, hne, hall⟩
    · rw [one_t (t := tt 2) h0 rfl, hk, hq, if_pos rfl]
      cases hb : by2 x.f2 with
      | nil => exact absurd hb hne
      | cons b l =>
        rw [esc_cons]
        by_cases hs : spec b = true
        · rw [if_pos hs]
          exact ⟨rfl, by simp, fun h => absurd rfl h⟩
        · rw [if_neg hs]
          obtain ⟨h1, h2, _⟩ := esc_head b (by simpa using hs)
          refine ⟨?_, by simp, fun h => absurd rfl h⟩
          show tagB 2 b = 2
          unfold tagB
          rw [if_pos rfl, if_neg h1, if_neg h2]
    · rw [one_q h0 (decide_eq_false h2) hq, hk, hq, if_pos rfl]
      refine ⟨?_, by simp, fun _ => by simp⟩
      show tagB a 39 = 2
      unfold tagB
      rw [if_neg h2, if_pos rfl]
    · rw [one_b h0 (decide_eq_false h2) hq, hk, hq, if_neg (by decide)]
      cases hb : by2 x.f2 with
      | nil => exact absurd hb hne
      | cons b l =>
        obtain ⟨h1, h3⟩ := hall b (by rw [hb]; exact List.mem_cons_self ..)
        exact ⟨h1, by simp, fun _ => by simpa using h3⟩
  · have hk : kindP x = if x.f1 = true then 4 else 3 := if_neg (by rw [h0]; decide)
    rw [one_p h0, hk]
    unfold mark
    cases hq1 : x.f1 with
    | false =>
      rw [if_neg (by decide), if_neg (by decide)]
      have h2 : a ≠ 2 := fun e => hq ⟨e, hq1⟩
      refine ⟨?_, by simp, fun _ => by simp⟩
      show tagB a 36 = 3
      unfold tagB
      rw [if_neg h2, if_neg (by decide), if_neg (by decide), if_pos rfl]
    | true =>
      rw [if_pos rfl, if_pos rfl]
      by_cases h2 : a = 2
      · subst h2
        exact ⟨rfl, by simp, fun h => absurd rfl h⟩
      · rw [show tt a = false from decide_eq_false h2, if_neg (by decide)]
        refine ⟨?_, by simp, fun _ => by simp⟩
        show tagB a 34 = 4
        unfold tagB
        rw [if_neg h2, if_neg (by decide), if_pos rfl]
theorem tag_row {a : Int} (ha : Pl a) {l : List Pt} (h : Rt a l) {r : List UInt8} (hr : Stop a r) : tag a (wrL (tt a) l ++ r) = kind l ∧ (a ≠ 2 → (wrL (tt a) l ++ r).head? ≠ some 92) := by
  cases h with
  | nil =>
    rw [wrL_nil, List.nil_append]
    unfold Stop at hr
    split at hr
    · subst hr
      exact ⟨rfl, fun _ => by simp⟩
    · rename_i h0
      obtain ⟨s, rfl⟩ := hr
      refine ⟨?_, fun _ => by simp⟩
      show tagB a 125 = 0
      rcases ha with rfl | rfl | rfl
      · exact absurd rfl h0
      · rfl
      · rfl
  | lit _ x l h0 hl hadj ht =>
    rw [wrL_cons, List.append_assoc]
    have := tag_one ha (.inl ⟨h0, hl⟩) (wrL x.f1 x.f4) (wrL (tt a) l ++ r)
    exact ⟨this.1, this.2.2⟩
  | par _ x l h0 hp hq ho hs ht =>
    rw [wrL_cons, List.append_assoc]
    have := tag_one ha (.inr ⟨h0, hq⟩) (wrL x.f1 x.f4) (wrL (tt a) l ++ r)
    exact ⟨this.1, this.2.2⟩
theorem span_eq (p : UInt8 → Bool) : ∀ (u u' z z' : List UInt8), (∀ b ∈ u, p b = true) → (∀ b ∈ u', p b = true) → (∀ b, z.head? = some b → p b = false) → (∀ b, z'.head? = some b → p b = false) → u ++ z = u' ++ z' → u = u' ∧ z = z'
  | [], [], z, z', _, _, _, _, h => ⟨rfl, h⟩
  | [], b :: u', z, z', _, h2, h3, _, h => by
    rw [List.nil_append] at h
    have h4 := h3 b (by rw [h]; rfl)
    rw [h2 b (List.mem_cons_self ..)] at h4
    cases h4
  | b :: u, [], z, z', h1, _, _, h3, h => by
    rw [List.nil_append] at h
    have h4 := h3 b (by rw [← h]; rfl)
    rw [h1 b (List.mem_cons_self ..)] at h4
    cases h4
  | b :: u, b' :: u', z, z', h1, h2, h3, h4, h => by
    obtain ⟨e1, e2⟩ := List.cons.inj h
    obtain ⟨e3, e4⟩ := span_eq p u u' z z' (fun b hb => h1 b (List.mem_cons_of_mem _ hb)) (fun b hb => h2 b (List.mem_cons_of_mem _ hb)) h3 h4 e2
    rw [e1, e3]
    exact ⟨rfl, e4⟩
theorem qz_eq : ∀ (u u' z z' : List UInt8), z.head? ≠ some 92 → z'.head? ≠ some 92 → qz u ++ 39 :: z = qz u' ++ 39 :: z' → u = u' ∧ z = z'
  | [], [], z, z', _, _, h => ⟨rfl, (List.cons.inj h).2⟩
  | [], b :: u', z, z', h1, _, h => by
    exfalso
    rw [qz_cons] at h
    by_cases hb : b = 39
    · rw [if_pos hb] at h
      have h2 := (List.cons.inj h).2
      exact h1 (by rw [h2]; rfl)
    · rw [if_neg hb] at h
      exact hb (List.cons.inj h).1.symm
  | b :: u, [], z, z', _, h1, h => by
    exfalso
    rw [qz_cons] at h
    by_cases hb : b = 39
    · rw [if_pos hb] at h
      have h2 := (List.cons.inj h).2
      exact h1 (by rw [← h2]; rfl)
    · rw [if_neg hb] at h
      exact hb (List.cons.inj h).1
  | b :: u, b' :: u', z, z', h1, h2, h => by
    rw [qz_cons, qz_cons] at h
    by_cases hb : b = 39
    · rw [if_pos hb] at h
      by_cases hb' : b' = 39
      · rw [if_pos hb'] at h
        simp only [R4, List.cons_append, List.nil_append, List.append_assoc, List.cons.injEq, true_and] at h
        obtain ⟨e1, e2⟩ := qz_eq u u' z z' h1 h2 h
        rw [hb, hb', e1]
        exact ⟨rfl, e2⟩
      · rw [if_neg hb'] at h
        exact absurd (List.cons.inj h).1.symm hb'
    · rw [if_neg hb] at h
      by_cases hb' : b' = 39
      · rw [if_pos hb'] at h
        exact absurd (List.cons.inj h).1 hb
      · rw [if_neg hb'] at h
        obtain ⟨e0, h⟩ := List.cons.inj h
        obtain ⟨e1, e2⟩ := qz_eq u u' z z' h1 h2 h
        rw [e0, e1]
        exact ⟨rfl, e2⟩
def Ends (z : List UInt8) : Prop := z.head? = some 36 ∨ z.head? = some 125
theorem esc_no (b : UInt8) (u z : List UInt8) (h : Ends (esc (b :: u) ++ z)) : False := by
  rw [esc_cons] at h
  unfold Ends at h
  by_cases hs : spec b = true
  · rw [if_pos hs] at h
    simp at h
  · rw [if_neg hs] at h
    obtain ⟨h1, h2, _⟩ := esc_head b (by simpa using hs)
    simp [h1, h2] at h
theorem esc_eq : ∀ (u u' z z' : List UInt8), Ends z → Ends z' → esc u ++ z = esc u' ++ z' → u = u' ∧ z = z'
  | [], [], z, z', _, _, h => ⟨rfl, h⟩
  | [], b :: u', z, z', h1, _, h => by
    rw [show esc [] ++ z = z from rfl] at h
    rw [h] at h1
    exact (esc_no _ _ _ h1).elim
  | b :: u, [], z, z', _, h1, h => by
    rw [show esc [] ++ z' = z' from rfl] at h
    rw [← h] at h1
    exact (esc_no _ _ _ h1).elim
  | b :: u, b' :: u', z, z', h1, h2, h => by
    rw [esc_cons, esc_cons] at h
    by_cases hb : spec b = true
    · rw [if_pos hb] at h
      by_cases hb' : spec b' = true
      · rw [if_pos hb'] at h
        simp only [List.cons_append, List.nil_append, List.append_assoc, List.cons.injEq, true_and] at h
        obtain ⟨e1, e2⟩ := esc_eq u u' z z' h1 h2 h.2
        rw [h.1, e1]
        exact ⟨rfl, e2⟩
      · rw [if_neg hb'] at h
        exact absurd (List.cons.inj h).1.symm (esc_head b' (by simpa using hb')).2.2
    · rw [if_neg hb] at h
      by_cases hb' : spec b' = true
      · rw [if_pos hb'] at h
        exact absurd (List.cons.inj h).1 (esc_head b (by simpa using hb)).2.2
      · rw [if_neg hb'] at h
        obtain ⟨e0, h⟩ := List.cons.inj h
        obtain ⟨e1, e2⟩ := esc_eq u u' z z' h1 h2 h
        rw [e0, e1]
        exact ⟨rfl, e2⟩
def lod (b : UInt8) : Bool := letterB (b.toNat : Int) || digitB (b.toNat : Int)
def opH (b : UInt8) : Bool := [125, 58, 45, 61, 43, 63].contains b
theorem opH_lod : ∀ b : UInt8, opH b = true → lod b = false := by
  refine all_b ?_
  decide +kernel
theorem set_lod : ∀ b : UInt8, setB (b.toNat : Int) = true → lod b = false := by
  refine all_b ?_
  decide +kernel
theorem by2_bt (s : ByteArray) (b : UInt8) (u : List UInt8) (h : by2 s = b :: u) : bt s 0 = (b.toNat : Int) := by
  have hz : 0 < s.size := by
    have := data_length s
    unfold by2 at h
    rw [h] at this
    simp at this
    omega
  have h1 := bytes_get s 0 hz
  have h2 : bytesOf s = (by2 s).map fun b => (b.toNat : Int) := rfl
  rw [show ((0 : Nat) : Int) = 0 from rfl] at h1
  rw [← h1]
  simp [h2, h]
theorem param_cases {s : ByteArray} (h : paramB s = true) : (∃ b, by2 s = [b] ∧ lod b = false) ∨ (by2 s ≠ [] ∧ ∀ b ∈ by2 s, lod b = true) := by
  have hz := data_length s
  unfold paramB at h
  rw [Bool.or_eq_true, Bool.or_eq_true] at h
  have hne : 0 < s.size → by2 s ≠ [] := fun h0 e => by unfold by2 at e; rw [e] at hz; simp at hz; omega
  rcases h with (h | h) | h
  · rw [Bool.and_eq_true, Bool.or_eq_true] at h
    have h1 := of_decide_eq_true h.1
    obtain ⟨b, hb⟩ : ∃ b, by2 s = [b] := List.length_eq_one_iff.1 (by unfold by2; omega)
    rw [by2_bt s b [] hb] at h
    rcases h.2 with h2 | h2
    · refine .inr ⟨hne (by omega), fun c hc => ?_⟩
      rw [hb] at hc
      obtain rfl : c = b := by simpa using hc
      unfold lod
      rw [h2, Bool.or_true]
    · exact .inl ⟨b, hb, set_lod b h2⟩
  · have h1 := (name_iff s).1 h
    have h2 := (all_iff s (fun c => letterB c || digitB c)).2 h1.2.2
    exact .inr ⟨hne (by omega), fun b hb => by2_all s _ h2 b hb⟩
  · rw [Bool.and_eq_true, Bool.and_eq_true, Bool.and_eq_true] at h
    refine .inr ⟨hne (by have := of_decide_eq_true h.1.1.2; omega), fun b hb => ?_⟩
    have := by2_all s _ h.1.1.1 b hb
    unfold lod
    rw [this, Bool.or_true]
theorem name_eq {s s' : ByteArray} {z z' : List UInt8} (h : paramB s = true) (h' : paramB s' = true) (hz : ∀ b, z.head? = some b → lod b = false) (hz' : ∀ b, z'.head? = some b → lod b = false) (e : by2 s ++ z = by2 s' ++ z') : s = s' ∧ z = z' := by
  rcases param_cases h with ⟨b, hb, hl⟩ | ⟨hne, hall⟩ <;> rcases param_cases h' with ⟨b', hb', hl'⟩ | ⟨hne', hall'⟩
  · rw [hb, hb'] at e
    obtain ⟨e1, e2⟩ := List.cons.inj e
    exact ⟨by2_inj (by rw [hb, hb', e1]), e2⟩
  · exfalso
    rw [hb] at e
    cases hs : by2 s' with
    | nil => exact hne' hs
    | cons c u =>
      rw [hs] at e
      have := hall' c (by rw [hs]; exact List.mem_cons_self ..)
      rw [← (List.cons.inj e).1, hl] at this
      cases this
  · exfalso
    rw [hb'] at e
    cases hs : by2 s with
    | nil => exact hne hs
    | cons c u =>
      rw [hs] at e
      have := hall c (by rw [hs]; exact List.mem_cons_self ..)
      rw [(List.cons.inj e).1, hl'] at this
      cases this
  · obtain ⟨e1, e2⟩ := span_eq lod _ _ _ _ hall hall' hz hz' e
    exact ⟨by2_inj e1, e2⟩
def OpOk (o : ByteArray) (f : List Pt) : Prop := o.size = 0 ∧ f = [] ∨ opB o = true
theorem op_mem {o : ByteArray} {f : List Pt} (h : OpOk o f) : (by2 o = [] ∧ f = []) ∨ by2 o ∈ OPS := by
  rcases h with ⟨h, e⟩ | h
  · refine .inl ⟨List.length_eq_zero_iff.1 ?_, e⟩
    have := data_length o
    unfold by2
    omega
  · unfold opB at h
    have := of_decide_eq_true h
    rw [Go.Lib.toList_data] at this
    exact .inr this
theorem op_head {o : ByteArray} {f : List Pt} (h : OpOk o f) (s z : List UInt8) (hs : f = [] → s = []) : ∀ b, (by2 o ++ (s ++ 125 :: z)).head? = some b → lod b = false := by
  intro b hb
  refine opH_lod b ?_
  rcases op_mem h with ⟨h, e⟩ | h
  · rw [h, hs e] at hb
    obtain rfl : (125 : UInt8) = b := by simpa using hb
    rfl
  · unfold OPS at h
    simp only [List.mem_cons, List.not_mem_nil, or_false] at h
    rcases h with h | h | h | h | h | h | h | h <;> (rw [h] at hb; simp at hb; subst hb; rfl)
theorem op_eq {o o' : ByteArray} {f f' : List Pt} (h : OpOk o f) (h' : OpOk o' f') (s s' z z' : List UInt8) (hs : f = [] → s = []) (hs' : f' = [] → s' = []) (e : by2 o ++ (s ++ 125 :: z) = by2 o' ++ (s' ++ 125 :: z')) : o = o' ∧ s ++ 125 :: z = s' ++ 125 :: z' := by
  suffices by2 o = by2 o' ∧ s ++ 125 :: z = s' ++ 125 :: z' from ⟨by2_inj this.1, this.2⟩
  rcases op_mem h with ⟨h1, e1⟩ | h1 <;> rcases op_mem h' with ⟨h2, e2⟩ | h2
  · rw [h1, h2] at e ⊢
    exact ⟨rfl, e⟩
  · exfalso
    rw [h1, hs e1] at e
    unfold OPS at h2
    simp only [List.mem_cons, List.not_mem_nil, or_false] at h2
    rcases h2 with h | h | h | h | h | h | h | h <;> (rw [h] at e; simp at e)
  · exfalso
    rw [h2, hs' e2] at e
    unfold OPS at h1
    simp only [List.mem_cons, List.not_mem_nil, or_false] at h1
    rcases h1 with h | h | h | h | h | h | h | h <;> (rw [h] at e; simp at e)
  · generalize by2 o = p at *
    generalize by2 o' = p' at *
    generalize s ++ 125 :: z = y at *
    generalize s' ++ 125 :: z' = y' at *
    unfold OPS at h1 h2
    simp only [List.mem_cons, List.not_mem_nil, or_false] at h1 h2
    rcases h1 with h1 | h1 | h1 | h1 | h1 | h1 | h1 | h1 <;> rcases h2 with h2 | h2 | h2 | h2 | h2 | h2 | h2 | h2 <;> (subst h1; subst h2; first | exact ⟨rfl, (List.cons.inj e).2⟩ | exact ⟨rfl, (List.cons.inj (List.cons.inj e).2).2⟩ | (exfalso; simp at e; done) | (exfalso; simp at e))
theorem kind_lit {x : Pt} (h : x.f0 = 1) : kindP x = if x.f1 = true then 2 else 1 := if_pos h
theorem kind_par {x : Pt} (h : x.f0 = 2) : kindP x = if x.f1 = true then 4 else 3 := if_neg (by rw [h]; decide)
theorem kind_same {x y : Pt} (hx : x.f0 = 1 ∨ x.f0 = 2) (hy : y.f0 = 1 ∨ y.f0 = 2) (h : kindP x = kindP y) : x.f0 = y.f0 ∧ x.f1 = y.f1 := by
  rcases hx with hx | hx <;> rcases hy with hy | hy
  · rw [kind_lit hx, kind_lit hy] at h
    refine ⟨hx.trans hy.symm, ?_⟩
    revert h
    cases x.f1 <;> cases y.f1 <;> simp
  · rw [kind_lit hx, kind_par hy] at h
    exfalso
    revert h
    cases x.f1 <;> cases y.f1 <;> simp
  · rw [kind_par hx, kind_lit hy] at h
    exfalso
    revert h
    cases x.f1 <;> cases y.f1 <;> simp
  · rw [kind_par hx, kind_par hy] at h
    refine ⟨hx.trans hy.symm, ?_⟩
    revert h
    cases x.f1 <;> cases y.f1 <;> simp
theorem kindP_pos (x : Pt) : kindP x ≠ 0 := by unfold kindP; repeat' split
                                               all_goals decide
theorem pt_ext {x y : Pt} (h0 : x.f0 = y.f0) (h1 : x.f1 = y.f1) (h2 : x.f2 = y.f2) (h3 : x.f3 = y.f3) (h4 : x.f4 = y.f4) : x = y := by
  cases x; cases y; simp_all
theorem size0 {s t : ByteArray} (h : s.size = 0) (h' : t.size = 0) : s = t := by
  refine by2_inj ?_
  have h1 := data_length s
  have h2 := data_length t
  unfold by2
  rw [List.length_eq_zero_iff.1 (h1.trans h), List.length_eq_zero_iff.1 (h2.trans h')]
theorem lit_eq {a : Int} (ha : Pl a) {x y : Pt} {l l' : List Pt} (hx : x.f0 = 1) (hy : y.f0 = 1) (hq : x.f1 = y.f1) (hlx : litB a x = true) (hly : litB a y = true) (hax : ∀ y, l.head? = some y → y.f0 = 1 → y.f1 ≠ x.f1) (hay : ∀ z, l'.head? = some z → z.f0 = 1 → z.f1 ≠ y.f1) (ht : Rt a l) (ht' : Rt a l') {r r' : List UInt8} (hr : Stop a r) (hr' : Stop a r') (s s' : List UInt8) (e : oneL (tt a) x s ++ (wrL (tt a) l ++ r) = oneL (tt a) y s' ++ (wrL (tt a) l' ++ r')) : x = y ∧ wrL (tt a) l ++ r = wrL (tt a) l' ++ r' := by
  obtain ⟨hx3, hx4, hcx⟩ := lit_cases ha hlx
  obtain ⟨hy3, hy4, hcy⟩ := lit_cases ha hly
  suffices by2 x.f2 = by2 y.f2 ∧ wrL (tt a) l ++ r = wrL (tt a) l' ++ r' from ⟨pt_ext (hx.trans hy.symm) hq (by2_inj this.1) (size0 hx3 hy3) (hx4.trans hy4.symm), this.2⟩
  obtain ⟨g1, g2⟩ := tag_row ha ht hr
  obtain ⟨g3, g4⟩ := tag_row ha ht' hr'
  have nk : ∀ (m : List Pt) (q : Bool), (∀ y, m.head? = some y → y.f0 = 1 → y.f1 ≠ q) → kind m ≠ if q = true then 2 else 1 := by
    intro m q h e
    cases m with
    | nil => revert e; cases q <;> simp [kind]
    | cons y m =>
      by_cases h0 : y.f0 = 1
      · have := h y rfl h0
        rw [show kind (y :: m) = kindP y from rfl, kind_lit h0] at e
        revert e this
        cases q <;> cases y.f1 <;> simp
      · rw [show kind (y :: m) = if y.f1 = true then 4 else 3 from if_neg h0] at e
        revert e
        cases q <;> cases y.f1 <;> simp
  have n1 := nk l x.f1 hax
  have n2 := nk l' x.f1 (by rw [hq]; exact hay)
  rcases hcx with ⟨h2, hqx, hne⟩ | ⟨h2, hqx⟩ | ⟨h2, hqx, hne, hall⟩
  · subst h2
    rw [one_t (t := tt 2) hx rfl, one_t (t := tt 2) hy rfl] at e
    rw [hqx, if_pos rfl] at n1 n2
    have ends : ∀ z : List UInt8, ∀ m : List Pt, Rt 2 m → tag 2 z = kind m → kind m ≠ 2 → z ≠ [] → Ends z := by
      intro z m _ h1 h2 h3
      cases z with
      | nil => exact absurd rfl h3
      | cons b z =>
        rw [show tag 2 (b :: z) = tagB 2 b from rfl] at h1
        unfold tagB at h1
        rw [if_pos rfl] at h1
        by_cases hb : b = 125
        · rw [hb]; exact .inr rfl
        · rw [if_neg hb] at h1
          by_cases hb2 : b = 36
          · rw [hb2]; exact .inl rfl
          · rw [if_neg hb2] at h1
            exact absurd h1.symm h2
    have nn : ∀ (m : List Pt) (r : List UInt8), Stop 2 r → wrL (tt 2) m ++ r ≠ [] := by
      intro m r h e
      unfold Stop at h
      rw [if_neg (by decide)] at h
      obtain ⟨s, rfl⟩ := h
      simp at e
    exact esc_eq _ _ _ _ (ends _ l ht g1 n1 (nn _ _ hr)) (ends _ l' ht' g3 n2 (nn _ _ hr')) e
  · rw [one_q hx (decide_eq_false h2) hqx, one_q hy (decide_eq_false h2) (hq ▸ hqx)] at e
    simp only [List.cons_append, List.append_assoc, List.nil_append, List.cons.injEq, true_and] at e
    exact qz_eq _ _ _ _ (g2 h2) (g4 h2) e
  · rw [one_b hx (decide_eq_false h2) hqx, one_b hy (decide_eq_false h2) (hq ▸ hqx)] at e
    rw [hqx, if_neg (by decide)] at n1 n2
    have hall' : ∀ b ∈ by2 y.f2, tagB a b = 1 ∧ b ≠ 92 := by
      rcases hcy with ⟨h, _⟩ | ⟨_, h⟩ | ⟨_, _, _, h⟩
      · exact absurd h h2
      · rw [← hq, hqx] at h; cases h
      · exact h
    have hd : ∀ (z : List UInt8) (m : List Pt), tag a z = kind m → kind m ≠ 1 → ∀ b, z.head? = some b → decide (tagB a b = 1) = false := by
      intro z m h1 h2 b hb
      cases z with
      | nil => cases hb
      | cons c z =>
        obtain rfl : c = b := by simpa using hb
        refine decide_eq_false fun h => h2 ?_
        rw [← h1]
        exact h
    exact span_eq (fun b => decide (tagB a b = 1)) _ _ _ _ (fun b hb => decide_eq_true (hall b hb).1) (fun b hb => decide_eq_true (hall' b hb).1) (hd _ l g1 n1) (hd _ l' g3 n2) e
theorem next_pl (q : Bool) : Pl (nextI q) ∧ tt (nextI q) = q ∧ nextI q ≠ 0 := by
  cases q
  · exact ⟨.inr (.inl rfl), rfl, by decide⟩
  · exact ⟨.inr (.inr rfl), rfl, by decide⟩
theorem inj_any {a : Int} {l : List Pt} (h : Rt a l) : Pl a → ∀ (l' : List Pt) (r r' : List UInt8), Rt a l' → Stop a r → Stop a r' → wrL (tt a) l ++ r = wrL (tt a) l' ++ r' → l = l' ∧ r = r' := by
  induction h with
  | nil a =>
    intro ha l' r r' h' hr hr' e
    have g1 := (tag_row ha (.nil a) hr).1
    have g2 := (tag_row ha h' hr').1
    rw [e, g2] at g1
    cases l' with
    | nil =>
      rw [wrL_nil] at e
      exact ⟨rfl, e⟩
    | cons y l' => exact absurd g1 (kindP_pos y)
  | lit a x l h0 hl hadj ht ih =>
    intro ha l' r r' h' hr hr' e
    have g1 := (tag_row ha (.lit a x l h0 hl hadj ht) hr).1
    have g2 := (tag_row ha h' hr').1
    rw [e, g2] at g1
    rw [show kind (x :: l) = kindP x from rfl] at g1
    cases h' with
    | nil => exact absurd g1.symm (kindP_pos x)
    | lit _ y l2 h0' hl' hadj' ht' =>
      obtain ⟨_, e1⟩ := kind_same (.inl h0') (.inl h0) g1
      rw [wrL_cons, wrL_cons, List.append_assoc, List.append_assoc] at e
      obtain ⟨e2, e3⟩ := lit_eq ha h0 h0' e1.symm hl hl' hadj hadj' ht ht' hr hr' _ _ e
      obtain ⟨e4, e5⟩ := ih ha l2 r r' ht' hr hr' e3
      rw [e2, e4]
      exact ⟨rfl, e5⟩
    | par _ y l2 h0' hp' hq' ho' hs' ht' =>
      have := (kind_same (.inr h0') (.inl h0) g1).1
      rw [h0, h0'] at this
      exact absurd this (by decide)
  | par a x l h0 hp hq ho hs ht ihs ih =>
    intro ha l' r r' h' hr hr' e
    have g1 := (tag_row ha (.par a x l h0 hp hq ho hs ht) hr).1
    have g2 := (tag_row ha h' hr').1
    rw [e, g2] at g1
    rw [show kind (x :: l) = kindP x from rfl] at g1
    cases h' with
    | nil => exact absurd g1.symm (kindP_pos x)
    | lit _ y l2 h0' hl' hadj' ht' =>
      have := (kind_same (.inl h0') (.inr h0) g1).1
      rw [h0, h0'] at this
      exact absurd this (by decide)
    | par _ y l2 h0' hp' hq' ho' hs' ht' =>
      obtain ⟨_, e1⟩ := kind_same (.inr h0') (.inr h0) g1
      rw [wrL_cons, wrL_cons, List.append_assoc, List.append_assoc, one_p h0, one_p h0'] at e
      have hm : mark (tt a) y = mark (tt a) x := by unfold mark; rw [e1]
      rw [hm] at e
      simp only [List.append_assoc, List.cons_append] at e
      have e := (List.append_right_inj _).1 e
      simp only [List.cons.injEq, true_and] at e
      have n1 : x.f4 = [] → wrL x.f1 x.f4 = [] := fun h => by rw [h, wrL_nil]
      have n2 : y.f4 = [] → wrL y.f1 y.f4 = [] := fun h => by rw [h, wrL_nil]
      obtain ⟨e2, e⟩ := name_eq hp hp' (op_head ho _ _ n1) (op_head ho' _ _ n2) e
      obtain ⟨e3, e⟩ := op_eq ho ho' _ _ _ _ n1 n2 e
      obtain ⟨p1, p2, p3⟩ := next_pl x.f1
      have hst : ∀ z, Stop (nextI x.f1) (125 :: z) := fun z => by
        unfold Stop
        rw [if_neg p3]
        exact ⟨z, rfl⟩
      rw [e1] at e hs'
      obtain ⟨e4, e5⟩ := ihs p1 y.f4 _ _ hs' (hst _) (hst _) (by rw [p2]; exact e)
      have e6 := (List.append_right_inj _).1 (List.cons.inj e5).2
      obtain ⟨e7, e8⟩ := ih ha l2 r r' ht' hr hr' e6
      rw [pt_ext (h0.trans h0'.symm) e1.symm e2 e3 e4, e7]
      exact ⟨rfl, e8⟩
theorem wrL_inj {l l' : List Pt} (h : Rt 0 l) (h' : Rt 0 l') (e : wrL false l = wrL false l') : l = l' := by
  have hr : Stop 0 [] := rfl
  exact (inj_any h (.inl rfl) l' [] [] h' hr hr (by rw [show tt 0 = false from rfl, e])).1
theorem wrL_empty {l : List Pt} (h : Rt 0 l) (e : wrL false l = []) : l = [] := wrL_inj h (.nil 0) (by rw [e, wrL_nil])
end Go.Proofs.YtkecpfjmdokieaaDoor.Word
namespace Go.Proofs.YtkecpfjmdokieaaDoor.P
open Go.RowKit Go.Proofs.YtkecpfjmdokieaaDoorW.PrintWords Go.Proofs.YtkecpfjmdokieaaDoorW.PrintLast Go.Proofs.YtkecpfjmdokieaaDoorW.PrintMore
attribute [local go_sem] max2_int min2_int max_two min_two max_three min_three max_four min_four   -- for this text's walks alone
set_option linter.unusedVariables false
set_option linter.unusedSimpArgs false
mutual
def deadfallref03_written.l0 : Nat → Int → ByteArray → List (S33) → Int → Int → Option (ByteArray)
  | 0, _, _, _, _, _ => none
  | k + 1, x1, x5, x11, x12, x13 => if x13 < x12 then (if 0 ≤ x13 then (if x13 < (x11.length : Int) then (if ((rd_T33 x11 x13).f0) = 2 then (if (rd_T33 x11 x13).f1 = true then (if 2 + ((rd_T33 x11 x13).f2).size ≤ 9223372036854775807 then (if ((⟨#[36, 123]⟩ : ByteArray) ++ ((rd_T33 x11 x13).f2)).size + ((rd_T33 x11 x13).f3).size ≤ 9223372036854775807 then ((deadfallref03_written.f k ((rd_T33 x11 x13).f4) 2).bind fun t177 => (if (((⟨#[36, 123]⟩ : ByteArray) ++ ((rd_T33 x11 x13).f2)) ++ ((rd_T33 x11 x13).f3)).size + t177.size ≤ 9223372036854775807 then (if ((((⟨#[36, 123]⟩ : ByteArray) ++ ((rd_T33 x11 x13).f2)) ++ ((rd_T33 x11 x13).f3)) ++ t177).size + 1 ≤ 9223372036854775807 then (if x1 = 2 then (if x5.size + (((((⟨#[36, 123]⟩ : ByteArray) ++ ((rd_T33 x11 x13).f2)) ++ ((rd_T33 x11 x13).f3)) ++ t177) ++ (⟨#[125]⟩ : ByteArray)).size ≤ 9223372036854775807 then (deadfallref03_written.l0 k x1 (x5 ++ (((((⟨#[36, 123]⟩ : ByteArray) ++ ((rd_T33 x11 x13).f2)) ++ ((rd_T33 x11 x13).f3)) ++ t177) ++ (⟨#[125]⟩ : ByteArray))) x11 x12 (wrap64 (x13 + 1))) else (none)) else (if 1 + (((((⟨#[36, 123]⟩ : ByteArray) ++ ((rd_T33 x11 x13).f2)) ++ ((rd_T33 x11 x13).f3)) ++ t177) ++ (⟨#[125]⟩ : ByteArray)).size ≤ 9223372036854775807 then (if ((⟨#[34]⟩ : ByteArray) ++ (((((⟨#[36, 123]⟩ : ByteArray) ++ ((rd_T33 x11 x13).f2)) ++ ((rd_T33 x11 x13).f3)) ++ t177) ++ (⟨#[125]⟩ : ByteArray))).size + 1 ≤ 9223372036854775807 then (if x5.size + (((⟨#[34]⟩ : ByteArray) ++ (((((⟨#[36, 123]⟩ : ByteArray) ++ ((rd_T33 x11 x13).f2)) ++ ((rd_T33 x11 x13).f3)) ++ t177) ++ (⟨#[125]⟩ : ByteArray))) ++ (⟨#[34]⟩ : ByteArray)).size ≤ 9223372036854775807 then (deadfallref03_written.l0 k x1 (x5 ++ (((⟨#[34]⟩ : ByteArray) ++ (((((⟨#[36, 123]⟩ : ByteArray) ++ ((rd_T33 x11 x13).f2)) ++ ((rd_T33 x11 x13).f3)) ++ t177) ++ (⟨#[125]⟩ : ByteArray))) ++ (⟨#[34]⟩ : ByteArray))) x11 x12 (wrap64 (x13 + 1))) else (none)) else (none)) else (none))) else (none)) else (none))) else (none)) else (none)) else (if 2 + ((rd_T33 x11 x13).f2).size ≤ 9223372036854775807 then (if ((⟨#[36, 123]⟩ : ByteArray) ++ ((rd_T33 x11 x13).f2)).size + ((rd_T33 x11 x13).f3).size ≤ 9223372036854775807 then ((deadfallref03_written.f k ((rd_T33 x11 x13).f4) 1).bind fun t178 => (if (((⟨#[36, 123]⟩ : ByteArray) ++ ((rd_T33 x11 x13).f2)) ++ ((rd_T33 x11 x13).f3)).size + t178.size ≤ 9223372036854775807 then (if ((((⟨#[36, 123]⟩ : ByteArray) ++ ((rd_T33 x11 x13).f2)) ++ ((rd_T33 x11 x13).f3)) ++ t178).size + 1 ≤ 9223372036854775807 then (if x5.size + (((((⟨#[36, 123]⟩ : ByteArray) ++ ((rd_T33 x11 x13).f2)) ++ ((rd_T33 x11 x13).f3)) ++ t178) ++ (⟨#[125]⟩ : ByteArray)).size ≤ 9223372036854775807 then (deadfallref03_written.l0 k x1 (x5 ++ (((((⟨#[36, 123]⟩ : ByteArray) ++ ((rd_T33 x11 x13).f2)) ++ ((rd_T33 x11 x13).f3)) ++ t178) ++ (⟨#[125]⟩ : ByteArray))) x11 x12 (wrap64 (x13 + 1))) else (none)) else (none)) else (none))) else (none)) else (none))) else (if x1 = 2 then (deadfallref03_written.l1 k x1 x5 0 x11 x12 x13 ((rd_T33 x11 x13).f0) ((rd_T33 x11 x13).f1) ((rd_T33 x11 x13).f2) ((rd_T33 x11 x13).f3) ((rd_T33 x11 x13).f4)) else (if (rd_T33 x11 x13).f1 = true then ((deadfallref03_Quote.f k ((rd_T33 x11 x13).f2)).bind fun t180 => (if x5.size + t180.size ≤ 9223372036854775807 then (deadfallref03_written.l0 k x1 (x5 ++ t180) x11 x12 (wrap64 (x13 + 1))) else (none))) else (if x5.size + ((rd_T33 x11 x13).f2).size ≤ 9223372036854775807 then (deadfallref03_written.l0 k x1 (x5 ++ ((rd_T33 x11 x13).f2)) x11 x12 (wrap64 (x13 + 1))) else (none))))) else (none)) else (none)) else (some x5)
def deadfallref03_written.l1 : Nat → Int → ByteArray → Int → List (S33) → Int → Int → Int → Bool → ByteArray → ByteArray → List (S33) → Option (ByteArray)
  | 0, _, _, _, _, _, _, _, _, _, _, _ => none
  | k + 1, x1, x5, x10, x11, x12, x13, x177000, x177001, x177002, x177003, x177004 => if x10 < (x177002.size : Int) then (if 0 ≤ x10 then ((deadfallref03_among.f k (bt x177002 x10) (⟨#[34, 36, 92, 96, 125]⟩ : ByteArray)).bind fun t179 => (if t179 = true then (if x5.size + 1 ≤ 9223372036854775807 then (if x10 ≤ (wrap64 (x10 + 1)) then (if (wrap64 (x10 + 1)) ≤ (x177002.size : Int) then (if (x5 ++ (⟨#[92]⟩ : ByteArray)).size + (x177002.extract (x10 : Int).toNat ((wrap64 (x10 + 1)) : Int).toNat).size ≤ 9223372036854775807 then (deadfallref03_written.l1 k x1 ((x5 ++ (⟨#[92]⟩ : ByteArray)) ++ (x177002.extract (x10 : Int).toNat ((wrap64 (x10 + 1)) : Int).toNat)) (wrap64 (x10 + 1)) x11 x12 x13 x177000 x177001 x177002 x177003 x177004) else (none)) else (none)) else (none)) else (none)) else (if x10 ≤ (wrap64 (x10 + 1)) then (if (wrap64 (x10 + 1)) ≤ (x177002.size : Int) then (if x5.size + (x177002.extract (x10 : Int).toNat ((wrap64 (x10 + 1)) : Int).toNat).size ≤ 9223372036854775807 then (deadfallref03_written.l1 k x1 (x5 ++ (x177002.extract (x10 : Int).toNat ((wrap64 (x10 + 1)) : Int).toNat)) (wrap64 (x10 + 1)) x11 x12 x13 x177000 x177001 x177002 x177003 x177004) else (none)) else (none)) else (none)))) else (none)) else (deadfallref03_written.l0 k x1 x5 x11 x12 (wrap64 (x13 + 1)))
def deadfallref03_written.f : Nat → List (S33) → Int → Option (ByteArray)
  | 0, _, _ => none
  | k + 1, l0, a1 => deadfallref03_written.l0 k a1 (⟨#[]⟩ : ByteArray) l0 (l0.length : Int) 0
end
def deadfallref03_written.T9 : Bool × List (List Nat × List Nat) := (true, [([], []), ([0], [0]), ([1], [1]), ([], []), ([3], [3]), ([2, 4], [2, 4]), ([], []), ([6], [6]), ([], []), ([7, 8], [7, 8]), ([5, 9], [5, 9]), ([10], [10]), ([11, 9, 0, 1, 2, 3, 4, 5, 6, 7, 8, 9, 10, 11], [11])])
def deadfallref03_written.B9 : List Nat := [0, 1, 3, 0, 8, 31, 0, 64, 0, 448, 1023, 2047, 4095]
theorem deadfallref03_written.tab9 : rtab .any (opsOf Tryd.f27 9) = deadfallref03_written.T9 := by kernel_rfl
theorem deadfallref03_written.bits9 : waitsOk deadfallref03_written.T9.2 deadfallref03_written.B9 = true := by kernel_rfl
set_option maxHeartbeats 8000000 in
set_option maxRecDepth 100000 in
theorem deadfallref03_written.calls (k : Nat) : ∀ (A0 : Option Addr) (c0 : Nat) (l0 : List (S33)) (a1 : Int) (r : ByteArray) (w : World) (hr0 : Kd.C k33 w A0 l0.length l0) (hc0 : l0.length ≤ c0) (h : deadfallref03_written.f k l0 a1 = some r),
    Calls Tryd.prog 27 #[.slice A0 l0.length c0, .int .i64 a1] w fun e w' => e = .returned (.string r) ∧ Below w.heap.size w w' := by
  induction k using Nat.strongRecOn with
  | _ k ih =>
  intro A0 c0 l0 a1 r w hr0 hc0 h
  cases k with
  | zero => exact absurd h (by simp [deadfallref03_written.f])
  | succ k =>
  simp only [deadfallref03_written.f] at h
  have hu33 := Tryd.underlying33
  have HR0 := Aside0.mk hr0
  have HC0 := Aside0.mk hc0
  clear hr0 hc0
  have HB := Aside0.mk (Below.refl w.heap.size w)
  have H : (deadfallref03_written.l0 k a1 (⟨#[]⟩ : ByteArray) l0 (l0.length : Int) 0) = some r := h
  clear h
  have H' := Aside0.mk H
  clear H
  go_enter Tryd.func27, Tryd.ntmps27
  go_wp2
  go_loopg [5, 13] k (fun kq v5 v13 w' => ∃ (x5_1 : ByteArray) (x13_1 : Int), v5 = .string x5_1 ∧ v13 = .int .i64 x13_1 ∧ Aside0 (deadfallref03_written.l0 kq a1 x5_1 l0 (l0.length : Int) x13_1 = some r) ∧ Aside0 (kq ≤ k) ∧ Aside0 (Below w.heap.size w w'))
  case atStart => exact ⟨((⟨#[]⟩ : ByteArray)), (0), (by first | rfl | (simp; done) | (simp [*]; done)), (by first | rfl | (simp; done) | (simp [*]; done)), H', ⟨Nat.le_refl _⟩, ⟨by repeat (first | (with_reducible first | exact HB.out | apply below_alloc | apply pw_below_drewN | apply below_drew1) | exact HB.out)⟩⟩
  case round =>
    clear H'
    try clear c2
    try clear p2
    obtain ⟨x5_1, x13_1, rfl, rfl, HA, HK1, HB⟩ := hrel
    cases gk with
    | zero => exact absurd HA.out (by simp [deadfallref03_written.l0])
    | succ k1 =>
      have H := HA.out
      clear HA
      simp only [deadfallref03_written.l0] at H
      by_cases c3 : x13_1 < (l0.length : Int)
      · rw [if_pos c3] at H
        have c3b0 : decide (x13_1 < (l0.length : Int)) = true := decide_eq_true c3
        clear c3
        by_cases c4 : 0 ≤ x13_1
        · rw [if_pos c4] at H
          have c4b0 : decide (0 ≤ x13_1) = true := decide_eq_true c4
          clear c4
          by_cases c5 : x13_1 < (l0.length : Int)
          · rw [if_pos c5] at H
            have c5b0 : decide (x13_1 < (l0.length : Int)) = true := decide_eq_true c5
            clear c5
            by_cases c6 : ((rd_T33 l0 x13_1).f0) = 2
            · rw [if_pos c6] at H
              have c6b0 : (((rd_T33 l0 x13_1).f0) == 2) = true := beq_iff_eq.mpr c6
              have c6b1 : (((rd_T33 l0 x13_1).f0) != 2) = false := bne_eq_false_iff_eq.mpr c6
              clear c6
              obtain ⟨bq7, hbq7⟩ : ∃ b_ : Bool, b_ = ((rd_T33 l0 x13_1).f1) := ⟨_, rfl⟩
              replace H : (if bq7 = true then (if 2 + ((rd_T33 l0 x13_1).f2).size ≤ 9223372036854775807 then (if ((⟨#[36, 123]⟩ : ByteArray) ++ ((rd_T33 l0 x13_1).f2)).size + ((rd_T33 l0 x13_1).f3).size ≤ 9223372036854775807 then ((deadfallref03_written.f k1 ((rd_T33 l0 x13_1).f4) 2).bind fun t177 => (if (((⟨#[36, 123]⟩ : ByteArray) ++ ((rd_T33 l0 x13_1).f2)) ++ ((rd_T33 l0 x13_1).f3)).size + t177.size ≤ 9223372036854775807 then (if ((((⟨#[36, 123]⟩ : ByteArray) ++ ((rd_T33 l0 x13_1).f2)) ++ ((rd_T33 l0 x13_1).f3)) ++ t177).size + 1 ≤ 9223372036854775807 then (if a1 = 2 then (if x5_1.size + (((((⟨#[36, 123]⟩ : ByteArray) ++ ((rd_T33 l0 x13_1).f2)) ++ ((rd_T33 l0 x13_1).f3)) ++ t177) ++ (⟨#[125]⟩ : ByteArray)).size ≤ 9223372036854775807 then (deadfallref03_written.l0 k1 a1 (x5_1 ++ (((((⟨#[36, 123]⟩ : ByteArray) ++ ((rd_T33 l0 x13_1).f2)) ++ ((rd_T33 l0 x13_1).f3)) ++ t177) ++ (⟨#[125]⟩ : ByteArray))) l0 (l0.length : Int) (wrap64 (x13_1 + 1))) else (none)) else (if 1 + (((((⟨#[36, 123]⟩ : ByteArray) ++ ((rd_T33 l0 x13_1).f2)) ++ ((rd_T33 l0 x13_1).f3)) ++ t177) ++ (⟨#[125]⟩ : ByteArray)).size ≤ 9223372036854775807 then (if ((⟨#[34]⟩ : ByteArray) ++ (((((⟨#[36, 123]⟩ : ByteArray) ++ ((rd_T33 l0 x13_1).f2)) ++ ((rd_T33 l0 x13_1).f3)) ++ t177) ++ (⟨#[125]⟩ : ByteArray))).size + 1 ≤ 9223372036854775807 then (if x5_1.size + (((⟨#[34]⟩ : ByteArray) ++ (((((⟨#[36, 123]⟩ : ByteArray) ++ ((rd_T33 l0 x13_1).f2)) ++ ((rd_T33 l0 x13_1).f3)) ++ t177) ++ (⟨#[125]⟩ : ByteArray))) ++ (⟨#[34]⟩ : ByteArray)).size ≤ 9223372036854775807 then (deadfallref03_written.l0 k1 a1 (x5_1 ++ (((⟨#[34]⟩ : ByteArray) ++ (((((⟨#[36, 123]⟩ : ByteArray) ++ ((rd_T33 l0 x13_1).f2)) ++ ((rd_T33 l0 x13_1).f3)) ++ t177) ++ (⟨#[125]⟩ : ByteArray))) ++ (⟨#[34]⟩ : ByteArray))) l0 (l0.length : Int) (wrap64 (x13_1 + 1))) else (none)) else (none)) else (none))) else (none)) else (none))) else (none)) else (none)) else (if 2 + ((rd_T33 l0 x13_1).f2).size ≤ 9223372036854775807 then (if ((⟨#[36, 123]⟩ : ByteArray) ++ ((rd_T33 l0 x13_1).f2)).size + ((rd_T33 l0 x13_1).f3).size ≤ 9223372036854775807 then ((deadfallref03_written.f k1 ((rd_T33 l0 x13_1).f4) 1).bind fun t178 => (if (((⟨#[36, 123]⟩ : ByteArray) ++ ((rd_T33 l0 x13_1).f2)) ++ ((rd_T33 l0 x13_1).f3)).size + t178.size ≤ 9223372036854775807 then (if ((((⟨#[36, 123]⟩ : ByteArray) ++ ((rd_T33 l0 x13_1).f2)) ++ ((rd_T33 l0 x13_1).f3)) ++ t178).size + 1 ≤ 9223372036854775807 then (if x5_1.size + (((((⟨#[36, 123]⟩ : ByteArray) ++ ((rd_T33 l0 x13_1).f2)) ++ ((rd_T33 l0 x13_1).f3)) ++ t178) ++ (⟨#[125]⟩ : ByteArray)).size ≤ 9223372036854775807 then (deadfallref03_written.l0 k1 a1 (x5_1 ++ (((((⟨#[36, 123]⟩ : ByteArray) ++ ((rd_T33 l0 x13_1).f2)) ++ ((rd_T33 l0 x13_1).f3)) ++ t178) ++ (⟨#[125]⟩ : ByteArray))) l0 (l0.length : Int) (wrap64 (x13_1 + 1))) else (none)) else (none)) else (none))) else (none)) else (none))) = some r := by rw [← hbq7] at H; exact H
              have Nbq7 := Aside0.mk hbq7
              clear hbq7
              by_cases c8 : bq7 = true
              · subst c8
                have H1 : (if 2 + ((rd_T33 l0 x13_1).f2).size ≤ 9223372036854775807 then (if ((⟨#[36, 123]⟩ : ByteArray) ++ ((rd_T33 l0 x13_1).f2)).size + ((rd_T33 l0 x13_1).f3).size ≤ 9223372036854775807 then ((deadfallref03_written.f k1 ((rd_T33 l0 x13_1).f4) 2).bind fun t177 => (if (((⟨#[36, 123]⟩ : ByteArray) ++ ((rd_T33 l0 x13_1).f2)) ++ ((rd_T33 l0 x13_1).f3)).size + t177.size ≤ 9223372036854775807 then (if ((((⟨#[36, 123]⟩ : ByteArray) ++ ((rd_T33 l0 x13_1).f2)) ++ ((rd_T33 l0 x13_1).f3)) ++ t177).size + 1 ≤ 9223372036854775807 then (if a1 = 2 then (if x5_1.size + (((((⟨#[36, 123]⟩ : ByteArray) ++ ((rd_T33 l0 x13_1).f2)) ++ ((rd_T33 l0 x13_1).f3)) ++ t177) ++ (⟨#[125]⟩ : ByteArray)).size ≤ 9223372036854775807 then (deadfallref03_written.l0 k1 a1 (x5_1 ++ (((((⟨#[36, 123]⟩ : ByteArray) ++ ((rd_T33 l0 x13_1).f2)) ++ ((rd_T33 l0 x13_1).f3)) ++ t177) ++ (⟨#[125]⟩ : ByteArray))) l0 (l0.length : Int) (wrap64 (x13_1 + 1))) else (none)) else (if 1 + (((((⟨#[36, 123]⟩ : ByteArray) ++ ((rd_T33 l0 x13_1).f2)) ++ ((rd_T33 l0 x13_1).f3)) ++ t177) ++ (⟨#[125]⟩ : ByteArray)).size ≤ 9223372036854775807 then (if ((⟨#[34]⟩ : ByteArray) ++ (((((⟨#[36, 123]⟩ : ByteArray) ++ ((rd_T33 l0 x13_1).f2)) ++ ((rd_T33 l0 x13_1).f3)) ++ t177) ++ (⟨#[125]⟩ : ByteArray))).size + 1 ≤ 9223372036854775807 then (if x5_1.size + (((⟨#[34]⟩ : ByteArray) ++ (((((⟨#[36, 123]⟩ : ByteArray) ++ ((rd_T33 l0 x13_1).f2)) ++ ((rd_T33 l0 x13_1).f3)) ++ t177) ++ (⟨#[125]⟩ : ByteArray))) ++ (⟨#[34]⟩ : ByteArray)).size ≤ 9223372036854775807 then (deadfallref03_written.l0 k1 a1 (x5_1 ++ (((⟨#[34]⟩ : ByteArray) ++ (((((⟨#[36, 123]⟩ : ByteArray) ++ ((rd_T33 l0 x13_1).f2)) ++ ((rd_T33 l0 x13_1).f3)) ++ t177) ++ (⟨#[125]⟩ : ByteArray))) ++ (⟨#[34]⟩ : ByteArray))) l0 (l0.length : Int) (wrap64 (x13_1 + 1))) else (none)) else (none)) else (none))) else (none)) else (none))) else (none)) else (none)) = some r := by rw [if_pos rfl] at H; exact H
                clear H
                have H := H1
                clear H1
                by_cases c9 : 2 + ((rd_T33 l0 x13_1).f2).size ≤ 9223372036854775807
                · rw [if_pos c9] at H
                  have c9b0 := eq_true c9
                  have c9b1 : decide (2 + ((rd_T33 l0 x13_1).f2).size ≤ 9223372036854775807) = true := decide_eq_true c9
                  try have c9b2 : (9223372036854775807 < 2 + ((rd_T33 l0 x13_1).f2).size) = False := eq_false (Nat.not_lt.2 c9)
                  try (have c9b3 := c9b2; simp only [ByteArray.size_append, show (⟨#[36, 123]⟩ : ByteArray).size = 2 from rfl, show (⟨#[125]⟩ : ByteArray).size = 1 from rfl, show (⟨#[34]⟩ : ByteArray).size = 1 from rfl, show (⟨#[92]⟩ : ByteArray).size = 1 from rfl] at c9b3)
                  by_cases c10 : ((⟨#[36, 123]⟩ : ByteArray) ++ ((rd_T33 l0 x13_1).f2)).size + ((rd_T33 l0 x13_1).f3).size ≤ 9223372036854775807
                  · rw [if_pos c10] at H
                    have c10b0 := eq_true c10
                    have c10b1 : decide (((⟨#[36, 123]⟩ : ByteArray) ++ ((rd_T33 l0 x13_1).f2)).size + ((rd_T33 l0 x13_1).f3).size ≤ 9223372036854775807) = true := decide_eq_true c10
                    try have c10b2 : (9223372036854775807 < ((⟨#[36, 123]⟩ : ByteArray) ++ ((rd_T33 l0 x13_1).f2)).size + ((rd_T33 l0 x13_1).f3).size) = False := eq_false (Nat.not_lt.2 c10)
                    try (have c10b3 := c10b2; simp only [ByteArray.size_append, show (⟨#[36, 123]⟩ : ByteArray).size = 2 from rfl, show (⟨#[125]⟩ : ByteArray).size = 1 from rfl, show (⟨#[34]⟩ : ByteArray).size = 1 from rfl, show (⟨#[92]⟩ : ByteArray).size = 1 from rfl] at c10b3)
                    replace H := Option.bind_eq_some_iff.mp H
                    obtain ⟨t177, A110, H⟩ := H
                    replace H : (if (((⟨#[36, 123]⟩ : ByteArray) ++ ((rd_T33 l0 x13_1).f2)) ++ ((rd_T33 l0 x13_1).f3)).size + t177.size ≤ 9223372036854775807 then (if ((((⟨#[36, 123]⟩ : ByteArray) ++ ((rd_T33 l0 x13_1).f2)) ++ ((rd_T33 l0 x13_1).f3)) ++ t177).size + 1 ≤ 9223372036854775807 then (if a1 = 2 then (if x5_1.size + (((((⟨#[36, 123]⟩ : ByteArray) ++ ((rd_T33 l0 x13_1).f2)) ++ ((rd_T33 l0 x13_1).f3)) ++ t177) ++ (⟨#[125]⟩ : ByteArray)).size ≤ 9223372036854775807 then (deadfallref03_written.l0 k1 a1 (x5_1 ++ (((((⟨#[36, 123]⟩ : ByteArray) ++ ((rd_T33 l0 x13_1).f2)) ++ ((rd_T33 l0 x13_1).f3)) ++ t177) ++ (⟨#[125]⟩ : ByteArray))) l0 (l0.length : Int) (wrap64 (x13_1 + 1))) else (none)) else (if 1 + (((((⟨#[36, 123]⟩ : ByteArray) ++ ((rd_T33 l0 x13_1).f2)) ++ ((rd_T33 l0 x13_1).f3)) ++ t177) ++ (⟨#[125]⟩ : ByteArray)).size ≤ 9223372036854775807 then (if ((⟨#[34]⟩ : ByteArray) ++ (((((⟨#[36, 123]⟩ : ByteArray) ++ ((rd_T33 l0 x13_1).f2)) ++ ((rd_T33 l0 x13_1).f3)) ++ t177) ++ (⟨#[125]⟩ : ByteArray))).size + 1 ≤ 9223372036854775807 then (if x5_1.size + (((⟨#[34]⟩ : ByteArray) ++ (((((⟨#[36, 123]⟩ : ByteArray) ++ ((rd_T33 l0 x13_1).f2)) ++ ((rd_T33 l0 x13_1).f3)) ++ t177) ++ (⟨#[125]⟩ : ByteArray))) ++ (⟨#[34]⟩ : ByteArray)).size ≤ 9223372036854775807 then (deadfallref03_written.l0 k1 a1 (x5_1 ++ (((⟨#[34]⟩ : ByteArray) ++ (((((⟨#[36, 123]⟩ : ByteArray) ++ ((rd_T33 l0 x13_1).f2)) ++ ((rd_T33 l0 x13_1).f3)) ++ t177) ++ (⟨#[125]⟩ : ByteArray))) ++ (⟨#[34]⟩ : ByteArray))) l0 (l0.length : Int) (wrap64 (x13_1 + 1))) else (none)) else (none)) else (none))) else (none)) else (none)) = some r := H
                    have A11 := Aside0.mk A110
                    clear A110
                    by_cases c12 : (((⟨#[36, 123]⟩ : ByteArray) ++ ((rd_T33 l0 x13_1).f2)) ++ ((rd_T33 l0 x13_1).f3)).size + t177.size ≤ 9223372036854775807
                    · rw [if_pos c12] at H
                      have c12b0 := eq_true c12
                      have c12b1 : decide ((((⟨#[36, 123]⟩ : ByteArray) ++ ((rd_T33 l0 x13_1).f2)) ++ ((rd_T33 l0 x13_1).f3)).size + t177.size ≤ 9223372036854775807) = true := decide_eq_true c12
                      try have c12b2 : (9223372036854775807 < (((⟨#[36, 123]⟩ : ByteArray) ++ ((rd_T33 l0 x13_1).f2)) ++ ((rd_T33 l0 x13_1).f3)).size + t177.size) = False := eq_false (Nat.not_lt.2 c12)
                      try (have c12b3 := c12b2; simp only [ByteArray.size_append, show (⟨#[36, 123]⟩ : ByteArray).size = 2 from rfl, show (⟨#[125]⟩ : ByteArray).size = 1 from rfl, show (⟨#[34]⟩ : ByteArray).size = 1 from rfl, show (⟨#[92]⟩ : ByteArray).size = 1 from rfl] at c12b3)
                      by_cases c13 : ((((⟨#[36, 123]⟩ : ByteArray) ++ ((rd_T33 l0 x13_1).f2)) ++ ((rd_T33 l0 x13_1).f3)) ++ t177).size + 1 ≤ 9223372036854775807
                      · rw [if_pos c13] at H
                        have c13b0 := eq_true c13
                        have c13b1 : decide (((((⟨#[36, 123]⟩ : ByteArray) ++ ((rd_T33 l0 x13_1).f2)) ++ ((rd_T33 l0 x13_1).f3)) ++ t177).size + 1 ≤ 9223372036854775807) = true := decide_eq_true c13
                        try have c13b2 : (9223372036854775807 < ((((⟨#[36, 123]⟩ : ByteArray) ++ ((rd_T33 l0 x13_1).f2)) ++ ((rd_T33 l0 x13_1).f3)) ++ t177).size + 1) = False := eq_false (Nat.not_lt.2 c13)
                        try (have c13b3 := c13b2; simp only [ByteArray.size_append, show (⟨#[36, 123]⟩ : ByteArray).size = 2 from rfl, show (⟨#[125]⟩ : ByteArray).size = 1 from rfl, show (⟨#[34]⟩ : ByteArray).size = 1 from rfl, show (⟨#[92]⟩ : ByteArray).size = 1 from rfl] at c13b3)
                        by_cases c14 : a1 = 2
                        · rw [if_pos c14] at H
                          have c14b0 : (a1 == 2) = true := beq_iff_eq.mpr c14
                          have c14b1 : (a1 != 2) = false := bne_eq_false_iff_eq.mpr c14
                          clear c14
                          by_cases c15 : x5_1.size + (((((⟨#[36, 123]⟩ : ByteArray) ++ ((rd_T33 l0 x13_1).f2)) ++ ((rd_T33 l0 x13_1).f3)) ++ t177) ++ (⟨#[125]⟩ : ByteArray)).size ≤ 9223372036854775807
                          · rw [if_pos c15] at H
                            have c15b0 := eq_true c15
                            have c15b1 : decide (x5_1.size + (((((⟨#[36, 123]⟩ : ByteArray) ++ ((rd_T33 l0 x13_1).f2)) ++ ((rd_T33 l0 x13_1).f3)) ++ t177) ++ (⟨#[125]⟩ : ByteArray)).size ≤ 9223372036854775807) = true := decide_eq_true c15
                            try have c15b2 : (9223372036854775807 < x5_1.size + (((((⟨#[36, 123]⟩ : ByteArray) ++ ((rd_T33 l0 x13_1).f2)) ++ ((rd_T33 l0 x13_1).f3)) ++ t177) ++ (⟨#[125]⟩ : ByteArray)).size) = False := eq_false (Nat.not_lt.2 c15)
                            try (have c15b3 := c15b2; simp only [ByteArray.size_append, show (⟨#[36, 123]⟩ : ByteArray).size = 2 from rfl, show (⟨#[125]⟩ : ByteArray).size = 1 from rfl, show (⟨#[34]⟩ : ByteArray).size = 1 from rfl, show (⟨#[92]⟩ : ByteArray).size = 1 from rfl] at c15b3)
                            have H' := Aside0.mk H
                            clear H
                            have p175 : 0 ≤ (x13_1 : Int) := of_decide_eq_true (by first | (with_reducible assumption) | assumption)
                            have q175 : x13_1 < (l0.length : Int) := of_decide_eq_true (by first | (with_reducible assumption) | assumption)
                            obtain ⟨ad175, A175_4, c175_4, e175, hx175_0, hx175_1, hx175_2, hx175_3, hx175_4, hl175_4, hi175_4⟩ := at_T33 HR0.out x13_1 p175 q175
                            (try rw [← Nbq7.out] at hx175_1)
                            cases e175
                            replace hx175_0 := (HB.out.cell (World.block_lt_of_cell? w _ hx175_0)).trans hx175_0
                            replace hx175_1 := (HB.out.cell (World.block_lt_of_cell? w _ hx175_1)).trans hx175_1
                            replace hx175_2 := (HB.out.cell (World.block_lt_of_cell? w _ hx175_2)).trans hx175_2
                            replace hx175_3 := (HB.out.cell (World.block_lt_of_cell? w _ hx175_3)).trans hx175_3
                            replace hx175_4 := (HB.out.cell (World.block_lt_of_cell? w _ hx175_4)).trans hx175_4
                            have HR175_4 := Aside0.mk hi175_4
                            have HC175_4 := Aside0.mk hl175_4
                            clear hi175_4 hl175_4
                            replace p175 := eq_true p175
                            replace q175 := eq_true q175
                            try go_wp2_with (first | ((with_reducible refine gate_dst (N := 7) rfl ?_); refine box_event ?hg (N := 7) ?hd (cs := #[.int .i64 0, .bool false, .string (⟨#[]⟩ : ByteArray), .string (⟨#[]⟩ : ByteArray), .slice none 0 0]) (t := 33) ?hr ?_; (case hd => rfl); (case hg => rfl); (case hr => first | (go_simp; done) | (go_simp; rfl)); intro gb176 hg w16 hbox hb; have n0_ := Aside0.mk (below_step (by repeat (first | (with_reducible first | exact HB.out | apply below_alloc | apply pw_below_drewN | apply below_drew1) | exact HB.out)) hb); have n1_ := Aside0.mk (hbox); have n2_ := Aside0.mk ((by rw [hg]; exact (below_size (by repeat (first | (with_reducible first | exact HB.out | apply below_alloc | apply pw_below_drewN | apply below_drew1) | exact HB.out))) : w.heap.size ≤ gb176)); have n3_ := Aside0.mk ((by rw [hg]; exact (below_size (by repeat (first | (with_reducible first | exact HB.out | apply below_alloc | apply pw_below_drewN | apply below_drew1) | exact HB.out))) : w.heap.size ≤ gb176)); clear HB; have HB := n0_; have BK176 := n1_; have GW176 := n2_; have GE176 := n3_; clear n0_ n1_ n2_ n3_; clear hb hbox hg; have hcz17_0 : w16.cell? ⟨gb176, 0, none⟩ = some (.int .i64 0) := (blk_cell BK176.out 0).trans rfl; have hcz17_1 : w16.cell? ⟨gb176, 1, none⟩ = some (.bool false) := (blk_cell BK176.out 1).trans rfl; have hcz17_2 : w16.cell? ⟨gb176, 2, none⟩ = some (.string (⟨#[]⟩ : ByteArray)) := (blk_cell BK176.out 2).trans rfl; have hcz17_3 : w16.cell? ⟨gb176, 3, none⟩ = some (.string (⟨#[]⟩ : ByteArray)) := (blk_cell BK176.out 3).trans rfl; have hcz17_4 : w16.cell? ⟨gb176, 4, none⟩ = some (.slice none 0 0) := (blk_cell BK176.out 4).trans rfl; have hfz17_0 := blk_frozen BK176.out 0; have hfz17_1 := blk_frozen BK176.out 1; have hfz17_2 := blk_frozen BK176.out 2; have hfz17_3 := blk_frozen BK176.out 3; have hfz17_4 := blk_frozen BK176.out 4))
                            have n0_ : Aside0 ((((((w16.setCell ⟨gb176, 0, none⟩ (.int .i64 ((rd_T33 l0 x13_1).f0))).setCell ⟨gb176, 1, none⟩ (.bool true)).setCell ⟨gb176, 2, none⟩ (.string ((rd_T33 l0 x13_1).f2))).setCell ⟨gb176, 3, none⟩ (.string ((rd_T33 l0 x13_1).f3))).setCell ⟨gb176, 4, none⟩ (.slice A175_4 ((rd_T33 l0 x13_1).f4).length c175_4)).heap[gb176]? = some (.cells #[.int .i64 ((rd_T33 l0 x13_1).f0), .bool true, .string ((rd_T33 l0 x13_1).f2), .string ((rd_T33 l0 x13_1).f3), .slice A175_4 ((rd_T33 l0 x13_1).f4).length c175_4] 33 (0, 0))) := ⟨by (with_reducible repeat (first | refine blk_drewN ?_ _ | refine blk_drew ?_ | refine blk_alloc ?_ _)); refine blk_put (cs := #[.int .i64 ((rd_T33 l0 x13_1).f0), .bool true, .string ((rd_T33 l0 x13_1).f2), .string ((rd_T33 l0 x13_1).f3), .slice none 0 0]) ?_ 4 _ rfl; (with_reducible repeat (first | refine blk_drewN ?_ _ | refine blk_drew ?_ | refine blk_alloc ?_ _)); refine blk_put (cs := #[.int .i64 ((rd_T33 l0 x13_1).f0), .bool true, .string ((rd_T33 l0 x13_1).f2), .string (⟨#[]⟩ : ByteArray), .slice none 0 0]) ?_ 3 _ rfl; (with_reducible repeat (first | refine blk_drewN ?_ _ | refine blk_drew ?_ | refine blk_alloc ?_ _)); refine blk_put (cs := #[.int .i64 ((rd_T33 l0 x13_1).f0), .bool true, .string (⟨#[]⟩ : ByteArray), .string (⟨#[]⟩ : ByteArray), .slice none 0 0]) ?_ 2 _ rfl; (with_reducible repeat (first | refine blk_drewN ?_ _ | refine blk_drew ?_ | refine blk_alloc ?_ _)); refine blk_put (cs := #[.int .i64 ((rd_T33 l0 x13_1).f0), .bool false, .string (⟨#[]⟩ : ByteArray), .string (⟨#[]⟩ : ByteArray), .slice none 0 0]) ?_ 1 _ rfl; (with_reducible repeat (first | refine blk_drewN ?_ _ | refine blk_drew ?_ | refine blk_alloc ?_ _)); refine blk_put (cs := #[.int .i64 0, .bool false, .string (⟨#[]⟩ : ByteArray), .string (⟨#[]⟩ : ByteArray), .slice none 0 0]) ?_ 0 _ rfl; (with_reducible repeat (first | refine blk_drewN ?_ _ | refine blk_drew ?_ | refine blk_alloc ?_ _)); exact BK176.out⟩
                            have n1_ : Aside0 (Below w.heap.size w (((((w16.setCell ⟨gb176, 0, none⟩ (.int .i64 ((rd_T33 l0 x13_1).f0))).setCell ⟨gb176, 1, none⟩ (.bool true)).setCell ⟨gb176, 2, none⟩ (.string ((rd_T33 l0 x13_1).f2))).setCell ⟨gb176, 3, none⟩ (.string ((rd_T33 l0 x13_1).f3))).setCell ⟨gb176, 4, none⟩ (.slice A175_4 ((rd_T33 l0 x13_1).f4).length c175_4))) := ⟨by repeat (first | (with_reducible first | exact HB.out | apply below_alloc | apply pw_below_drewN | apply below_drew1 | refine below_set ?_ GE176.out) | exact HB.out)⟩
                            (try clear BK176)
                            (try clear HB)
                            generalize (((((w16.setCell ⟨gb176, 0, none⟩ (.int .i64 ((rd_T33 l0 x13_1).f0))).setCell ⟨gb176, 1, none⟩ (.bool true)).setCell ⟨gb176, 2, none⟩ (.string ((rd_T33 l0 x13_1).f2))).setCell ⟨gb176, 3, none⟩ (.string ((rd_T33 l0 x13_1).f3))).setCell ⟨gb176, 4, none⟩ (.slice A175_4 ((rd_T33 l0 x13_1).f4).length c175_4)) = w18 at n0_ n1_ ⊢
                            have BK176 := n0_
                            have HB := n1_
                            clear n0_ n1_
                            have n0_ := Aside0.mk (blk_drew BK176.out)
                            have n1_ := Aside0.mk (below_drew1 HB.out)
                            clear BK176
                            clear HB
                            have BK176 := n0_
                            have HB := n1_
                            clear n0_ n1_
                            refine start_ (n := 13) (S := fun w' => w'.cell? ⟨gb176, 0, none⟩ = some (.int .i64 ((rd_T33 l0 x13_1).f0)) ∧ w'.cell? ⟨gb176, 1, none⟩ = some (.bool true) ∧ w'.cell? ⟨gb176, 2, none⟩ = some (.string ((rd_T33 l0 x13_1).f2)) ∧ w'.cell? ⟨gb176, 3, none⟩ = some (.string ((rd_T33 l0 x13_1).f3)) ∧ w'.cell? ⟨gb176, 4, none⟩ = some (.slice A175_4 ((rd_T33 l0 x13_1).f4).length c175_4)) (ds := []) #[false, false, false, false, false, false, false, false, false, false, false, false, false] (by kernel_rfl) rfl rfl ⟨(blk_cell BK176.out 0).trans rfl, (blk_cell BK176.out 1).trans rfl, (blk_cell BK176.out 2).trans rfl, (blk_cell BK176.out 3).trans rfl, (blk_cell BK176.out 4).trans rfl⟩ (fun hHeld => ?_); refine with_tabW deadfallref03_written.tab9 deadfallref03_written.bits9 (fun HT_ HW_ => ?_)
                            generalize w18.drew = w19 at BK176 HB hHeld ⊢
                            refine pure_ (i := 0) (N := some 22) (v := ?_) (a' := ?_) #[true, false, false, false, false, false, false, false, false, false, false, false, false] rfl rfl (any_of HT_.out (by kernel_rfl)) (fun _ _ _ h => h) (Or.inl ⟨by rfl, ?_⟩) ?_ ?_
                            rotate_left
                            · intro w'
                              go_simp
                              with_reducible rfl
                            rotate_left
                            · simp only [Act.put, List.setIfInBounds_toArray, List.set_cons_zero, List.set_cons_succ, i64_w, i32_w]
                              rfl
                            refine pure_ (i := 3) (N := some 25) (v := ?_) (a' := ?_) #[true, false, false, true, false, false, false, false, false, false, false, false, false] rfl rfl (any_of HT_.out (by kernel_rfl)) (fun _ _ _ h => h) (Or.inl ⟨by rfl, ?_⟩) ?_ ?_
                            rotate_left
                            · intro w'
                              go_simp
                              with_reducible rfl
                            rotate_left
                            · simp only [Act.put, List.setIfInBounds_toArray, List.set_cons_zero, List.set_cons_succ, i64_w, i32_w]
                              rfl
                            refine pure_ (i := 6) (N := some 28) (v := ?_) (a' := ?_) #[true, false, false, true, false, false, true, false, false, false, false, false, false] rfl rfl (any_of HT_.out (by kernel_rfl)) (fun _ _ _ h => h) (Or.inl ⟨by rfl, ?_⟩) ?_ ?_
                            rotate_left
                            · intro w'
                              go_simp
                              with_reducible rfl
                            rotate_left
                            · simp only [Act.put, List.setIfInBounds_toArray, List.set_cons_zero, List.set_cons_succ, i64_w, i32_w]
                              rfl
                            refine pure_ (i := 8) (N := some 30) (v := ?_) (a' := ?_) #[true, false, false, true, false, false, true, false, true, false, false, false, false] rfl rfl (any_of HT_.out (by kernel_rfl)) (fun _ _ _ h => h) (Or.inl ⟨by rfl, ?_⟩) ?_ ?_
                            rotate_left
                            · intro w'
                              go_simp
                              with_reducible rfl
                            rotate_left
                            · simp only [Act.put, List.setIfInBounds_toArray, List.set_cons_zero, List.set_cons_succ, i64_w, i32_w]
                              rfl
                            refine take_ (i := 1) (N := some 23) (v := ?_) (a' := ?_) #[true, true, false, true, false, false, true, false, true, false, false, false, false] rfl rfl (take_ofW HT_.out HW_.out (by kernel_rfl)) (fun _ _ _ h => h) (Or.inl ⟨by rfl, ?_⟩) hHeld ?_ ?_
                            rotate_left
                            · rintro w' ⟨s0, s1, s2, s3, s4⟩
                              go_simp
                              with_reducible rfl
                            rotate_left
                            · simp only [Act.put, List.setIfInBounds_toArray, List.set_cons_zero, List.set_cons_succ, i64_w, i32_w]
                              rfl
                            refine pure_ (i := 2) (N := some 24) (v := ?_) (a' := ?_) #[true, true, true, true, false, false, true, false, true, false, false, false, false] rfl rfl (any_of HT_.out (by kernel_rfl)) (fun _ _ _ h => h) (Or.inl ⟨by rfl, ?_⟩) ?_ ?_
                            rotate_left
                            · intro w'
                              go_simp
                              with_reducible rfl
                            rotate_left
                            · simp only [Act.put, List.setIfInBounds_toArray, List.set_cons_zero, List.set_cons_succ, i64_w, i32_w]
                              rfl
                            refine take_ (i := 4) (N := some 26) (v := ?_) (a' := ?_) #[true, true, true, true, true, false, true, false, true, false, false, false, false] rfl rfl (take_ofW HT_.out HW_.out (by kernel_rfl)) (fun _ _ _ h => h) (Or.inl ⟨by rfl, ?_⟩) hHeld ?_ ?_
                            rotate_left
                            · rintro w' ⟨s0, s1, s2, s3, s4⟩
                              go_simp
                              with_reducible rfl
                            rotate_left
                            · simp only [Act.put, List.setIfInBounds_toArray, List.set_cons_zero, List.set_cons_succ, i64_w, i32_w]
                              rfl
                            refine pure_ (i := 5) (N := some 27) (v := ?_) (a' := ?_) #[true, true, true, true, true, true, true, false, true, false, false, false, false] rfl rfl (any_of HT_.out (by kernel_rfl)) (fun _ _ _ h => h) (Or.inl ⟨by rfl, ?_⟩) ?_ ?_
                            rotate_left
                            · intro w'
                              go_simp
                              with_reducible rfl
                            rotate_left
                            · simp only [Act.put, List.setIfInBounds_toArray, List.set_cons_zero, List.set_cons_succ, i64_w, i32_w]
                              rfl
                            refine take_ (i := 7) (N := some 29) (v := ?_) (a' := ?_) #[true, true, true, true, true, true, true, true, true, false, false, false, false] rfl rfl (take_ofW HT_.out HW_.out (by kernel_rfl)) (fun _ _ _ h => h) (Or.inl ⟨by rfl, ?_⟩) hHeld ?_ ?_
                            rotate_left
                            · rintro w' ⟨s0, s1, s2, s3, s4⟩
                              go_simp
                              with_reducible rfl
                            rotate_left
                            · simp only [Act.put, List.setIfInBounds_toArray, List.set_cons_zero, List.set_cons_succ, i64_w, i32_w]
                              rfl
                            refine one_ (i := 9) (N := some 31) #[true, true, true, true, true, true, true, true, true, true, false, false, false] rfl rfl (one_of HT_.out (by kernel_rfl)) (by decide) (fun K hK => ?_)
                            refine goes_ Tryd.func27 (by kernel_rfl) rfl #[.slice A175_4 ((rd_T33 l0 x13_1).f4).length c175_4, .int .i64 2] (by rfl) rfl rfl (by (try simp only [List.map_toArray, List.map_cons, List.map_nil]); first | done | rfl | (simp only [List.length_drop, List.length_take]; rfl)) ?_
                            with_reducible refine (ih k1 (by have := HK1.out; omega) _ _ ((rd_T33 l0 x13_1).f4) 2 t177 _ ?side1 ?side2 A11.out).mono ?_
                            (case side1 => repeat (first | exact (Kd.C_below HR175_4.out HB.out) | (with_reducible refine Kd.C_alloc ?_ _) | (with_reducible refine Kd.C_drewN ?_ _) | (with_reducible refine Kd.C_drew ?_)))
                            (case side2 => exact HC175_4.out)
                            rintro e w20 ⟨rfl, hb⟩
                            refine ⟨_, rfl, ?_⟩
                            have n0_ := Aside0.mk (blk_below (g := gb176) (o := .cells #[.int .i64 ((rd_T33 l0 x13_1).f0), .bool true, .string ((rd_T33 l0 x13_1).f2), .string ((rd_T33 l0 x13_1).f3), .slice A175_4 ((rd_T33 l0 x13_1).f4).length c175_4] 33 (0, 0)) (by (with_reducible repeat (first | refine blk_drewN ?_ _ | refine blk_drew ?_ | refine blk_alloc ?_ _)); exact BK176.out) hb)
                            have n1_ := Aside0.mk (below_step (by repeat (first | (with_reducible first | exact HB.out | apply below_alloc | apply pw_below_drewN | apply below_drew1 | refine below_set ?_ GE176.out) | exact HB.out)) hb)
                            clear BK176
                            clear HB
                            have BK176 := n0_
                            have HB := n1_
                            clear n0_ n1_
                            (try clear hb)
                            (try clear hb2)
                            (try clear hk)
                            (try clear hi)
                            refine hK.out _ _ ⟨(blk_cell BK176.out 0).trans rfl, (blk_cell BK176.out 1).trans rfl, (blk_cell BK176.out 2).trans rfl, (blk_cell BK176.out 3).trans rfl, (blk_cell BK176.out 4).trans rfl⟩ (fun hHeld => ?_)
                            clear hK K
                            refine norm_ (a' := ?_) ?_ ?_
                            rotate_left
                            · show Act.put _ (some 31) _ = _
                              simp only [Act.put, List.setIfInBounds_toArray, List.set_cons_zero, List.set_cons_succ, i64_w, i32_w]
                              rfl
                            refine pure_ (i := 10) (N := some 32) (v := ?_) (a' := ?_) #[true, true, true, true, true, true, true, true, true, true, true, false, false] rfl rfl (any_of HT_.out (by kernel_rfl)) (fun _ _ _ h => h) (Or.inl ⟨by rfl, ?_⟩) ?_ ?_
                            rotate_left
                            · intro w'
                              go_simp
                              with_reducible rfl
                            rotate_left
                            · simp only [Act.put, List.setIfInBounds_toArray, List.set_cons_zero, List.set_cons_succ, i64_w, i32_w]
                              rfl
                            refine pure_ (i := 11) (N := some 33) (v := ?_) (a' := ?_) #[true, true, true, true, true, true, true, true, true, true, true, true, false] rfl rfl (any_of HT_.out (by kernel_rfl)) (fun _ _ _ h => h) (Or.inl ⟨by rfl, ?_⟩) ?_ ?_
                            rotate_left
                            · intro w'
                              go_simp
                              with_reducible rfl
                            rotate_left
                            · simp only [Act.put, List.setIfInBounds_toArray, List.set_cons_zero, List.set_cons_succ, i64_w, i32_w]
                              rfl
                            refine pure_ (i := 12) (N := some 9) (v := ?_) (a' := ?_) #[true, true, true, true, true, true, true, true, true, true, true, true, true] rfl rfl (any_of HT_.out (by kernel_rfl)) (fun _ _ _ h => h) (Or.inl ⟨by rfl, ?_⟩) ?_ ?_
                            rotate_left
                            · intro w'
                              go_simp
                              with_reducible rfl
                            rotate_left
                            · simp only [Act.put, List.setIfInBounds_toArray, List.set_cons_zero, List.set_cons_succ, i64_w, i32_w]
                              rfl
                            refine done_ (done_of HT_.out (by kernel_rfl)) ?_
                            have hcz21_0 : w20.cell? ⟨gb176, 0, none⟩ = some (.int .i64 ((rd_T33 l0 x13_1).f0)) := (blk_cell BK176.out 0).trans rfl
                            have hcz21_1 : w20.cell? ⟨gb176, 1, none⟩ = some (.bool true) := (blk_cell BK176.out 1).trans rfl
                            have hcz21_2 : w20.cell? ⟨gb176, 2, none⟩ = some (.string ((rd_T33 l0 x13_1).f2)) := (blk_cell BK176.out 2).trans rfl
                            have hcz21_3 : w20.cell? ⟨gb176, 3, none⟩ = some (.string ((rd_T33 l0 x13_1).f3)) := (blk_cell BK176.out 3).trans rfl
                            have hcz21_4 : w20.cell? ⟨gb176, 4, none⟩ = some (.slice A175_4 ((rd_T33 l0 x13_1).f4).length c175_4) := (blk_cell BK176.out 4).trans rfl
                            have hfz21_0 := blk_frozen BK176.out 0
                            have hfz21_1 := blk_frozen BK176.out 1
                            have hfz21_2 := blk_frozen BK176.out 2
                            have hfz21_3 := blk_frozen BK176.out 3
                            have hfz21_4 := blk_frozen BK176.out 4
                            try go_wp2
                            go_roundg k1
                            case measure => have := HK1.out; omega
                            case rel => exact ⟨(x5_1 ++ (((((⟨#[36, 123]⟩ : ByteArray) ++ ((rd_T33 l0 x13_1).f2)) ++ ((rd_T33 l0 x13_1).f3)) ++ t177) ++ (⟨#[125]⟩ : ByteArray))), (wrap64 (x13_1 + 1)), (by first | rfl | (simp; done) | (simp [*]; done)), (by first | rfl | (simp; done) | (simp [*]; done)), H', ⟨by have := HK1.out; omega⟩, ⟨by repeat (first | (with_reducible first | exact HB.out | apply below_alloc | apply pw_below_drewN | apply below_drew1 | refine below_set ?_ GE176.out) | exact HB.out)⟩⟩
                          · rw [if_neg c15] at H
                            exact absurd H (by simp)
                        · rw [if_neg c14] at H
                          have c14b0 : (a1 == 2) = false := beq_eq_false_iff_ne.mpr c14
                          have c14b1 : (a1 != 2) = true := bne_iff_ne.mpr c14
                          by_cases c22 : 1 + (((((⟨#[36, 123]⟩ : ByteArray) ++ ((rd_T33 l0 x13_1).f2)) ++ ((rd_T33 l0 x13_1).f3)) ++ t177) ++ (⟨#[125]⟩ : ByteArray)).size ≤ 9223372036854775807
                          · rw [if_pos c22] at H
                            have c22b0 := eq_true c22
                            have c22b1 : decide (1 + (((((⟨#[36, 123]⟩ : ByteArray) ++ ((rd_T33 l0 x13_1).f2)) ++ ((rd_T33 l0 x13_1).f3)) ++ t177) ++ (⟨#[125]⟩ : ByteArray)).size ≤ 9223372036854775807) = true := decide_eq_true c22
                            try have c22b2 : (9223372036854775807 < 1 + (((((⟨#[36, 123]⟩ : ByteArray) ++ ((rd_T33 l0 x13_1).f2)) ++ ((rd_T33 l0 x13_1).f3)) ++ t177) ++ (⟨#[125]⟩ : ByteArray)).size) = False := eq_false (Nat.not_lt.2 c22)
                            try (have c22b3 := c22b2; simp only [ByteArray.size_append, show (⟨#[36, 123]⟩ : ByteArray).size = 2 from rfl, show (⟨#[125]⟩ : ByteArray).size = 1 from rfl, show (⟨#[34]⟩ : ByteArray).size = 1 from rfl, show (⟨#[92]⟩ : ByteArray).size = 1 from rfl] at c22b3)
                            by_cases c23 : ((⟨#[34]⟩ : ByteArray) ++ (((((⟨#[36, 123]⟩ : ByteArray) ++ ((rd_T33 l0 x13_1).f2)) ++ ((rd_T33 l0 x13_1).f3)) ++ t177) ++ (⟨#[125]⟩ : ByteArray))).size + 1 ≤ 9223372036854775807
                            · rw [if_pos c23] at H
                              have c23b0 := eq_true c23
                              have c23b1 : decide (((⟨#[34]⟩ : ByteArray) ++ (((((⟨#[36, 123]⟩ : ByteArray) ++ ((rd_T33 l0 x13_1).f2)) ++ ((rd_T33 l0 x13_1).f3)) ++ t177) ++ (⟨#[125]⟩ : ByteArray))).size + 1 ≤ 9223372036854775807) = true := decide_eq_true c23
                              try have c23b2 : (9223372036854775807 < ((⟨#[34]⟩ : ByteArray) ++ (((((⟨#[36, 123]⟩ : ByteArray) ++ ((rd_T33 l0 x13_1).f2)) ++ ((rd_T33 l0 x13_1).f3)) ++ t177) ++ (⟨#[125]⟩ : ByteArray))).size + 1) = False := eq_false (Nat.not_lt.2 c23)
                              try (have c23b3 := c23b2; simp only [ByteArray.size_append, show (⟨#[36, 123]⟩ : ByteArray).size = 2 from rfl, show (⟨#[125]⟩ : ByteArray).size = 1 from rfl, show (⟨#[34]⟩ : ByteArray).size = 1 from rfl, show (⟨#[92]⟩ : ByteArray).size = 1 from rfl] at c23b3)
                              by_cases c24 : x5_1.size + (((⟨#[34]⟩ : ByteArray) ++ (((((⟨#[36, 123]⟩ : ByteArray) ++ ((rd_T33 l0 x13_1).f2)) ++ ((rd_T33 l0 x13_1).f3)) ++ t177) ++ (⟨#[125]⟩ : ByteArray))) ++ (⟨#[34]⟩ : ByteArray)).size ≤ 9223372036854775807
                              · rw [if_pos c24] at H
                                have c24b0 := eq_true c24
                                have c24b1 : decide (x5_1.size + (((⟨#[34]⟩ : ByteArray) ++ (((((⟨#[36, 123]⟩ : ByteArray) ++ ((rd_T33 l0 x13_1).f2)) ++ ((rd_T33 l0 x13_1).f3)) ++ t177) ++ (⟨#[125]⟩ : ByteArray))) ++ (⟨#[34]⟩ : ByteArray)).size ≤ 9223372036854775807) = true := decide_eq_true c24
                                try have c24b2 : (9223372036854775807 < x5_1.size + (((⟨#[34]⟩ : ByteArray) ++ (((((⟨#[36, 123]⟩ : ByteArray) ++ ((rd_T33 l0 x13_1).f2)) ++ ((rd_T33 l0 x13_1).f3)) ++ t177) ++ (⟨#[125]⟩ : ByteArray))) ++ (⟨#[34]⟩ : ByteArray)).size) = False := eq_false (Nat.not_lt.2 c24)
                                try (have c24b3 := c24b2; simp only [ByteArray.size_append, show (⟨#[36, 123]⟩ : ByteArray).size = 2 from rfl, show (⟨#[125]⟩ : ByteArray).size = 1 from rfl, show (⟨#[34]⟩ : ByteArray).size = 1 from rfl, show (⟨#[92]⟩ : ByteArray).size = 1 from rfl] at c24b3)
                                have H' := Aside0.mk H
                                clear H
                                have p175 : 0 ≤ (x13_1 : Int) := of_decide_eq_true (by first | (with_reducible assumption) | assumption)
                                have q175 : x13_1 < (l0.length : Int) := of_decide_eq_true (by first | (with_reducible assumption) | assumption)
                                obtain ⟨ad175, A175_4, c175_4, e175, hx175_0, hx175_1, hx175_2, hx175_3, hx175_4, hl175_4, hi175_4⟩ := at_T33 HR0.out x13_1 p175 q175
                                (try rw [← Nbq7.out] at hx175_1)
                                cases e175
                                replace hx175_0 := (HB.out.cell (World.block_lt_of_cell? w _ hx175_0)).trans hx175_0
                                replace hx175_1 := (HB.out.cell (World.block_lt_of_cell? w _ hx175_1)).trans hx175_1
                                replace hx175_2 := (HB.out.cell (World.block_lt_of_cell? w _ hx175_2)).trans hx175_2
                                replace hx175_3 := (HB.out.cell (World.block_lt_of_cell? w _ hx175_3)).trans hx175_3
                                replace hx175_4 := (HB.out.cell (World.block_lt_of_cell? w _ hx175_4)).trans hx175_4
                                have HR175_4 := Aside0.mk hi175_4
                                have HC175_4 := Aside0.mk hl175_4
                                clear hi175_4 hl175_4
                                replace p175 := eq_true p175
                                replace q175 := eq_true q175
                                try go_wp2_with (first | ((with_reducible refine gate_dst (N := 7) rfl ?_); refine box_event ?hg (N := 7) ?hd (cs := #[.int .i64 0, .bool false, .string (⟨#[]⟩ : ByteArray), .string (⟨#[]⟩ : ByteArray), .slice none 0 0]) (t := 33) ?hr ?_; (case hd => rfl); (case hg => rfl); (case hr => first | (go_simp; done) | (go_simp; rfl)); intro gb176 hg w25 hbox hb; have n0_ := Aside0.mk (below_step (by repeat (first | (with_reducible first | exact HB.out | apply below_alloc | apply pw_below_drewN | apply below_drew1) | exact HB.out)) hb); have n1_ := Aside0.mk (hbox); have n2_ := Aside0.mk ((by rw [hg]; exact (below_size (by repeat (first | (with_reducible first | exact HB.out | apply below_alloc | apply pw_below_drewN | apply below_drew1) | exact HB.out))) : w.heap.size ≤ gb176)); have n3_ := Aside0.mk ((by rw [hg]; exact (below_size (by repeat (first | (with_reducible first | exact HB.out | apply below_alloc | apply pw_below_drewN | apply below_drew1) | exact HB.out))) : w.heap.size ≤ gb176)); clear HB; have HB := n0_; have BK176 := n1_; have GW176 := n2_; have GE176 := n3_; clear n0_ n1_ n2_ n3_; clear hb hbox hg; have hcz26_0 : w25.cell? ⟨gb176, 0, none⟩ = some (.int .i64 0) := (blk_cell BK176.out 0).trans rfl; have hcz26_1 : w25.cell? ⟨gb176, 1, none⟩ = some (.bool false) := (blk_cell BK176.out 1).trans rfl; have hcz26_2 : w25.cell? ⟨gb176, 2, none⟩ = some (.string (⟨#[]⟩ : ByteArray)) := (blk_cell BK176.out 2).trans rfl; have hcz26_3 : w25.cell? ⟨gb176, 3, none⟩ = some (.string (⟨#[]⟩ : ByteArray)) := (blk_cell BK176.out 3).trans rfl; have hcz26_4 : w25.cell? ⟨gb176, 4, none⟩ = some (.slice none 0 0) := (blk_cell BK176.out 4).trans rfl; have hfz26_0 := blk_frozen BK176.out 0; have hfz26_1 := blk_frozen BK176.out 1; have hfz26_2 := blk_frozen BK176.out 2; have hfz26_3 := blk_frozen BK176.out 3; have hfz26_4 := blk_frozen BK176.out 4))
                                have n0_ : Aside0 ((((((w25.setCell ⟨gb176, 0, none⟩ (.int .i64 ((rd_T33 l0 x13_1).f0))).setCell ⟨gb176, 1, none⟩ (.bool true)).setCell ⟨gb176, 2, none⟩ (.string ((rd_T33 l0 x13_1).f2))).setCell ⟨gb176, 3, none⟩ (.string ((rd_T33 l0 x13_1).f3))).setCell ⟨gb176, 4, none⟩ (.slice A175_4 ((rd_T33 l0 x13_1).f4).length c175_4)).heap[gb176]? = some (.cells #[.int .i64 ((rd_T33 l0 x13_1).f0), .bool true, .string ((rd_T33 l0 x13_1).f2), .string ((rd_T33 l0 x13_1).f3), .slice A175_4 ((rd_T33 l0 x13_1).f4).length c175_4] 33 (0, 0))) := ⟨by (with_reducible repeat (first | refine blk_drewN ?_ _ | refine blk_drew ?_ | refine blk_alloc ?_ _)); refine blk_put (cs := #[.int .i64 ((rd_T33 l0 x13_1).f0), .bool true, .string ((rd_T33 l0 x13_1).f2), .string ((rd_T33 l0 x13_1).f3), .slice none 0 0]) ?_ 4 _ rfl; (with_reducible repeat (first | refine blk_drewN ?_ _ | refine blk_drew ?_ | refine blk_alloc ?_ _)); refine blk_put (cs := #[.int .i64 ((rd_T33 l0 x13_1).f0), .bool true, .string ((rd_T33 l0 x13_1).f2), .string (⟨#[]⟩ : ByteArray), .slice none 0 0]) ?_ 3 _ rfl; (with_reducible repeat (first | refine blk_drewN ?_ _ | refine blk_drew ?_ | refine blk_alloc ?_ _)); refine blk_put (cs := #[.int .i64 ((rd_T33 l0 x13_1).f0), .bool true, .string (⟨#[]⟩ : ByteArray), .string (⟨#[]⟩ : ByteArray), .slice none 0 0]) ?_ 2 _ rfl; (with_reducible repeat (first | refine blk_drewN ?_ _ | refine blk_drew ?_ | refine blk_alloc ?_ _)); refine blk_put (cs := #[.int .i64 ((rd_T33 l0 x13_1).f0), .bool false, .string (⟨#[]⟩ : ByteArray), .string (⟨#[]⟩ : ByteArray), .slice none 0 0]) ?_ 1 _ rfl; (with_reducible repeat (first | refine blk_drewN ?_ _ | refine blk_drew ?_ | refine blk_alloc ?_ _)); refine blk_put (cs := #[.int .i64 0, .bool false, .string (⟨#[]⟩ : ByteArray), .string (⟨#[]⟩ : ByteArray), .slice none 0 0]) ?_ 0 _ rfl; (with_reducible repeat (first | refine blk_drewN ?_ _ | refine blk_drew ?_ | refine blk_alloc ?_ _)); exact BK176.out⟩
                                have n1_ : Aside0 (Below w.heap.size w (((((w25.setCell ⟨gb176, 0, none⟩ (.int .i64 ((rd_T33 l0 x13_1).f0))).setCell ⟨gb176, 1, none⟩ (.bool true)).setCell ⟨gb176, 2, none⟩ (.string ((rd_T33 l0 x13_1).f2))).setCell ⟨gb176, 3, none⟩ (.string ((rd_T33 l0 x13_1).f3))).setCell ⟨gb176, 4, none⟩ (.slice A175_4 ((rd_T33 l0 x13_1).f4).length c175_4))) := ⟨by repeat (first | (with_reducible first | exact HB.out | apply below_alloc | apply pw_below_drewN | apply below_drew1 | refine below_set ?_ GE176.out) | exact HB.out)⟩
                                (try clear BK176)
                                (try clear HB)
                                generalize (((((w25.setCell ⟨gb176, 0, none⟩ (.int .i64 ((rd_T33 l0 x13_1).f0))).setCell ⟨gb176, 1, none⟩ (.bool true)).setCell ⟨gb176, 2, none⟩ (.string ((rd_T33 l0 x13_1).f2))).setCell ⟨gb176, 3, none⟩ (.string ((rd_T33 l0 x13_1).f3))).setCell ⟨gb176, 4, none⟩ (.slice A175_4 ((rd_T33 l0 x13_1).f4).length c175_4)) = w27 at n0_ n1_ ⊢
                                have BK176 := n0_
                                have HB := n1_
                                clear n0_ n1_
                                have n0_ := Aside0.mk (blk_drew BK176.out)
                                have n1_ := Aside0.mk (below_drew1 HB.out)
                                clear BK176
                                clear HB
                                have BK176 := n0_
                                have HB := n1_
                                clear n0_ n1_
                                refine start_ (n := 13) (S := fun w' => w'.cell? ⟨gb176, 0, none⟩ = some (.int .i64 ((rd_T33 l0 x13_1).f0)) ∧ w'.cell? ⟨gb176, 1, none⟩ = some (.bool true) ∧ w'.cell? ⟨gb176, 2, none⟩ = some (.string ((rd_T33 l0 x13_1).f2)) ∧ w'.cell? ⟨gb176, 3, none⟩ = some (.string ((rd_T33 l0 x13_1).f3)) ∧ w'.cell? ⟨gb176, 4, none⟩ = some (.slice A175_4 ((rd_T33 l0 x13_1).f4).length c175_4)) (ds := []) #[false, false, false, false, false, false, false, false, false, false, false, false, false] (by kernel_rfl) rfl rfl ⟨(blk_cell BK176.out 0).trans rfl, (blk_cell BK176.out 1).trans rfl, (blk_cell BK176.out 2).trans rfl, (blk_cell BK176.out 3).trans rfl, (blk_cell BK176.out 4).trans rfl⟩ (fun hHeld => ?_); refine with_tabW deadfallref03_written.tab9 deadfallref03_written.bits9 (fun HT_ HW_ => ?_)
                                generalize w27.drew = w28 at BK176 HB hHeld ⊢
                                refine pure_ (i := 0) (N := some 22) (v := ?_) (a' := ?_) #[true, false, false, false, false, false, false, false, false, false, false, false, false] rfl rfl (any_of HT_.out (by kernel_rfl)) (fun _ _ _ h => h) (Or.inl ⟨by rfl, ?_⟩) ?_ ?_
                                rotate_left
                                · intro w'
                                  go_simp
                                  with_reducible rfl
                                rotate_left
                                · simp only [Act.put, List.setIfInBounds_toArray, List.set_cons_zero, List.set_cons_succ, i64_w, i32_w]
                                  rfl
                                refine pure_ (i := 3) (N := some 25) (v := ?_) (a' := ?_) #[true, false, false, true, false, false, false, false, false, false, false, false, false] rfl rfl (any_of HT_.out (by kernel_rfl)) (fun _ _ _ h => h) (Or.inl ⟨by rfl, ?_⟩) ?_ ?_
                                rotate_left
                                · intro w'
                                  go_simp
                                  with_reducible rfl
                                rotate_left
                                · simp only [Act.put, List.setIfInBounds_toArray, List.set_cons_zero, List.set_cons_succ, i64_w, i32_w]
                                  rfl
                                refine pure_ (i := 6) (N := some 28) (v := ?_) (a' := ?_) #[true, false, false, true, false, false, true, false, false, false, false, false, false] rfl rfl (any_of HT_.out (by kernel_rfl)) (fun _ _ _ h => h) (Or.inl ⟨by rfl, ?_⟩) ?_ ?_
                                rotate_left
                                · intro w'
                                  go_simp
                                  with_reducible rfl
                                rotate_left
                                · simp only [Act.put, List.setIfInBounds_toArray, List.set_cons_zero, List.set_cons_succ, i64_w, i32_w]
                                  rfl
                                refine pure_ (i := 8) (N := some 30) (v := ?_) (a' := ?_) #[true, false, false, true, false, false, true, false, true, false, false, false, false] rfl rfl (any_of HT_.out (by kernel_rfl)) (fun _ _ _ h => h) (Or.inl ⟨by rfl, ?_⟩) ?_ ?_
                                rotate_left
                                · intro w'
                                  go_simp
                                  with_reducible rfl
                                rotate_left
                                · simp only [Act.put, List.setIfInBounds_toArray, List.set_cons_zero, List.set_cons_succ, i64_w, i32_w]
                                  rfl
                                refine take_ (i := 1) (N := some 23) (v := ?_) (a' := ?_) #[true, true, false, true, false, false, true, false, true, false, false, false, false] rfl rfl (take_ofW HT_.out HW_.out (by kernel_rfl)) (fun _ _ _ h => h) (Or.inl ⟨by rfl, ?_⟩) hHeld ?_ ?_
                                rotate_left
                                · rintro w' ⟨s0, s1, s2, s3, s4⟩
                                  go_simp
                                  with_reducible rfl
                                rotate_left
                                · simp only [Act.put, List.setIfInBounds_toArray, List.set_cons_zero, List.set_cons_succ, i64_w, i32_w]
                                  rfl
                                refine pure_ (i := 2) (N := some 24) (v := ?_) (a' := ?_) #[true, true, true, true, false, false, true, false, true, false, false, false, false] rfl rfl (any_of HT_.out (by kernel_rfl)) (fun _ _ _ h => h) (Or.inl ⟨by rfl, ?_⟩) ?_ ?_
                                rotate_left
                                · intro w'
                                  go_simp
                                  with_reducible rfl
                                rotate_left
                                · simp only [Act.put, List.setIfInBounds_toArray, List.set_cons_zero, List.set_cons_succ, i64_w, i32_w]
                                  rfl
                                refine take_ (i := 4) (N := some 26) (v := ?_) (a' := ?_) #[true, true, true, true, true, false, true, false, true, false, false, false, false] rfl rfl (take_ofW HT_.out HW_.out (by kernel_rfl)) (fun _ _ _ h => h) (Or.inl ⟨by rfl, ?_⟩) hHeld ?_ ?_
                                rotate_left
                                · rintro w' ⟨s0, s1, s2, s3, s4⟩
                                  go_simp
                                  with_reducible rfl
                                rotate_left
                                · simp only [Act.put, List.setIfInBounds_toArray, List.set_cons_zero, List.set_cons_succ, i64_w, i32_w]
                                  rfl
                                refine pure_ (i := 5) (N := some 27) (v := ?_) (a' := ?_) #[true, true, true, true, true, true, true, false, true, false, false, false, false] rfl rfl (any_of HT_.out (by kernel_rfl)) (fun _ _ _ h => h) (Or.inl ⟨by rfl, ?_⟩) ?_ ?_
                                rotate_left
                                · intro w'
                                  go_simp
                                  with_reducible rfl
                                rotate_left
                                · simp only [Act.put, List.setIfInBounds_toArray, List.set_cons_zero, List.set_cons_succ, i64_w, i32_w]
                                  rfl
                                refine take_ (i := 7) (N := some 29) (v := ?_) (a' := ?_) #[true, true, true, true, true, true, true, true, true, false, false, false, false] rfl rfl (take_ofW HT_.out HW_.out (by kernel_rfl)) (fun _ _ _ h => h) (Or.inl ⟨by rfl, ?_⟩) hHeld ?_ ?_
                                rotate_left
                                · rintro w' ⟨s0, s1, s2, s3, s4⟩
                                  go_simp
                                  with_reducible rfl
                                rotate_left
                                · simp only [Act.put, List.setIfInBounds_toArray, List.set_cons_zero, List.set_cons_succ, i64_w, i32_w]
                                  rfl
                                refine one_ (i := 9) (N := some 31) #[true, true, true, true, true, true, true, true, true, true, false, false, false] rfl rfl (one_of HT_.out (by kernel_rfl)) (by decide) (fun K hK => ?_)
                                refine goes_ Tryd.func27 (by kernel_rfl) rfl #[.slice A175_4 ((rd_T33 l0 x13_1).f4).length c175_4, .int .i64 2] (by rfl) rfl rfl (by (try simp only [List.map_toArray, List.map_cons, List.map_nil]); first | done | rfl | (simp only [List.length_drop, List.length_take]; rfl)) ?_
                                with_reducible refine (ih k1 (by have := HK1.out; omega) _ _ ((rd_T33 l0 x13_1).f4) 2 t177 _ ?side1 ?side2 A11.out).mono ?_
                                (case side1 => repeat (first | exact (Kd.C_below HR175_4.out HB.out) | (with_reducible refine Kd.C_alloc ?_ _) | (with_reducible refine Kd.C_drewN ?_ _) | (with_reducible refine Kd.C_drew ?_)))
                                (case side2 => exact HC175_4.out)
                                rintro e w29 ⟨rfl, hb⟩
                                refine ⟨_, rfl, ?_⟩
                                have n0_ := Aside0.mk (blk_below (g := gb176) (o := .cells #[.int .i64 ((rd_T33 l0 x13_1).f0), .bool true, .string ((rd_T33 l0 x13_1).f2), .string ((rd_T33 l0 x13_1).f3), .slice A175_4 ((rd_T33 l0 x13_1).f4).length c175_4] 33 (0, 0)) (by (with_reducible repeat (first | refine blk_drewN ?_ _ | refine blk_drew ?_ | refine blk_alloc ?_ _)); exact BK176.out) hb)
                                have n1_ := Aside0.mk (below_step (by repeat (first | (with_reducible first | exact HB.out | apply below_alloc | apply pw_below_drewN | apply below_drew1 | refine below_set ?_ GE176.out) | exact HB.out)) hb)
                                clear BK176
                                clear HB
                                have BK176 := n0_
                                have HB := n1_
                                clear n0_ n1_
                                (try clear hb)
                                (try clear hb2)
                                (try clear hk)
                                (try clear hi)
                                refine hK.out _ _ ⟨(blk_cell BK176.out 0).trans rfl, (blk_cell BK176.out 1).trans rfl, (blk_cell BK176.out 2).trans rfl, (blk_cell BK176.out 3).trans rfl, (blk_cell BK176.out 4).trans rfl⟩ (fun hHeld => ?_)
                                clear hK K
                                refine norm_ (a' := ?_) ?_ ?_
                                rotate_left
                                · show Act.put _ (some 31) _ = _
                                  simp only [Act.put, List.setIfInBounds_toArray, List.set_cons_zero, List.set_cons_succ, i64_w, i32_w]
                                  rfl
                                refine pure_ (i := 10) (N := some 32) (v := ?_) (a' := ?_) #[true, true, true, true, true, true, true, true, true, true, true, false, false] rfl rfl (any_of HT_.out (by kernel_rfl)) (fun _ _ _ h => h) (Or.inl ⟨by rfl, ?_⟩) ?_ ?_
                                rotate_left
                                · intro w'
                                  go_simp
                                  with_reducible rfl
                                rotate_left
                                · simp only [Act.put, List.setIfInBounds_toArray, List.set_cons_zero, List.set_cons_succ, i64_w, i32_w]
                                  rfl
                                refine pure_ (i := 11) (N := some 33) (v := ?_) (a' := ?_) #[true, true, true, true, true, true, true, true, true, true, true, true, false] rfl rfl (any_of HT_.out (by kernel_rfl)) (fun _ _ _ h => h) (Or.inl ⟨by rfl, ?_⟩) ?_ ?_
                                rotate_left
                                · intro w'
                                  go_simp
                                  with_reducible rfl
                                rotate_left
                                · simp only [Act.put, List.setIfInBounds_toArray, List.set_cons_zero, List.set_cons_succ, i64_w, i32_w]
                                  rfl
                                refine pure_ (i := 12) (N := some 9) (v := ?_) (a' := ?_) #[true, true, true, true, true, true, true, true, true, true, true, true, true] rfl rfl (any_of HT_.out (by kernel_rfl)) (fun _ _ _ h => h) (Or.inl ⟨by rfl, ?_⟩) ?_ ?_
                                rotate_left
                                · intro w'
                                  go_simp
                                  with_reducible rfl
                                rotate_left
                                · simp only [Act.put, List.setIfInBounds_toArray, List.set_cons_zero, List.set_cons_succ, i64_w, i32_w]
                                  rfl
                                refine done_ (done_of HT_.out (by kernel_rfl)) ?_
                                have hcz30_0 : w29.cell? ⟨gb176, 0, none⟩ = some (.int .i64 ((rd_T33 l0 x13_1).f0)) := (blk_cell BK176.out 0).trans rfl
                                have hcz30_1 : w29.cell? ⟨gb176, 1, none⟩ = some (.bool true) := (blk_cell BK176.out 1).trans rfl
                                have hcz30_2 : w29.cell? ⟨gb176, 2, none⟩ = some (.string ((rd_T33 l0 x13_1).f2)) := (blk_cell BK176.out 2).trans rfl
                                have hcz30_3 : w29.cell? ⟨gb176, 3, none⟩ = some (.string ((rd_T33 l0 x13_1).f3)) := (blk_cell BK176.out 3).trans rfl
                                have hcz30_4 : w29.cell? ⟨gb176, 4, none⟩ = some (.slice A175_4 ((rd_T33 l0 x13_1).f4).length c175_4) := (blk_cell BK176.out 4).trans rfl
                                have hfz30_0 := blk_frozen BK176.out 0
                                have hfz30_1 := blk_frozen BK176.out 1
                                have hfz30_2 := blk_frozen BK176.out 2
                                have hfz30_3 := blk_frozen BK176.out 3
                                have hfz30_4 := blk_frozen BK176.out 4
                                try go_wp2
                                go_roundg k1
                                case measure => have := HK1.out; omega
                                case rel => exact ⟨(x5_1 ++ (((⟨#[34]⟩ : ByteArray) ++ (((((⟨#[36, 123]⟩ : ByteArray) ++ ((rd_T33 l0 x13_1).f2)) ++ ((rd_T33 l0 x13_1).f3)) ++ t177) ++ (⟨#[125]⟩ : ByteArray))) ++ (⟨#[34]⟩ : ByteArray))), (wrap64 (x13_1 + 1)), (by first | rfl | (simp; done) | (simp [*]; done)), (by first | rfl | (simp; done) | (simp [*]; done)), H', ⟨by have := HK1.out; omega⟩, ⟨by repeat (first | (with_reducible first | exact HB.out | apply below_alloc | apply pw_below_drewN | apply below_drew1 | refine below_set ?_ GE176.out) | exact HB.out)⟩⟩
                              · rw [if_neg c24] at H
                                exact absurd H (by simp)
                            · rw [if_neg c23] at H
                              exact absurd H (by simp)
                          · rw [if_neg c22] at H
                            exact absurd H (by simp)
                      · rw [if_neg c13] at H
                        exact absurd H (by simp)
                    · rw [if_neg c12] at H
                      exact absurd H (by simp)
                  · rw [if_neg c10] at H
                    exact absurd H (by simp)
                · rw [if_neg c9] at H
                  exact absurd H (by simp)
              · replace c8 := Bool.eq_false_iff.mpr c8
                subst c8
                have H1 : (if 2 + ((rd_T33 l0 x13_1).f2).size ≤ 9223372036854775807 then (if ((⟨#[36, 123]⟩ : ByteArray) ++ ((rd_T33 l0 x13_1).f2)).size + ((rd_T33 l0 x13_1).f3).size ≤ 9223372036854775807 then ((deadfallref03_written.f k1 ((rd_T33 l0 x13_1).f4) 1).bind fun t178 => (if (((⟨#[36, 123]⟩ : ByteArray) ++ ((rd_T33 l0 x13_1).f2)) ++ ((rd_T33 l0 x13_1).f3)).size + t178.size ≤ 9223372036854775807 then (if ((((⟨#[36, 123]⟩ : ByteArray) ++ ((rd_T33 l0 x13_1).f2)) ++ ((rd_T33 l0 x13_1).f3)) ++ t178).size + 1 ≤ 9223372036854775807 then (if x5_1.size + (((((⟨#[36, 123]⟩ : ByteArray) ++ ((rd_T33 l0 x13_1).f2)) ++ ((rd_T33 l0 x13_1).f3)) ++ t178) ++ (⟨#[125]⟩ : ByteArray)).size ≤ 9223372036854775807 then (deadfallref03_written.l0 k1 a1 (x5_1 ++ (((((⟨#[36, 123]⟩ : ByteArray) ++ ((rd_T33 l0 x13_1).f2)) ++ ((rd_T33 l0 x13_1).f3)) ++ t178) ++ (⟨#[125]⟩ : ByteArray))) l0 (l0.length : Int) (wrap64 (x13_1 + 1))) else (none)) else (none)) else (none))) else (none)) else (none)) = some r := by rw [if_neg (show ¬ (false = true) by decide)] at H; exact H
                clear H
                have H := H1
                clear H1
                by_cases c31 : 2 + ((rd_T33 l0 x13_1).f2).size ≤ 9223372036854775807
                · rw [if_pos c31] at H
                  have c31b0 := eq_true c31
                  have c31b1 : decide (2 + ((rd_T33 l0 x13_1).f2).size ≤ 9223372036854775807) = true := decide_eq_true c31
                  try have c31b2 : (9223372036854775807 < 2 + ((rd_T33 l0 x13_1).f2).size) = False := eq_false (Nat.not_lt.2 c31)
                  try (have c31b3 := c31b2; simp only [ByteArray.size_append, show (⟨#[36, 123]⟩ : ByteArray).size = 2 from rfl, show (⟨#[125]⟩ : ByteArray).size = 1 from rfl, show (⟨#[34]⟩ : ByteArray).size = 1 from rfl, show (⟨#[92]⟩ : ByteArray).size = 1 from rfl] at c31b3)
                  by_cases c32 : ((⟨#[36, 123]⟩ : ByteArray) ++ ((rd_T33 l0 x13_1).f2)).size + ((rd_T33 l0 x13_1).f3).size ≤ 9223372036854775807
                  · rw [if_pos c32] at H
                    have c32b0 := eq_true c32
                    have c32b1 : decide (((⟨#[36, 123]⟩ : ByteArray) ++ ((rd_T33 l0 x13_1).f2)).size + ((rd_T33 l0 x13_1).f3).size ≤ 9223372036854775807) = true := decide_eq_true c32
                    try have c32b2 : (9223372036854775807 < ((⟨#[36, 123]⟩ : ByteArray) ++ ((rd_T33 l0 x13_1).f2)).size + ((rd_T33 l0 x13_1).f3).size) = False := eq_false (Nat.not_lt.2 c32)
                    try (have c32b3 := c32b2; simp only [ByteArray.size_append, show (⟨#[36, 123]⟩ : ByteArray).size = 2 from rfl, show (⟨#[125]⟩ : ByteArray).size = 1 from rfl, show (⟨#[34]⟩ : ByteArray).size = 1 from rfl, show (⟨#[92]⟩ : ByteArray).size = 1 from rfl] at c32b3)
                    replace H := Option.bind_eq_some_iff.mp H
                    obtain ⟨t178, A330, H⟩ := H
                    replace H : (if (((⟨#[36, 123]⟩ : ByteArray) ++ ((rd_T33 l0 x13_1).f2)) ++ ((rd_T33 l0 x13_1).f3)).size + t178.size ≤ 9223372036854775807 then (if ((((⟨#[36, 123]⟩ : ByteArray) ++ ((rd_T33 l0 x13_1).f2)) ++ ((rd_T33 l0 x13_1).f3)) ++ t178).size + 1 ≤ 9223372036854775807 then (if x5_1.size + (((((⟨#[36, 123]⟩ : ByteArray) ++ ((rd_T33 l0 x13_1).f2)) ++ ((rd_T33 l0 x13_1).f3)) ++ t178) ++ (⟨#[125]⟩ : ByteArray)).size ≤ 9223372036854775807 then (deadfallref03_written.l0 k1 a1 (x5_1 ++ (((((⟨#[36, 123]⟩ : ByteArray) ++ ((rd_T33 l0 x13_1).f2)) ++ ((rd_T33 l0 x13_1).f3)) ++ t178) ++ (⟨#[125]⟩ : ByteArray))) l0 (l0.length : Int) (wrap64 (x13_1 + 1))) else (none)) else (none)) else (none)) = some r := H
                    have A33 := Aside0.mk A330
                    clear A330
                    by_cases c34 : (((⟨#[36, 123]⟩ : ByteArray) ++ ((rd_T33 l0 x13_1).f2)) ++ ((rd_T33 l0 x13_1).f3)).size + t178.size ≤ 9223372036854775807
                    · rw [if_pos c34] at H
                      have c34b0 := eq_true c34
                      have c34b1 : decide ((((⟨#[36, 123]⟩ : ByteArray) ++ ((rd_T33 l0 x13_1).f2)) ++ ((rd_T33 l0 x13_1).f3)).size + t178.size ≤ 9223372036854775807) = true := decide_eq_true c34
                      try have c34b2 : (9223372036854775807 < (((⟨#[36, 123]⟩ : ByteArray) ++ ((rd_T33 l0 x13_1).f2)) ++ ((rd_T33 l0 x13_1).f3)).size + t178.size) = False := eq_false (Nat.not_lt.2 c34)
                      try (have c34b3 := c34b2; simp only [ByteArray.size_append, show (⟨#[36, 123]⟩ : ByteArray).size = 2 from rfl, show (⟨#[125]⟩ : ByteArray).size = 1 from rfl, show (⟨#[34]⟩ : ByteArray).size = 1 from rfl, show (⟨#[92]⟩ : ByteArray).size = 1 from rfl] at c34b3)
                      by_cases c35 : ((((⟨#[36, 123]⟩ : ByteArray) ++ ((rd_T33 l0 x13_1).f2)) ++ ((rd_T33 l0 x13_1).f3)) ++ t178).size + 1 ≤ 9223372036854775807
                      · rw [if_pos c35] at H
                        have c35b0 := eq_true c35
                        have c35b1 : decide (((((⟨#[36, 123]⟩ : ByteArray) ++ ((rd_T33 l0 x13_1).f2)) ++ ((rd_T33 l0 x13_1).f3)) ++ t178).size + 1 ≤ 9223372036854775807) = true := decide_eq_true c35
                        try have c35b2 : (9223372036854775807 < ((((⟨#[36, 123]⟩ : ByteArray) ++ ((rd_T33 l0 x13_1).f2)) ++ ((rd_T33 l0 x13_1).f3)) ++ t178).size + 1) = False := eq_false (Nat.not_lt.2 c35)
                        try (have c35b3 := c35b2; simp only [ByteArray.size_append, show (⟨#[36, 123]⟩ : ByteArray).size = 2 from rfl, show (⟨#[125]⟩ : ByteArray).size = 1 from rfl, show (⟨#[34]⟩ : ByteArray).size = 1 from rfl, show (⟨#[92]⟩ : ByteArray).size = 1 from rfl] at c35b3)
                        by_cases c36 : x5_1.size + (((((⟨#[36, 123]⟩ : ByteArray) ++ ((rd_T33 l0 x13_1).f2)) ++ ((rd_T33 l0 x13_1).f3)) ++ t178) ++ (⟨#[125]⟩ : ByteArray)).size ≤ 9223372036854775807
                        · rw [if_pos c36] at H
                          have c36b0 := eq_true c36
                          have c36b1 : decide (x5_1.size + (((((⟨#[36, 123]⟩ : ByteArray) ++ ((rd_T33 l0 x13_1).f2)) ++ ((rd_T33 l0 x13_1).f3)) ++ t178) ++ (⟨#[125]⟩ : ByteArray)).size ≤ 9223372036854775807) = true := decide_eq_true c36
                          try have c36b2 : (9223372036854775807 < x5_1.size + (((((⟨#[36, 123]⟩ : ByteArray) ++ ((rd_T33 l0 x13_1).f2)) ++ ((rd_T33 l0 x13_1).f3)) ++ t178) ++ (⟨#[125]⟩ : ByteArray)).size) = False := eq_false (Nat.not_lt.2 c36)
                          try (have c36b3 := c36b2; simp only [ByteArray.size_append, show (⟨#[36, 123]⟩ : ByteArray).size = 2 from rfl, show (⟨#[125]⟩ : ByteArray).size = 1 from rfl, show (⟨#[34]⟩ : ByteArray).size = 1 from rfl, show (⟨#[92]⟩ : ByteArray).size = 1 from rfl] at c36b3)
                          have H' := Aside0.mk H
                          clear H
                          have p175 : 0 ≤ (x13_1 : Int) := of_decide_eq_true (by first | (with_reducible assumption) | assumption)
                          have q175 : x13_1 < (l0.length : Int) := of_decide_eq_true (by first | (with_reducible assumption) | assumption)
                          obtain ⟨ad175, A175_4, c175_4, e175, hx175_0, hx175_1, hx175_2, hx175_3, hx175_4, hl175_4, hi175_4⟩ := at_T33 HR0.out x13_1 p175 q175
                          (try rw [← Nbq7.out] at hx175_1)
                          cases e175
                          replace hx175_0 := (HB.out.cell (World.block_lt_of_cell? w _ hx175_0)).trans hx175_0
                          replace hx175_1 := (HB.out.cell (World.block_lt_of_cell? w _ hx175_1)).trans hx175_1
                          replace hx175_2 := (HB.out.cell (World.block_lt_of_cell? w _ hx175_2)).trans hx175_2
                          replace hx175_3 := (HB.out.cell (World.block_lt_of_cell? w _ hx175_3)).trans hx175_3
                          replace hx175_4 := (HB.out.cell (World.block_lt_of_cell? w _ hx175_4)).trans hx175_4
                          have HR175_4 := Aside0.mk hi175_4
                          have HC175_4 := Aside0.mk hl175_4
                          clear hi175_4 hl175_4
                          replace p175 := eq_true p175
                          replace q175 := eq_true q175
                          try go_wp2_with (first | ((with_reducible refine gate_dst (N := 7) rfl ?_); refine box_event ?hg (N := 7) ?hd (cs := #[.int .i64 0, .bool false, .string (⟨#[]⟩ : ByteArray), .string (⟨#[]⟩ : ByteArray), .slice none 0 0]) (t := 33) ?hr ?_; (case hd => rfl); (case hg => rfl); (case hr => first | (go_simp; done) | (go_simp; rfl)); intro gb176 hg w37 hbox hb; have n0_ := Aside0.mk (below_step (by repeat (first | (with_reducible first | exact HB.out | apply below_alloc | apply pw_below_drewN | apply below_drew1) | exact HB.out)) hb); have n1_ := Aside0.mk (hbox); have n2_ := Aside0.mk ((by rw [hg]; exact (below_size (by repeat (first | (with_reducible first | exact HB.out | apply below_alloc | apply pw_below_drewN | apply below_drew1) | exact HB.out))) : w.heap.size ≤ gb176)); have n3_ := Aside0.mk ((by rw [hg]; exact (below_size (by repeat (first | (with_reducible first | exact HB.out | apply below_alloc | apply pw_below_drewN | apply below_drew1) | exact HB.out))) : w.heap.size ≤ gb176)); clear HB; have HB := n0_; have BK176 := n1_; have GW176 := n2_; have GE176 := n3_; clear n0_ n1_ n2_ n3_; clear hb hbox hg; have hcz38_0 : w37.cell? ⟨gb176, 0, none⟩ = some (.int .i64 0) := (blk_cell BK176.out 0).trans rfl; have hcz38_1 : w37.cell? ⟨gb176, 1, none⟩ = some (.bool false) := (blk_cell BK176.out 1).trans rfl; have hcz38_2 : w37.cell? ⟨gb176, 2, none⟩ = some (.string (⟨#[]⟩ : ByteArray)) := (blk_cell BK176.out 2).trans rfl; have hcz38_3 : w37.cell? ⟨gb176, 3, none⟩ = some (.string (⟨#[]⟩ : ByteArray)) := (blk_cell BK176.out 3).trans rfl; have hcz38_4 : w37.cell? ⟨gb176, 4, none⟩ = some (.slice none 0 0) := (blk_cell BK176.out 4).trans rfl; have hfz38_0 := blk_frozen BK176.out 0; have hfz38_1 := blk_frozen BK176.out 1; have hfz38_2 := blk_frozen BK176.out 2; have hfz38_3 := blk_frozen BK176.out 3; have hfz38_4 := blk_frozen BK176.out 4))
                          have n0_ : Aside0 ((((((w37.setCell ⟨gb176, 0, none⟩ (.int .i64 ((rd_T33 l0 x13_1).f0))).setCell ⟨gb176, 1, none⟩ (.bool false)).setCell ⟨gb176, 2, none⟩ (.string ((rd_T33 l0 x13_1).f2))).setCell ⟨gb176, 3, none⟩ (.string ((rd_T33 l0 x13_1).f3))).setCell ⟨gb176, 4, none⟩ (.slice A175_4 ((rd_T33 l0 x13_1).f4).length c175_4)).heap[gb176]? = some (.cells #[.int .i64 ((rd_T33 l0 x13_1).f0), .bool false, .string ((rd_T33 l0 x13_1).f2), .string ((rd_T33 l0 x13_1).f3), .slice A175_4 ((rd_T33 l0 x13_1).f4).length c175_4] 33 (0, 0))) := ⟨by (with_reducible repeat (first | refine blk_drewN ?_ _ | refine blk_drew ?_ | refine blk_alloc ?_ _)); refine blk_put (cs := #[.int .i64 ((rd_T33 l0 x13_1).f0), .bool false, .string ((rd_T33 l0 x13_1).f2), .string ((rd_T33 l0 x13_1).f3), .slice none 0 0]) ?_ 4 _ rfl; (with_reducible repeat (first | refine blk_drewN ?_ _ | refine blk_drew ?_ | refine blk_alloc ?_ _)); refine blk_put (cs := #[.int .i64 ((rd_T33 l0 x13_1).f0), .bool false, .string ((rd_T33 l0 x13_1).f2), .string (⟨#[]⟩ : ByteArray), .slice none 0 0]) ?_ 3 _ rfl; (with_reducible repeat (first | refine blk_drewN ?_ _ | refine blk_drew ?_ | refine blk_alloc ?_ _)); refine blk_put (cs := #[.int .i64 ((rd_T33 l0 x13_1).f0), .bool false, .string (⟨#[]⟩ : ByteArray), .string (⟨#[]⟩ : ByteArray), .slice none 0 0]) ?_ 2 _ rfl; (with_reducible repeat (first | refine blk_drewN ?_ _ | refine blk_drew ?_ | refine blk_alloc ?_ _)); refine blk_put (cs := #[.int .i64 ((rd_T33 l0 x13_1).f0), .bool false, .string (⟨#[]⟩ : ByteArray), .string (⟨#[]⟩ : ByteArray), .slice none 0 0]) ?_ 1 _ rfl; (with_reducible repeat (first | refine blk_drewN ?_ _ | refine blk_drew ?_ | refine blk_alloc ?_ _)); refine blk_put (cs := #[.int .i64 0, .bool false, .string (⟨#[]⟩ : ByteArray), .string (⟨#[]⟩ : ByteArray), .slice none 0 0]) ?_ 0 _ rfl; (with_reducible repeat (first | refine blk_drewN ?_ _ | refine blk_drew ?_ | refine blk_alloc ?_ _)); exact BK176.out⟩
                          have n1_ : Aside0 (Below w.heap.size w (((((w37.setCell ⟨gb176, 0, none⟩ (.int .i64 ((rd_T33 l0 x13_1).f0))).setCell ⟨gb176, 1, none⟩ (.bool false)).setCell ⟨gb176, 2, none⟩ (.string ((rd_T33 l0 x13_1).f2))).setCell ⟨gb176, 3, none⟩ (.string ((rd_T33 l0 x13_1).f3))).setCell ⟨gb176, 4, none⟩ (.slice A175_4 ((rd_T33 l0 x13_1).f4).length c175_4))) := ⟨by repeat (first | (with_reducible first | exact HB.out | apply below_alloc | apply pw_below_drewN | apply below_drew1 | refine below_set ?_ GE176.out) | exact HB.out)⟩
                          (try clear BK176)
                          (try clear HB)
                          generalize (((((w37.setCell ⟨gb176, 0, none⟩ (.int .i64 ((rd_T33 l0 x13_1).f0))).setCell ⟨gb176, 1, none⟩ (.bool false)).setCell ⟨gb176, 2, none⟩ (.string ((rd_T33 l0 x13_1).f2))).setCell ⟨gb176, 3, none⟩ (.string ((rd_T33 l0 x13_1).f3))).setCell ⟨gb176, 4, none⟩ (.slice A175_4 ((rd_T33 l0 x13_1).f4).length c175_4)) = w39 at n0_ n1_ ⊢
                          have BK176 := n0_
                          have HB := n1_
                          clear n0_ n1_
                          have n0_ := Aside0.mk (blk_drew BK176.out)
                          have n1_ := Aside0.mk (below_drew1 HB.out)
                          clear BK176
                          clear HB
                          have BK176 := n0_
                          have HB := n1_
                          clear n0_ n1_
                          refine start_ (n := 13) (S := fun w' => w'.cell? ⟨gb176, 0, none⟩ = some (.int .i64 ((rd_T33 l0 x13_1).f0)) ∧ w'.cell? ⟨gb176, 1, none⟩ = some (.bool false) ∧ w'.cell? ⟨gb176, 2, none⟩ = some (.string ((rd_T33 l0 x13_1).f2)) ∧ w'.cell? ⟨gb176, 3, none⟩ = some (.string ((rd_T33 l0 x13_1).f3)) ∧ w'.cell? ⟨gb176, 4, none⟩ = some (.slice A175_4 ((rd_T33 l0 x13_1).f4).length c175_4)) (ds := []) #[false, false, false, false, false, false, false, false, false, false, false, false, false] (by kernel_rfl) rfl rfl ⟨(blk_cell BK176.out 0).trans rfl, (blk_cell BK176.out 1).trans rfl, (blk_cell BK176.out 2).trans rfl, (blk_cell BK176.out 3).trans rfl, (blk_cell BK176.out 4).trans rfl⟩ (fun hHeld => ?_); refine with_tabW deadfallref03_written.tab9 deadfallref03_written.bits9 (fun HT_ HW_ => ?_)
                          generalize w39.drew = w40 at BK176 HB hHeld ⊢
                          refine pure_ (i := 0) (N := some 22) (v := ?_) (a' := ?_) #[true, false, false, false, false, false, false, false, false, false, false, false, false] rfl rfl (any_of HT_.out (by kernel_rfl)) (fun _ _ _ h => h) (Or.inl ⟨by rfl, ?_⟩) ?_ ?_
                          rotate_left
                          · intro w'
                            go_simp
                            with_reducible rfl
                          rotate_left
                          · simp only [Act.put, List.setIfInBounds_toArray, List.set_cons_zero, List.set_cons_succ, i64_w, i32_w]
                            rfl
                          refine pure_ (i := 3) (N := some 25) (v := ?_) (a' := ?_) #[true, false, false, true, false, false, false, false, false, false, false, false, false] rfl rfl (any_of HT_.out (by kernel_rfl)) (fun _ _ _ h => h) (Or.inl ⟨by rfl, ?_⟩) ?_ ?_
                          rotate_left
                          · intro w'
                            go_simp
                            with_reducible rfl
                          rotate_left
                          · simp only [Act.put, List.setIfInBounds_toArray, List.set_cons_zero, List.set_cons_succ, i64_w, i32_w]
                            rfl
                          refine pure_ (i := 6) (N := some 28) (v := ?_) (a' := ?_) #[true, false, false, true, false, false, true, false, false, false, false, false, false] rfl rfl (any_of HT_.out (by kernel_rfl)) (fun _ _ _ h => h) (Or.inl ⟨by rfl, ?_⟩) ?_ ?_
                          rotate_left
                          · intro w'
                            go_simp
                            with_reducible rfl
                          rotate_left
                          · simp only [Act.put, List.setIfInBounds_toArray, List.set_cons_zero, List.set_cons_succ, i64_w, i32_w]
                            rfl
                          refine pure_ (i := 8) (N := some 30) (v := ?_) (a' := ?_) #[true, false, false, true, false, false, true, false, true, false, false, false, false] rfl rfl (any_of HT_.out (by kernel_rfl)) (fun _ _ _ h => h) (Or.inl ⟨by rfl, ?_⟩) ?_ ?_
                          rotate_left
                          · intro w'
                            go_simp
                            with_reducible rfl
                          rotate_left
                          · simp only [Act.put, List.setIfInBounds_toArray, List.set_cons_zero, List.set_cons_succ, i64_w, i32_w]
                            rfl
                          refine take_ (i := 1) (N := some 23) (v := ?_) (a' := ?_) #[true, true, false, true, false, false, true, false, true, false, false, false, false] rfl rfl (take_ofW HT_.out HW_.out (by kernel_rfl)) (fun _ _ _ h => h) (Or.inl ⟨by rfl, ?_⟩) hHeld ?_ ?_
                          rotate_left
                          · rintro w' ⟨s0, s1, s2, s3, s4⟩
                            go_simp
                            with_reducible rfl
                          rotate_left
                          · simp only [Act.put, List.setIfInBounds_toArray, List.set_cons_zero, List.set_cons_succ, i64_w, i32_w]
                            rfl
                          refine pure_ (i := 2) (N := some 24) (v := ?_) (a' := ?_) #[true, true, true, true, false, false, true, false, true, false, false, false, false] rfl rfl (any_of HT_.out (by kernel_rfl)) (fun _ _ _ h => h) (Or.inl ⟨by rfl, ?_⟩) ?_ ?_
                          rotate_left
                          · intro w'
                            go_simp
                            with_reducible rfl
                          rotate_left
                          · simp only [Act.put, List.setIfInBounds_toArray, List.set_cons_zero, List.set_cons_succ, i64_w, i32_w]
                            rfl
                          refine take_ (i := 4) (N := some 26) (v := ?_) (a' := ?_) #[true, true, true, true, true, false, true, false, true, false, false, false, false] rfl rfl (take_ofW HT_.out HW_.out (by kernel_rfl)) (fun _ _ _ h => h) (Or.inl ⟨by rfl, ?_⟩) hHeld ?_ ?_
                          rotate_left
                          · rintro w' ⟨s0, s1, s2, s3, s4⟩
                            go_simp
                            with_reducible rfl
                          rotate_left
                          · simp only [Act.put, List.setIfInBounds_toArray, List.set_cons_zero, List.set_cons_succ, i64_w, i32_w]
                            rfl
                          refine pure_ (i := 5) (N := some 27) (v := ?_) (a' := ?_) #[true, true, true, true, true, true, true, false, true, false, false, false, false] rfl rfl (any_of HT_.out (by kernel_rfl)) (fun _ _ _ h => h) (Or.inl ⟨by rfl, ?_⟩) ?_ ?_
                          rotate_left
                          · intro w'
                            go_simp
                            with_reducible rfl
                          rotate_left
                          · simp only [Act.put, List.setIfInBounds_toArray, List.set_cons_zero, List.set_cons_succ, i64_w, i32_w]
                            rfl
                          refine take_ (i := 7) (N := some 29) (v := ?_) (a' := ?_) #[true, true, true, true, true, true, true, true, true, false, false, false, false] rfl rfl (take_ofW HT_.out HW_.out (by kernel_rfl)) (fun _ _ _ h => h) (Or.inl ⟨by rfl, ?_⟩) hHeld ?_ ?_
                          rotate_left
                          · rintro w' ⟨s0, s1, s2, s3, s4⟩
                            go_simp
                            with_reducible rfl
                          rotate_left
                          · simp only [Act.put, List.setIfInBounds_toArray, List.set_cons_zero, List.set_cons_succ, i64_w, i32_w]
                            rfl
                          refine one_ (i := 9) (N := some 31) #[true, true, true, true, true, true, true, true, true, true, false, false, false] rfl rfl (one_of HT_.out (by kernel_rfl)) (by decide) (fun K hK => ?_)
                          refine goes_ Tryd.func27 (by kernel_rfl) rfl #[.slice A175_4 ((rd_T33 l0 x13_1).f4).length c175_4, .int .i64 1] (by rfl) rfl rfl (by (try simp only [List.map_toArray, List.map_cons, List.map_nil]); first | done | rfl | (simp only [List.length_drop, List.length_take]; rfl)) ?_
                          with_reducible refine (ih k1 (by have := HK1.out; omega) _ _ ((rd_T33 l0 x13_1).f4) 1 t178 _ ?side1 ?side2 A33.out).mono ?_
                          (case side1 => repeat (first | exact (Kd.C_below HR175_4.out HB.out) | (with_reducible refine Kd.C_alloc ?_ _) | (with_reducible refine Kd.C_drewN ?_ _) | (with_reducible refine Kd.C_drew ?_)))
                          (case side2 => exact HC175_4.out)
                          rintro e w41 ⟨rfl, hb⟩
                          refine ⟨_, rfl, ?_⟩
                          have n0_ := Aside0.mk (blk_below (g := gb176) (o := .cells #[.int .i64 ((rd_T33 l0 x13_1).f0), .bool false, .string ((rd_T33 l0 x13_1).f2), .string ((rd_T33 l0 x13_1).f3), .slice A175_4 ((rd_T33 l0 x13_1).f4).length c175_4] 33 (0, 0)) (by (with_reducible repeat (first | refine blk_drewN ?_ _ | refine blk_drew ?_ | refine blk_alloc ?_ _)); exact BK176.out) hb)
                          have n1_ := Aside0.mk (below_step (by repeat (first | (with_reducible first | exact HB.out | apply below_alloc | apply pw_below_drewN | apply below_drew1 | refine below_set ?_ GE176.out) | exact HB.out)) hb)
                          clear BK176
                          clear HB
                          have BK176 := n0_
                          have HB := n1_
                          clear n0_ n1_
                          (try clear hb)
                          (try clear hb2)
                          (try clear hk)
                          (try clear hi)
                          refine hK.out _ _ ⟨(blk_cell BK176.out 0).trans rfl, (blk_cell BK176.out 1).trans rfl, (blk_cell BK176.out 2).trans rfl, (blk_cell BK176.out 3).trans rfl, (blk_cell BK176.out 4).trans rfl⟩ (fun hHeld => ?_)
                          clear hK K
                          refine norm_ (a' := ?_) ?_ ?_
                          rotate_left
                          · show Act.put _ (some 31) _ = _
                            simp only [Act.put, List.setIfInBounds_toArray, List.set_cons_zero, List.set_cons_succ, i64_w, i32_w]
                            rfl
                          refine pure_ (i := 10) (N := some 32) (v := ?_) (a' := ?_) #[true, true, true, true, true, true, true, true, true, true, true, false, false] rfl rfl (any_of HT_.out (by kernel_rfl)) (fun _ _ _ h => h) (Or.inl ⟨by rfl, ?_⟩) ?_ ?_
                          rotate_left
                          · intro w'
                            go_simp
                            with_reducible rfl
                          rotate_left
                          · simp only [Act.put, List.setIfInBounds_toArray, List.set_cons_zero, List.set_cons_succ, i64_w, i32_w]
                            rfl
                          refine pure_ (i := 11) (N := some 33) (v := ?_) (a' := ?_) #[true, true, true, true, true, true, true, true, true, true, true, true, false] rfl rfl (any_of HT_.out (by kernel_rfl)) (fun _ _ _ h => h) (Or.inl ⟨by rfl, ?_⟩) ?_ ?_
                          rotate_left
                          · intro w'
                            go_simp
                            with_reducible rfl
                          rotate_left
                          · simp only [Act.put, List.setIfInBounds_toArray, List.set_cons_zero, List.set_cons_succ, i64_w, i32_w]
                            rfl
                          refine pure_ (i := 12) (N := some 9) (v := ?_) (a' := ?_) #[true, true, true, true, true, true, true, true, true, true, true, true, true] rfl rfl (any_of HT_.out (by kernel_rfl)) (fun _ _ _ h => h) (Or.inl ⟨by rfl, ?_⟩) ?_ ?_
                          rotate_left
                          · intro w'
                            go_simp
                            with_reducible rfl
                          rotate_left
                          · simp only [Act.put, List.setIfInBounds_toArray, List.set_cons_zero, List.set_cons_succ, i64_w, i32_w]
                            rfl
                          refine done_ (done_of HT_.out (by kernel_rfl)) ?_
                          have hcz42_0 : w41.cell? ⟨gb176, 0, none⟩ = some (.int .i64 ((rd_T33 l0 x13_1).f0)) := (blk_cell BK176.out 0).trans rfl
                          have hcz42_1 : w41.cell? ⟨gb176, 1, none⟩ = some (.bool false) := (blk_cell BK176.out 1).trans rfl
                          have hcz42_2 : w41.cell? ⟨gb176, 2, none⟩ = some (.string ((rd_T33 l0 x13_1).f2)) := (blk_cell BK176.out 2).trans rfl
                          have hcz42_3 : w41.cell? ⟨gb176, 3, none⟩ = some (.string ((rd_T33 l0 x13_1).f3)) := (blk_cell BK176.out 3).trans rfl
                          have hcz42_4 : w41.cell? ⟨gb176, 4, none⟩ = some (.slice A175_4 ((rd_T33 l0 x13_1).f4).length c175_4) := (blk_cell BK176.out 4).trans rfl
                          have hfz42_0 := blk_frozen BK176.out 0
                          have hfz42_1 := blk_frozen BK176.out 1
                          have hfz42_2 := blk_frozen BK176.out 2
                          have hfz42_3 := blk_frozen BK176.out 3
                          have hfz42_4 := blk_frozen BK176.out 4
                          try go_wp2
                          go_roundg k1
                          case measure => have := HK1.out; omega
                          case rel => exact ⟨(x5_1 ++ (((((⟨#[36, 123]⟩ : ByteArray) ++ ((rd_T33 l0 x13_1).f2)) ++ ((rd_T33 l0 x13_1).f3)) ++ t178) ++ (⟨#[125]⟩ : ByteArray))), (wrap64 (x13_1 + 1)), (by first | rfl | (simp; done) | (simp [*]; done)), (by first | rfl | (simp; done) | (simp [*]; done)), H', ⟨by have := HK1.out; omega⟩, ⟨by repeat (first | (with_reducible first | exact HB.out | apply below_alloc | apply pw_below_drewN | apply below_drew1 | refine below_set ?_ GE176.out) | exact HB.out)⟩⟩
                        · rw [if_neg c36] at H
                          exact absurd H (by simp)
                      · rw [if_neg c35] at H
                        exact absurd H (by simp)
                    · rw [if_neg c34] at H
                      exact absurd H (by simp)
                  · rw [if_neg c32] at H
                    exact absurd H (by simp)
                · rw [if_neg c31] at H
                  exact absurd H (by simp)
            · rw [if_neg c6] at H
              have c6b0 : (((rd_T33 l0 x13_1).f0) == 2) = false := beq_eq_false_iff_ne.mpr c6
              have c6b1 : (((rd_T33 l0 x13_1).f0) != 2) = true := bne_iff_ne.mpr c6
              by_cases c43 : a1 = 2
              · rw [if_pos c43] at H
                have c43b0 : (a1 == 2) = true := beq_iff_eq.mpr c43
                have c43b1 : (a1 != 2) = false := bne_eq_false_iff_eq.mpr c43
                clear c43
                have H' := Aside0.mk H
                clear H
                have p175 : 0 ≤ (x13_1 : Int) := of_decide_eq_true (by first | (with_reducible assumption) | assumption)
                have q175 : x13_1 < (l0.length : Int) := of_decide_eq_true (by first | (with_reducible assumption) | assumption)
                obtain ⟨ad175, A175_4, c175_4, e175, hx175_0, hx175_1, hx175_2, hx175_3, hx175_4, hl175_4, hi175_4⟩ := at_T33 HR0.out x13_1 p175 q175
                cases e175
                replace hx175_0 := (HB.out.cell (World.block_lt_of_cell? w _ hx175_0)).trans hx175_0
                replace hx175_1 := (HB.out.cell (World.block_lt_of_cell? w _ hx175_1)).trans hx175_1
                replace hx175_2 := (HB.out.cell (World.block_lt_of_cell? w _ hx175_2)).trans hx175_2
                replace hx175_3 := (HB.out.cell (World.block_lt_of_cell? w _ hx175_3)).trans hx175_3
                replace hx175_4 := (HB.out.cell (World.block_lt_of_cell? w _ hx175_4)).trans hx175_4
                have HR175_4 := Aside0.mk hi175_4
                have HC175_4 := Aside0.mk hl175_4
                clear hi175_4 hl175_4
                replace p175 := eq_true p175
                replace q175 := eq_true q175
                go_wp2_with (first | ((with_reducible refine gate_dst (N := 7) rfl ?_); refine box_event ?hg (N := 7) ?hd (cs := #[.int .i64 0, .bool false, .string (⟨#[]⟩ : ByteArray), .string (⟨#[]⟩ : ByteArray), .slice none 0 0]) (t := 33) ?hr ?_; (case hd => rfl); (case hg => rfl); (case hr => first | (go_simp; done) | (go_simp; rfl)); intro gb176 hg w44 hbox hb; have n0_ := Aside0.mk (below_step (by repeat (first | (with_reducible first | exact HB.out | apply below_alloc | apply pw_below_drewN | apply below_drew1) | exact HB.out)) hb); have n1_ := Aside0.mk (hbox); have n2_ := Aside0.mk ((by rw [hg]; exact (below_size (by repeat (first | (with_reducible first | exact HB.out | apply below_alloc | apply pw_below_drewN | apply below_drew1) | exact HB.out))) : w.heap.size ≤ gb176)); have n3_ := Aside0.mk ((by rw [hg]; exact (below_size (by repeat (first | (with_reducible first | exact HB.out | apply below_alloc | apply pw_below_drewN | apply below_drew1) | exact HB.out))) : w.heap.size ≤ gb176)); clear HB; have HB := n0_; have BK176 := n1_; have GW176 := n2_; have GE176 := n3_; clear n0_ n1_ n2_ n3_; clear hb hbox hg; have hcz45_0 : w44.cell? ⟨gb176, 0, none⟩ = some (.int .i64 0) := (blk_cell BK176.out 0).trans rfl; have hcz45_1 : w44.cell? ⟨gb176, 1, none⟩ = some (.bool false) := (blk_cell BK176.out 1).trans rfl; have hcz45_2 : w44.cell? ⟨gb176, 2, none⟩ = some (.string (⟨#[]⟩ : ByteArray)) := (blk_cell BK176.out 2).trans rfl; have hcz45_3 : w44.cell? ⟨gb176, 3, none⟩ = some (.string (⟨#[]⟩ : ByteArray)) := (blk_cell BK176.out 3).trans rfl; have hcz45_4 : w44.cell? ⟨gb176, 4, none⟩ = some (.slice none 0 0) := (blk_cell BK176.out 4).trans rfl; have hfz45_0 := blk_frozen BK176.out 0; have hfz45_1 := blk_frozen BK176.out 1; have hfz45_2 := blk_frozen BK176.out 2; have hfz45_3 := blk_frozen BK176.out 3; have hfz45_4 := blk_frozen BK176.out 4))
                go_loopg [5, 10] k1 (fun kq v5 v10 w' => ∃ (x5_2 : ByteArray) (x10_2 : Int), v5 = .string x5_2 ∧ v10 = .int .i64 x10_2 ∧ Aside0 (deadfallref03_written.l1 kq a1 x5_2 x10_2 l0 (l0.length : Int) x13_1 ((rd_T33 l0 x13_1).f0) ((rd_T33 l0 x13_1).f1) ((rd_T33 l0 x13_1).f2) ((rd_T33 l0 x13_1).f3) ((rd_T33 l0 x13_1).f4) = some r) ∧ Aside0 (kq ≤ k1) ∧ Aside0 (w'.heap[gb176]? = some (.cells #[.int .i64 ((rd_T33 l0 x13_1).f0), .bool ((rd_T33 l0 x13_1).f1), .string ((rd_T33 l0 x13_1).f2), .string ((rd_T33 l0 x13_1).f3), (.slice A175_4 ((rd_T33 l0 x13_1).f4).length c175_4)] 33 (0, 0))) ∧ Aside0 (Below w.heap.size w w'))
                case atStart => exact ⟨(x5_1), (0), (by first | rfl | (simp; done) | (simp [*]; done)), (by first | rfl | (simp; done) | (simp [*]; done)), H', ⟨Nat.le_refl _⟩, ⟨by (with_reducible repeat (first | refine blk_drewN ?_ _ | refine blk_drew ?_ | refine blk_alloc ?_ _)); refine blk_put (cs := #[.int .i64 ((rd_T33 l0 x13_1).f0), .bool ((rd_T33 l0 x13_1).f1), .string ((rd_T33 l0 x13_1).f2), .string ((rd_T33 l0 x13_1).f3), .slice none 0 0]) ?_ 4 _ rfl; (with_reducible repeat (first | refine blk_drewN ?_ _ | refine blk_drew ?_ | refine blk_alloc ?_ _)); refine blk_put (cs := #[.int .i64 ((rd_T33 l0 x13_1).f0), .bool ((rd_T33 l0 x13_1).f1), .string ((rd_T33 l0 x13_1).f2), .string (⟨#[]⟩ : ByteArray), .slice none 0 0]) ?_ 3 _ rfl; (with_reducible repeat (first | refine blk_drewN ?_ _ | refine blk_drew ?_ | refine blk_alloc ?_ _)); refine blk_put (cs := #[.int .i64 ((rd_T33 l0 x13_1).f0), .bool ((rd_T33 l0 x13_1).f1), .string (⟨#[]⟩ : ByteArray), .string (⟨#[]⟩ : ByteArray), .slice none 0 0]) ?_ 2 _ rfl; (with_reducible repeat (first | refine blk_drewN ?_ _ | refine blk_drew ?_ | refine blk_alloc ?_ _)); refine blk_put (cs := #[.int .i64 ((rd_T33 l0 x13_1).f0), .bool false, .string (⟨#[]⟩ : ByteArray), .string (⟨#[]⟩ : ByteArray), .slice none 0 0]) ?_ 1 _ rfl; (with_reducible repeat (first | refine blk_drewN ?_ _ | refine blk_drew ?_ | refine blk_alloc ?_ _)); refine blk_put (cs := #[.int .i64 0, .bool false, .string (⟨#[]⟩ : ByteArray), .string (⟨#[]⟩ : ByteArray), .slice none 0 0]) ?_ 0 _ rfl; (with_reducible repeat (first | refine blk_drewN ?_ _ | refine blk_drew ?_ | refine blk_alloc ?_ _)); exact BK176.out⟩, ⟨by repeat (first | (with_reducible first | exact HB.out | apply below_alloc | apply pw_below_drewN | apply below_drew1 | refine below_set ?_ GE176.out) | exact HB.out)⟩⟩
                case round =>
                  clear H'
                  try clear c1
                  try clear p1
                  try clear q1
                  try clear hx1
                  try clear c2
                  try clear p2
                  try clear c3
                  try clear c4
                  try clear c6
                  try clear c6b0
                  try clear c6b1
                  try clear p6
                  try clear q7
                  try clear c8
                  try clear c9
                  try clear c10
                  try clear c12
                  try clear c13
                  try clear c14
                  try clear c14b0
                  try clear c14b1
                  try clear c15
                  try clear c17
                  try clear p17
                  try clear q17
                  try clear hx17
                  try clear c22
                  try clear c22b0
                  try clear c22b1
                  try clear c22b2
                  try clear c23
                  try clear c23b0
                  try clear c23b1
                  try clear c23b2
                  try clear c24
                  try clear c24b0
                  try clear c24b1
                  try clear c24b2
                  try clear c27
                  try clear c31
                  try clear c31b0
                  try clear c31b1
                  try clear c31b2
                  try clear c32
                  try clear c32b0
                  try clear c32b1
                  try clear c32b2
                  try clear c34
                  try clear c34b0
                  try clear c34b1
                  try clear c34b2
                  try clear c35
                  try clear c35b0
                  try clear c35b1
                  try clear c35b2
                  try clear c36
                  try clear c36b0
                  try clear c36b1
                  try clear c36b2
                  try clear c43
                  try clear c43b0
                  try clear c43b1
                  try clear hcz21_0
                  try clear hcz21_1
                  try clear hcz21_2
                  try clear hcz21_3
                  try clear hcz21_4
                  try clear hcz26_0
                  try clear hcz26_1
                  try clear hcz26_2
                  try clear hcz26_3
                  try clear hcz26_4
                  try clear hcz30_0
                  try clear hcz30_1
                  try clear hcz30_2
                  try clear hcz30_3
                  try clear hcz30_4
                  try clear hcz38_0
                  try clear hcz38_1
                  try clear hcz38_2
                  try clear hcz38_3
                  try clear hcz38_4
                  try clear hcz42_0
                  try clear hcz42_1
                  try clear hcz42_2
                  try clear hcz42_3
                  try clear hcz42_4
                  try clear hcz45_0
                  try clear hcz45_1
                  try clear hcz45_2
                  try clear hcz45_3
                  try clear hcz45_4
                  try clear hfz21_0
                  try clear hfz21_1
                  try clear hfz21_2
                  try clear hfz21_3
                  try clear hfz21_4
                  try clear hfz26_0
                  try clear hfz26_1
                  try clear hfz26_2
                  try clear hfz26_3
                  try clear hfz26_4
                  try clear hfz30_0
                  try clear hfz30_1
                  try clear hfz30_2
                  try clear hfz30_3
                  try clear hfz30_4
                  try clear hfz38_0
                  try clear hfz38_1
                  try clear hfz38_2
                  try clear hfz38_3
                  try clear hfz38_4
                  try clear hfz42_0
                  try clear hfz42_1
                  try clear hfz42_2
                  try clear hfz42_3
                  try clear hfz42_4
                  try clear hfz45_0
                  try clear hfz45_1
                  try clear hfz45_2
                  try clear hfz45_3
                  try clear hfz45_4
                  try clear hx175_0
                  try clear hx175_1
                  try clear hx175_2
                  try clear hx175_3
                  try clear hx175_4
                  try clear p175
                  try clear q175
                  obtain ⟨x5_2, x10_2, rfl, rfl, HA, HK2, BK176, HB⟩ := hrel
                  cases gk with
                  | zero => exact absurd HA.out (by simp [deadfallref03_written.l1])
                  | succ k2 =>
                    have H := HA.out
                    clear HA
                    simp only [deadfallref03_written.l1] at H
                    by_cases c46 : x10_2 < (((rd_T33 l0 x13_1).f2).size : Int)
                    · rw [if_pos c46] at H
                      have c46b0 : decide (x10_2 < (((rd_T33 l0 x13_1).f2).size : Int)) = true := decide_eq_true c46
                      clear c46
                      by_cases c47 : 0 ≤ x10_2
                      · rw [if_pos c47] at H
                        have c47b0 : decide (0 ≤ x10_2) = true := decide_eq_true c47
                        clear c47
                        replace H := Option.bind_eq_some_iff.mp H
                        obtain ⟨t179, A490, H⟩ := H
                        replace H : (if t179 = true then (if x5_2.size + 1 ≤ 9223372036854775807 then (if x10_2 ≤ (wrap64 (x10_2 + 1)) then (if (wrap64 (x10_2 + 1)) ≤ (((rd_T33 l0 x13_1).f2).size : Int) then (if (x5_2 ++ (⟨#[92]⟩ : ByteArray)).size + (((rd_T33 l0 x13_1).f2).extract (x10_2 : Int).toNat ((wrap64 (x10_2 + 1)) : Int).toNat).size ≤ 9223372036854775807 then (deadfallref03_written.l1 k2 a1 ((x5_2 ++ (⟨#[92]⟩ : ByteArray)) ++ (((rd_T33 l0 x13_1).f2).extract (x10_2 : Int).toNat ((wrap64 (x10_2 + 1)) : Int).toNat)) (wrap64 (x10_2 + 1)) l0 (l0.length : Int) x13_1 ((rd_T33 l0 x13_1).f0) ((rd_T33 l0 x13_1).f1) ((rd_T33 l0 x13_1).f2) ((rd_T33 l0 x13_1).f3) ((rd_T33 l0 x13_1).f4)) else (none)) else (none)) else (none)) else (none)) else (if x10_2 ≤ (wrap64 (x10_2 + 1)) then (if (wrap64 (x10_2 + 1)) ≤ (((rd_T33 l0 x13_1).f2).size : Int) then (if x5_2.size + (((rd_T33 l0 x13_1).f2).extract (x10_2 : Int).toNat ((wrap64 (x10_2 + 1)) : Int).toNat).size ≤ 9223372036854775807 then (deadfallref03_written.l1 k2 a1 (x5_2 ++ (((rd_T33 l0 x13_1).f2).extract (x10_2 : Int).toNat ((wrap64 (x10_2 + 1)) : Int).toNat)) (wrap64 (x10_2 + 1)) l0 (l0.length : Int) x13_1 ((rd_T33 l0 x13_1).f0) ((rd_T33 l0 x13_1).f1) ((rd_T33 l0 x13_1).f2) ((rd_T33 l0 x13_1).f3) ((rd_T33 l0 x13_1).f4)) else (none)) else (none)) else (none))) = some r := H
                        have A49 := Aside0.mk A490
                        clear A490
                        by_cases c50 : t179 = true
                        · subst c50
                          have H1 : (if x5_2.size + 1 ≤ 9223372036854775807 then (if x10_2 ≤ (wrap64 (x10_2 + 1)) then (if (wrap64 (x10_2 + 1)) ≤ (((rd_T33 l0 x13_1).f2).size : Int) then (if (x5_2 ++ (⟨#[92]⟩ : ByteArray)).size + (((rd_T33 l0 x13_1).f2).extract (x10_2 : Int).toNat ((wrap64 (x10_2 + 1)) : Int).toNat).size ≤ 9223372036854775807 then (deadfallref03_written.l1 k2 a1 ((x5_2 ++ (⟨#[92]⟩ : ByteArray)) ++ (((rd_T33 l0 x13_1).f2).extract (x10_2 : Int).toNat ((wrap64 (x10_2 + 1)) : Int).toNat)) (wrap64 (x10_2 + 1)) l0 (l0.length : Int) x13_1 ((rd_T33 l0 x13_1).f0) ((rd_T33 l0 x13_1).f1) ((rd_T33 l0 x13_1).f2) ((rd_T33 l0 x13_1).f3) ((rd_T33 l0 x13_1).f4)) else (none)) else (none)) else (none)) else (none)) = some r := by rw [if_pos rfl] at H; exact H
                          clear H
                          have H := H1
                          clear H1
                          by_cases c51 : x5_2.size + 1 ≤ 9223372036854775807
                          · rw [if_pos c51] at H
                            have c51b0 := eq_true c51
                            have c51b1 : decide (x5_2.size + 1 ≤ 9223372036854775807) = true := decide_eq_true c51
                            try have c51b2 : (9223372036854775807 < x5_2.size + 1) = False := eq_false (Nat.not_lt.2 c51)
                            try (have c51b3 := c51b2; simp only [ByteArray.size_append, show (⟨#[36, 123]⟩ : ByteArray).size = 2 from rfl, show (⟨#[125]⟩ : ByteArray).size = 1 from rfl, show (⟨#[34]⟩ : ByteArray).size = 1 from rfl, show (⟨#[92]⟩ : ByteArray).size = 1 from rfl] at c51b3)
                            have c52b0 := eq_true (of_decide_eq_true (by first | (with_reducible assumption) | assumption) : 0 ≤ x10_2)
                            by_cases c53 : x10_2 ≤ (wrap64 (x10_2 + 1))
                            · rw [if_pos c53] at H
                              have c53b0 := eq_true c53
                              have c53b1 : decide (x10_2 ≤ (wrap64 (x10_2 + 1))) = true := decide_eq_true c53
                              by_cases c54 : (wrap64 (x10_2 + 1)) ≤ (((rd_T33 l0 x13_1).f2).size : Int)
                              · rw [if_pos c54] at H
                                have c54b0 := eq_true c54
                                have c54b1 : decide ((wrap64 (x10_2 + 1)) ≤ (((rd_T33 l0 x13_1).f2).size : Int)) = true := decide_eq_true c54
                                by_cases c55 : (x5_2 ++ (⟨#[92]⟩ : ByteArray)).size + (((rd_T33 l0 x13_1).f2).extract (x10_2 : Int).toNat ((wrap64 (x10_2 + 1)) : Int).toNat).size ≤ 9223372036854775807
                                · rw [if_pos c55] at H
                                  have c55b0 := eq_true c55
                                  have c55b1 : decide ((x5_2 ++ (⟨#[92]⟩ : ByteArray)).size + (((rd_T33 l0 x13_1).f2).extract (x10_2 : Int).toNat ((wrap64 (x10_2 + 1)) : Int).toNat).size ≤ 9223372036854775807) = true := decide_eq_true c55
                                  try have c55b2 : (9223372036854775807 < (x5_2 ++ (⟨#[92]⟩ : ByteArray)).size + (((rd_T33 l0 x13_1).f2).extract (x10_2 : Int).toNat ((wrap64 (x10_2 + 1)) : Int).toNat).size) = False := eq_false (Nat.not_lt.2 c55)
                                  try (have c55b3 := c55b2; simp only [ByteArray.size_append, show (⟨#[36, 123]⟩ : ByteArray).size = 2 from rfl, show (⟨#[125]⟩ : ByteArray).size = 1 from rfl, show (⟨#[34]⟩ : ByteArray).size = 1 from rfl, show (⟨#[92]⟩ : ByteArray).size = 1 from rfl] at c55b3)
                                  have H' := Aside0.mk H
                                  clear H
                                  have hcz56_0 : wr.cell? ⟨gb176, 0, none⟩ = some (.int .i64 ((rd_T33 l0 x13_1).f0)) := (blk_cell BK176.out 0).trans rfl
                                  have hcz56_1 : wr.cell? ⟨gb176, 1, none⟩ = some (.bool ((rd_T33 l0 x13_1).f1)) := (blk_cell BK176.out 1).trans rfl
                                  have hcz56_2 : wr.cell? ⟨gb176, 2, none⟩ = some (.string ((rd_T33 l0 x13_1).f2)) := (blk_cell BK176.out 2).trans rfl
                                  have hcz56_3 : wr.cell? ⟨gb176, 3, none⟩ = some (.string ((rd_T33 l0 x13_1).f3)) := (blk_cell BK176.out 3).trans rfl
                                  have hcz56_4 : wr.cell? ⟨gb176, 4, none⟩ = some (.slice A175_4 ((rd_T33 l0 x13_1).f4).length c175_4) := (blk_cell BK176.out 4).trans rfl
                                  have hfz56_0 := blk_frozen BK176.out 0
                                  have hfz56_1 := blk_frozen BK176.out 1
                                  have hfz56_2 := blk_frozen BK176.out 2
                                  have hfz56_3 := blk_frozen BK176.out 3
                                  have hfz56_4 := blk_frozen BK176.out 4
                                  have p48 : 0 ≤ (x10_2 : Int) := of_decide_eq_true (by first | (with_reducible assumption) | assumption)
                                  have q48 : x10_2 < (((rd_T33 l0 x13_1).f2).size : Int) := of_decide_eq_true (by first | (with_reducible assumption) | assumption)
                                  have hx48 := bt_at ((rd_T33 l0 x13_1).f2) x10_2
                                  replace p48 := eq_true p48
                                  replace q48 := eq_true q48
                                  go_wp2_with (first | ((with_reducible refine gate_callee (f := 42) rfl ?_); refine goesL_ (some 59) rfl rfl Tryd.func42 (by kernel_rfl) rfl #[.int .u8 (bt ((rd_T33 l0 x13_1).f2) x10_2), .string (⟨#[34, 36, 92, 96, 125]⟩ : ByteArray)] rfl (by (try simp only [List.map_toArray, List.map_cons, List.map_nil]); first | done | rfl | (simp only [List.length_drop, List.length_take]; rfl)) ?_; (with_reducible refine (deadfallref03_among.calls k2 (bt ((rd_T33 l0 x13_1).f2) x10_2) (⟨#[34, 36, 92, 96, 125]⟩ : ByteArray) true _ A49.out).mono ?_); rintro e w' ⟨rfl, ⟨nd, rfl⟩⟩; refine ⟨_, rfl, ?_⟩))
                                  go_roundg k2
                                  case measure => have := HK1.out; have := HK2.out; omega
                                  case rel => exact ⟨((x5_2 ++ (⟨#[92]⟩ : ByteArray)) ++ (((rd_T33 l0 x13_1).f2).extract (x10_2 : Int).toNat ((wrap64 (x10_2 + 1)) : Int).toNat)), (wrap64 (x10_2 + 1)), (by first | rfl | (simp; done) | (simp [*]; done)), (by first | rfl | (simp; done) | (simp [*]; done)), H', ⟨by have := HK1.out; have := HK2.out; omega⟩, ⟨by (with_reducible repeat (first | refine blk_drewN ?_ _ | refine blk_drew ?_ | refine blk_alloc ?_ _)); exact BK176.out⟩, ⟨by repeat (first | (with_reducible first | exact HB.out | apply below_alloc | apply pw_below_drewN | apply below_drew1 | refine below_set ?_ GE176.out) | exact HB.out)⟩⟩
                                · rw [if_neg c55] at H
                                  exact absurd H (by simp)
                              · rw [if_neg c54] at H
                                exact absurd H (by simp)
                            · rw [if_neg c53] at H
                              exact absurd H (by simp)
                          · rw [if_neg c51] at H
                            exact absurd H (by simp)
                        · replace c50 := Bool.eq_false_iff.mpr c50
                          subst c50
                          have H1 : (if x10_2 ≤ (wrap64 (x10_2 + 1)) then (if (wrap64 (x10_2 + 1)) ≤ (((rd_T33 l0 x13_1).f2).size : Int) then (if x5_2.size + (((rd_T33 l0 x13_1).f2).extract (x10_2 : Int).toNat ((wrap64 (x10_2 + 1)) : Int).toNat).size ≤ 9223372036854775807 then (deadfallref03_written.l1 k2 a1 (x5_2 ++ (((rd_T33 l0 x13_1).f2).extract (x10_2 : Int).toNat ((wrap64 (x10_2 + 1)) : Int).toNat)) (wrap64 (x10_2 + 1)) l0 (l0.length : Int) x13_1 ((rd_T33 l0 x13_1).f0) ((rd_T33 l0 x13_1).f1) ((rd_T33 l0 x13_1).f2) ((rd_T33 l0 x13_1).f3) ((rd_T33 l0 x13_1).f4)) else (none)) else (none)) else (none)) = some r := by rw [if_neg (show ¬ (false = true) by decide)] at H; exact H
                          clear H
                          have H := H1
                          clear H1
                          have c57b0 := eq_true (of_decide_eq_true (by first | (with_reducible assumption) | assumption) : 0 ≤ x10_2)
                          by_cases c58 : x10_2 ≤ (wrap64 (x10_2 + 1))
                          · rw [if_pos c58] at H
                            have c58b0 := eq_true c58
                            have c58b1 : decide (x10_2 ≤ (wrap64 (x10_2 + 1))) = true := decide_eq_true c58
                            by_cases c59 : (wrap64 (x10_2 + 1)) ≤ (((rd_T33 l0 x13_1).f2).size : Int)
                            · rw [if_pos c59] at H
                              have c59b0 := eq_true c59
                              have c59b1 : decide ((wrap64 (x10_2 + 1)) ≤ (((rd_T33 l0 x13_1).f2).size : Int)) = true := decide_eq_true c59
                              by_cases c60 : x5_2.size + (((rd_T33 l0 x13_1).f2).extract (x10_2 : Int).toNat ((wrap64 (x10_2 + 1)) : Int).toNat).size ≤ 9223372036854775807
                              · rw [if_pos c60] at H
                                have c60b0 := eq_true c60
                                have c60b1 : decide (x5_2.size + (((rd_T33 l0 x13_1).f2).extract (x10_2 : Int).toNat ((wrap64 (x10_2 + 1)) : Int).toNat).size ≤ 9223372036854775807) = true := decide_eq_true c60
                                try have c60b2 : (9223372036854775807 < x5_2.size + (((rd_T33 l0 x13_1).f2).extract (x10_2 : Int).toNat ((wrap64 (x10_2 + 1)) : Int).toNat).size) = False := eq_false (Nat.not_lt.2 c60)
                                try (have c60b3 := c60b2; simp only [ByteArray.size_append, show (⟨#[36, 123]⟩ : ByteArray).size = 2 from rfl, show (⟨#[125]⟩ : ByteArray).size = 1 from rfl, show (⟨#[34]⟩ : ByteArray).size = 1 from rfl, show (⟨#[92]⟩ : ByteArray).size = 1 from rfl] at c60b3)
                                have H' := Aside0.mk H
                                clear H
                                have hcz61_0 : wr.cell? ⟨gb176, 0, none⟩ = some (.int .i64 ((rd_T33 l0 x13_1).f0)) := (blk_cell BK176.out 0).trans rfl
                                have hcz61_1 : wr.cell? ⟨gb176, 1, none⟩ = some (.bool ((rd_T33 l0 x13_1).f1)) := (blk_cell BK176.out 1).trans rfl
                                have hcz61_2 : wr.cell? ⟨gb176, 2, none⟩ = some (.string ((rd_T33 l0 x13_1).f2)) := (blk_cell BK176.out 2).trans rfl
                                have hcz61_3 : wr.cell? ⟨gb176, 3, none⟩ = some (.string ((rd_T33 l0 x13_1).f3)) := (blk_cell BK176.out 3).trans rfl
                                have hcz61_4 : wr.cell? ⟨gb176, 4, none⟩ = some (.slice A175_4 ((rd_T33 l0 x13_1).f4).length c175_4) := (blk_cell BK176.out 4).trans rfl
                                have hfz61_0 := blk_frozen BK176.out 0
                                have hfz61_1 := blk_frozen BK176.out 1
                                have hfz61_2 := blk_frozen BK176.out 2
                                have hfz61_3 := blk_frozen BK176.out 3
                                have hfz61_4 := blk_frozen BK176.out 4
                                have p48 : 0 ≤ (x10_2 : Int) := of_decide_eq_true (by first | (with_reducible assumption) | assumption)
                                have q48 : x10_2 < (((rd_T33 l0 x13_1).f2).size : Int) := of_decide_eq_true (by first | (with_reducible assumption) | assumption)
                                have hx48 := bt_at ((rd_T33 l0 x13_1).f2) x10_2
                                replace p48 := eq_true p48
                                replace q48 := eq_true q48
                                go_wp2_with (first | ((with_reducible refine gate_callee (f := 42) rfl ?_); refine goesL_ (some 59) rfl rfl Tryd.func42 (by kernel_rfl) rfl #[.int .u8 (bt ((rd_T33 l0 x13_1).f2) x10_2), .string (⟨#[34, 36, 92, 96, 125]⟩ : ByteArray)] rfl (by (try simp only [List.map_toArray, List.map_cons, List.map_nil]); first | done | rfl | (simp only [List.length_drop, List.length_take]; rfl)) ?_; (with_reducible refine (deadfallref03_among.calls k2 (bt ((rd_T33 l0 x13_1).f2) x10_2) (⟨#[34, 36, 92, 96, 125]⟩ : ByteArray) false _ A49.out).mono ?_); rintro e w' ⟨rfl, ⟨nd, rfl⟩⟩; refine ⟨_, rfl, ?_⟩))
                                go_roundg k2
                                case measure => have := HK1.out; have := HK2.out; omega
                                case rel => exact ⟨(x5_2 ++ (((rd_T33 l0 x13_1).f2).extract (x10_2 : Int).toNat ((wrap64 (x10_2 + 1)) : Int).toNat)), (wrap64 (x10_2 + 1)), (by first | rfl | (simp; done) | (simp [*]; done)), (by first | rfl | (simp; done) | (simp [*]; done)), H', ⟨by have := HK1.out; have := HK2.out; omega⟩, ⟨by (with_reducible repeat (first | refine blk_drewN ?_ _ | refine blk_drew ?_ | refine blk_alloc ?_ _)); exact BK176.out⟩, ⟨by repeat (first | (with_reducible first | exact HB.out | apply below_alloc | apply pw_below_drewN | apply below_drew1 | refine below_set ?_ GE176.out) | exact HB.out)⟩⟩
                              · rw [if_neg c60] at H
                                exact absurd H (by simp)
                            · rw [if_neg c59] at H
                              exact absurd H (by simp)
                          · rw [if_neg c58] at H
                            exact absurd H (by simp)
                      · rw [if_neg c47] at H
                        exact absurd H (by simp)
                    · rw [if_neg c46] at H
                      have c46b0 : decide (x10_2 < (((rd_T33 l0 x13_1).f2).size : Int)) = false := decide_eq_false c46
                      clear c46
                      have H' := Aside0.mk H
                      clear H
                      have hcz62_0 : wr.cell? ⟨gb176, 0, none⟩ = some (.int .i64 ((rd_T33 l0 x13_1).f0)) := (blk_cell BK176.out 0).trans rfl
                      have hcz62_1 : wr.cell? ⟨gb176, 1, none⟩ = some (.bool ((rd_T33 l0 x13_1).f1)) := (blk_cell BK176.out 1).trans rfl
                      have hcz62_2 : wr.cell? ⟨gb176, 2, none⟩ = some (.string ((rd_T33 l0 x13_1).f2)) := (blk_cell BK176.out 2).trans rfl
                      have hcz62_3 : wr.cell? ⟨gb176, 3, none⟩ = some (.string ((rd_T33 l0 x13_1).f3)) := (blk_cell BK176.out 3).trans rfl
                      have hcz62_4 : wr.cell? ⟨gb176, 4, none⟩ = some (.slice A175_4 ((rd_T33 l0 x13_1).f4).length c175_4) := (blk_cell BK176.out 4).trans rfl
                      have hfz62_0 := blk_frozen BK176.out 0
                      have hfz62_1 := blk_frozen BK176.out 1
                      have hfz62_2 := blk_frozen BK176.out 2
                      have hfz62_3 := blk_frozen BK176.out 3
                      have hfz62_4 := blk_frozen BK176.out 4
                      go_wp2
                      go_roundg k2
                      case measure => have := HK1.out; have := HK2.out; omega
                      case rel => exact ⟨(x5_2), (wrap64 (x13_1 + 1)), (by first | rfl | (simp; done) | (simp [*]; done)), (by first | rfl | (simp; done) | (simp [*]; done)), H', ⟨by have := HK1.out; have := HK2.out; omega⟩, ⟨by repeat (first | (with_reducible first | exact HB.out | apply below_alloc | apply pw_below_drewN | apply below_drew1 | refine below_set ?_ GE176.out) | exact HB.out)⟩⟩
              · rw [if_neg c43] at H
                have c43b0 : (a1 == 2) = false := beq_eq_false_iff_ne.mpr c43
                have c43b1 : (a1 != 2) = true := bne_iff_ne.mpr c43
                obtain ⟨bq63, hbq63⟩ : ∃ b_ : Bool, b_ = ((rd_T33 l0 x13_1).f1) := ⟨_, rfl⟩
                replace H : (if bq63 = true then ((deadfallref03_Quote.f k1 ((rd_T33 l0 x13_1).f2)).bind fun t180 => (if x5_1.size + t180.size ≤ 9223372036854775807 then (deadfallref03_written.l0 k1 a1 (x5_1 ++ t180) l0 (l0.length : Int) (wrap64 (x13_1 + 1))) else (none))) else (if x5_1.size + ((rd_T33 l0 x13_1).f2).size ≤ 9223372036854775807 then (deadfallref03_written.l0 k1 a1 (x5_1 ++ ((rd_T33 l0 x13_1).f2)) l0 (l0.length : Int) (wrap64 (x13_1 + 1))) else (none))) = some r := by rw [← hbq63] at H; exact H
                have Nbq63 := Aside0.mk hbq63
                clear hbq63
                by_cases c64 : bq63 = true
                · subst c64
                  have H1 : ((deadfallref03_Quote.f k1 ((rd_T33 l0 x13_1).f2)).bind fun t180 => (if x5_1.size + t180.size ≤ 9223372036854775807 then (deadfallref03_written.l0 k1 a1 (x5_1 ++ t180) l0 (l0.length : Int) (wrap64 (x13_1 + 1))) else (none))) = some r := by rw [if_pos rfl] at H; exact H
                  clear H
                  have H := H1
                  clear H1
                  replace H := Option.bind_eq_some_iff.mp H
                  obtain ⟨t180, A650, H⟩ := H
                  replace H : (if x5_1.size + t180.size ≤ 9223372036854775807 then (deadfallref03_written.l0 k1 a1 (x5_1 ++ t180) l0 (l0.length : Int) (wrap64 (x13_1 + 1))) else (none)) = some r := H
                  have A65 := Aside0.mk A650
                  clear A650
                  by_cases c66 : x5_1.size + t180.size ≤ 9223372036854775807
                  · rw [if_pos c66] at H
                    have c66b0 := eq_true c66
                    have c66b1 : decide (x5_1.size + t180.size ≤ 9223372036854775807) = true := decide_eq_true c66
                    try have c66b2 : (9223372036854775807 < x5_1.size + t180.size) = False := eq_false (Nat.not_lt.2 c66)
                    try (have c66b3 := c66b2; simp only [ByteArray.size_append, show (⟨#[36, 123]⟩ : ByteArray).size = 2 from rfl, show (⟨#[125]⟩ : ByteArray).size = 1 from rfl, show (⟨#[34]⟩ : ByteArray).size = 1 from rfl, show (⟨#[92]⟩ : ByteArray).size = 1 from rfl] at c66b3)
                    have H' := Aside0.mk H
                    clear H
                    have p175 : 0 ≤ (x13_1 : Int) := of_decide_eq_true (by first | (with_reducible assumption) | assumption)
                    have q175 : x13_1 < (l0.length : Int) := of_decide_eq_true (by first | (with_reducible assumption) | assumption)
                    obtain ⟨ad175, A175_4, c175_4, e175, hx175_0, hx175_1, hx175_2, hx175_3, hx175_4, hl175_4, hi175_4⟩ := at_T33 HR0.out x13_1 p175 q175
                    (try rw [← Nbq63.out] at hx175_1)
                    cases e175
                    replace hx175_0 := (HB.out.cell (World.block_lt_of_cell? w _ hx175_0)).trans hx175_0
                    replace hx175_1 := (HB.out.cell (World.block_lt_of_cell? w _ hx175_1)).trans hx175_1
                    replace hx175_2 := (HB.out.cell (World.block_lt_of_cell? w _ hx175_2)).trans hx175_2
                    replace hx175_3 := (HB.out.cell (World.block_lt_of_cell? w _ hx175_3)).trans hx175_3
                    replace hx175_4 := (HB.out.cell (World.block_lt_of_cell? w _ hx175_4)).trans hx175_4
                    have HR175_4 := Aside0.mk hi175_4
                    have HC175_4 := Aside0.mk hl175_4
                    clear hi175_4 hl175_4
                    replace p175 := eq_true p175
                    replace q175 := eq_true q175
                    go_wp2_with (first | ((with_reducible refine gate_dst (N := 7) rfl ?_); refine box_event ?hg (N := 7) ?hd (cs := #[.int .i64 0, .bool false, .string (⟨#[]⟩ : ByteArray), .string (⟨#[]⟩ : ByteArray), .slice none 0 0]) (t := 33) ?hr ?_; (case hd => rfl); (case hg => rfl); (case hr => first | (go_simp; done) | (go_simp; rfl)); intro gb176 hg w67 hbox hb; have n0_ := Aside0.mk (below_step (by repeat (first | (with_reducible first | exact HB.out | apply below_alloc | apply pw_below_drewN | apply below_drew1) | exact HB.out)) hb); have n1_ := Aside0.mk (hbox); have n2_ := Aside0.mk ((by rw [hg]; exact (below_size (by repeat (first | (with_reducible first | exact HB.out | apply below_alloc | apply pw_below_drewN | apply below_drew1) | exact HB.out))) : w.heap.size ≤ gb176)); have n3_ := Aside0.mk ((by rw [hg]; exact (below_size (by repeat (first | (with_reducible first | exact HB.out | apply below_alloc | apply pw_below_drewN | apply below_drew1) | exact HB.out))) : w.heap.size ≤ gb176)); clear HB; have HB := n0_; have BK176 := n1_; have GW176 := n2_; have GE176 := n3_; clear n0_ n1_ n2_ n3_; clear hb hbox hg; have hcz68_0 : w67.cell? ⟨gb176, 0, none⟩ = some (.int .i64 0) := (blk_cell BK176.out 0).trans rfl; have hcz68_1 : w67.cell? ⟨gb176, 1, none⟩ = some (.bool false) := (blk_cell BK176.out 1).trans rfl; have hcz68_2 : w67.cell? ⟨gb176, 2, none⟩ = some (.string (⟨#[]⟩ : ByteArray)) := (blk_cell BK176.out 2).trans rfl; have hcz68_3 : w67.cell? ⟨gb176, 3, none⟩ = some (.string (⟨#[]⟩ : ByteArray)) := (blk_cell BK176.out 3).trans rfl; have hcz68_4 : w67.cell? ⟨gb176, 4, none⟩ = some (.slice none 0 0) := (blk_cell BK176.out 4).trans rfl; have hfz68_0 := blk_frozen BK176.out 0; have hfz68_1 := blk_frozen BK176.out 1; have hfz68_2 := blk_frozen BK176.out 2; have hfz68_3 := blk_frozen BK176.out 3; have hfz68_4 := blk_frozen BK176.out 4) | ((with_reducible refine gate_callee (f := 18) rfl ?_); refine goesL_ (some 75) rfl rfl Tryd.func18 (by kernel_rfl) rfl #[.string ((rd_T33 l0 x13_1).f2)] rfl (by (try simp only [List.map_toArray, List.map_cons, List.map_nil]); first | done | rfl | (simp only [List.length_drop, List.length_take]; rfl)) ?_; (with_reducible refine (deadfallref03_Quote.calls k1 ((rd_T33 l0 x13_1).f2) t180 _ A65.out).mono ?_); rintro e w69 ⟨rfl, hb⟩; refine ⟨_, rfl, ?_⟩; have n0_ := Aside0.mk (blk_below (g := gb176) (o := .cells #[.int .i64 ((rd_T33 l0 x13_1).f0), .bool true, .string ((rd_T33 l0 x13_1).f2), .string ((rd_T33 l0 x13_1).f3), .slice A175_4 ((rd_T33 l0 x13_1).f4).length c175_4] 33 (0, 0)) (by (with_reducible repeat (first | refine blk_drewN ?_ _ | refine blk_drew ?_ | refine blk_alloc ?_ _)); refine blk_put (cs := #[.int .i64 ((rd_T33 l0 x13_1).f0), .bool true, .string ((rd_T33 l0 x13_1).f2), .string ((rd_T33 l0 x13_1).f3), .slice none 0 0]) ?_ 4 _ rfl; (with_reducible repeat (first | refine blk_drewN ?_ _ | refine blk_drew ?_ | refine blk_alloc ?_ _)); refine blk_put (cs := #[.int .i64 ((rd_T33 l0 x13_1).f0), .bool true, .string ((rd_T33 l0 x13_1).f2), .string (⟨#[]⟩ : ByteArray), .slice none 0 0]) ?_ 3 _ rfl; (with_reducible repeat (first | refine blk_drewN ?_ _ | refine blk_drew ?_ | refine blk_alloc ?_ _)); refine blk_put (cs := #[.int .i64 ((rd_T33 l0 x13_1).f0), .bool true, .string (⟨#[]⟩ : ByteArray), .string (⟨#[]⟩ : ByteArray), .slice none 0 0]) ?_ 2 _ rfl; (with_reducible repeat (first | refine blk_drewN ?_ _ | refine blk_drew ?_ | refine blk_alloc ?_ _)); refine blk_put (cs := #[.int .i64 ((rd_T33 l0 x13_1).f0), .bool false, .string (⟨#[]⟩ : ByteArray), .string (⟨#[]⟩ : ByteArray), .slice none 0 0]) ?_ 1 _ rfl; (with_reducible repeat (first | refine blk_drewN ?_ _ | refine blk_drew ?_ | refine blk_alloc ?_ _)); refine blk_put (cs := #[.int .i64 0, .bool false, .string (⟨#[]⟩ : ByteArray), .string (⟨#[]⟩ : ByteArray), .slice none 0 0]) ?_ 0 _ rfl; (with_reducible repeat (first | refine blk_drewN ?_ _ | refine blk_drew ?_ | refine blk_alloc ?_ _)); exact BK176.out) hb); have n1_ := Aside0.mk (below_step (by repeat (first | (with_reducible first | exact HB.out | apply below_alloc | apply pw_below_drewN | apply below_drew1 | refine below_set ?_ GE176.out) | exact HB.out)) hb); clear BK176; clear HB; have BK176 := n0_; have HB := n1_; clear n0_ n1_; (try clear hb); (try clear hb2); (try clear hk); (try clear hi)))
                    go_roundg k1
                    case measure => have := HK1.out; omega
                    case rel => exact ⟨(x5_1 ++ t180), (wrap64 (x13_1 + 1)), (by first | rfl | (simp; done) | (simp [*]; done)), (by first | rfl | (simp; done) | (simp [*]; done)), H', ⟨by have := HK1.out; omega⟩, ⟨by repeat (first | (with_reducible first | exact HB.out | apply below_alloc | apply pw_below_drewN | apply below_drew1 | refine below_set ?_ GE176.out) | exact HB.out)⟩⟩
                  · rw [if_neg c66] at H
                    exact absurd H (by simp)
                · replace c64 := Bool.eq_false_iff.mpr c64
                  subst c64
                  have H1 : (if x5_1.size + ((rd_T33 l0 x13_1).f2).size ≤ 9223372036854775807 then (deadfallref03_written.l0 k1 a1 (x5_1 ++ ((rd_T33 l0 x13_1).f2)) l0 (l0.length : Int) (wrap64 (x13_1 + 1))) else (none)) = some r := by rw [if_neg (show ¬ (false = true) by decide)] at H; exact H
                  clear H
                  have H := H1
                  clear H1
                  by_cases c70 : x5_1.size + ((rd_T33 l0 x13_1).f2).size ≤ 9223372036854775807
                  · rw [if_pos c70] at H
                    have c70b0 := eq_true c70
                    have c70b1 : decide (x5_1.size + ((rd_T33 l0 x13_1).f2).size ≤ 9223372036854775807) = true := decide_eq_true c70
                    try have c70b2 : (9223372036854775807 < x5_1.size + ((rd_T33 l0 x13_1).f2).size) = False := eq_false (Nat.not_lt.2 c70)
                    try (have c70b3 := c70b2; simp only [ByteArray.size_append, show (⟨#[36, 123]⟩ : ByteArray).size = 2 from rfl, show (⟨#[125]⟩ : ByteArray).size = 1 from rfl, show (⟨#[34]⟩ : ByteArray).size = 1 from rfl, show (⟨#[92]⟩ : ByteArray).size = 1 from rfl] at c70b3)
                    have H' := Aside0.mk H
                    clear H
                    have p175 : 0 ≤ (x13_1 : Int) := of_decide_eq_true (by first | (with_reducible assumption) | assumption)
                    have q175 : x13_1 < (l0.length : Int) := of_decide_eq_true (by first | (with_reducible assumption) | assumption)
                    obtain ⟨ad175, A175_4, c175_4, e175, hx175_0, hx175_1, hx175_2, hx175_3, hx175_4, hl175_4, hi175_4⟩ := at_T33 HR0.out x13_1 p175 q175
                    (try rw [← Nbq63.out] at hx175_1)
                    cases e175
                    replace hx175_0 := (HB.out.cell (World.block_lt_of_cell? w _ hx175_0)).trans hx175_0
                    replace hx175_1 := (HB.out.cell (World.block_lt_of_cell? w _ hx175_1)).trans hx175_1
                    replace hx175_2 := (HB.out.cell (World.block_lt_of_cell? w _ hx175_2)).trans hx175_2
                    replace hx175_3 := (HB.out.cell (World.block_lt_of_cell? w _ hx175_3)).trans hx175_3
                    replace hx175_4 := (HB.out.cell (World.block_lt_of_cell? w _ hx175_4)).trans hx175_4
                    have HR175_4 := Aside0.mk hi175_4
                    have HC175_4 := Aside0.mk hl175_4
                    clear hi175_4 hl175_4
                    replace p175 := eq_true p175
                    replace q175 := eq_true q175
                    go_wp2_with (first | ((with_reducible refine gate_dst (N := 7) rfl ?_); refine box_event ?hg (N := 7) ?hd (cs := #[.int .i64 0, .bool false, .string (⟨#[]⟩ : ByteArray), .string (⟨#[]⟩ : ByteArray), .slice none 0 0]) (t := 33) ?hr ?_; (case hd => rfl); (case hg => rfl); (case hr => first | (go_simp; done) | (go_simp; rfl)); intro gb176 hg w71 hbox hb; have n0_ := Aside0.mk (below_step (by repeat (first | (with_reducible first | exact HB.out | apply below_alloc | apply pw_below_drewN | apply below_drew1) | exact HB.out)) hb); have n1_ := Aside0.mk (hbox); have n2_ := Aside0.mk ((by rw [hg]; exact (below_size (by repeat (first | (with_reducible first | exact HB.out | apply below_alloc | apply pw_below_drewN | apply below_drew1) | exact HB.out))) : w.heap.size ≤ gb176)); have n3_ := Aside0.mk ((by rw [hg]; exact (below_size (by repeat (first | (with_reducible first | exact HB.out | apply below_alloc | apply pw_below_drewN | apply below_drew1) | exact HB.out))) : w.heap.size ≤ gb176)); clear HB; have HB := n0_; have BK176 := n1_; have GW176 := n2_; have GE176 := n3_; clear n0_ n1_ n2_ n3_; clear hb hbox hg; have hcz72_0 : w71.cell? ⟨gb176, 0, none⟩ = some (.int .i64 0) := (blk_cell BK176.out 0).trans rfl; have hcz72_1 : w71.cell? ⟨gb176, 1, none⟩ = some (.bool false) := (blk_cell BK176.out 1).trans rfl; have hcz72_2 : w71.cell? ⟨gb176, 2, none⟩ = some (.string (⟨#[]⟩ : ByteArray)) := (blk_cell BK176.out 2).trans rfl; have hcz72_3 : w71.cell? ⟨gb176, 3, none⟩ = some (.string (⟨#[]⟩ : ByteArray)) := (blk_cell BK176.out 3).trans rfl; have hcz72_4 : w71.cell? ⟨gb176, 4, none⟩ = some (.slice none 0 0) := (blk_cell BK176.out 4).trans rfl; have hfz72_0 := blk_frozen BK176.out 0; have hfz72_1 := blk_frozen BK176.out 1; have hfz72_2 := blk_frozen BK176.out 2; have hfz72_3 := blk_frozen BK176.out 3; have hfz72_4 := blk_frozen BK176.out 4))
                    go_roundg k1
                    case measure => have := HK1.out; omega
                    case rel => exact ⟨(x5_1 ++ ((rd_T33 l0 x13_1).f2)), (wrap64 (x13_1 + 1)), (by first | rfl | (simp; done) | (simp [*]; done)), (by first | rfl | (simp; done) | (simp [*]; done)), H', ⟨by have := HK1.out; omega⟩, ⟨by repeat (first | (with_reducible first | exact HB.out | apply below_alloc | apply pw_below_drewN | apply below_drew1 | refine below_set ?_ GE176.out) | exact HB.out)⟩⟩
                  · rw [if_neg c70] at H
                    exact absurd H (by simp)
          · rw [if_neg c5] at H
            exact absurd H (by simp)
        · rw [if_neg c4] at H
          exact absurd H (by simp)
      · rw [if_neg c3] at H
        have c3b0 : decide (x13_1 < (l0.length : Int)) = false := decide_eq_false c3
        clear c3
        obtain rfl := Option.some.inj H
        go_wp2
        go_ret
        exact ⟨by first | rfl | (simp [errW_none, errW_some] <;> rfl) | (simp [*, errW_none, errW_some] <;> rfl), by repeat (first | (with_reducible first | exact HB.out | apply below_alloc | apply pw_below_drewN | apply below_drew1) | exact HB.out)⟩
end Go.Proofs.YtkecpfjmdokieaaDoor.P
namespace Go.Proofs.YtkecpfjmdokieaaDoor.P
open Go.RowKit Go.Proofs.YtkecpfjmdokieaaDoorW.PrintWords Go.Proofs.YtkecpfjmdokieaaDoorW.PrintLast Go.Proofs.YtkecpfjmdokieaaDoorW.PrintMore
attribute [local go_sem] max2_int min2_int max_two min_two max_three min_three max_four min_four   -- for this text's walks alone
set_option linter.unusedVariables false
set_option linter.unusedSimpArgs false
def deadfallref03_Text.f (k : Nat) (l0 : List (S33)) : Option (ByteArray) := (deadfallref03_Value.f k l0).bind fun t181 => (if t181 = true then ((deadfallref03_written.f k l0 0).bind fun t182 => (some t182)) else (some (⟨#[]⟩ : ByteArray)))
set_option maxHeartbeats 8000000 in
set_option maxRecDepth 100000 in
theorem deadfallref03_Text.calls (k : Nat) (A0 : Option Addr) (c0 : Nat) (l0 : List (S33)) (r : ByteArray) (w : World) (hr0 : Kd.C k33 w A0 l0.length l0) (hc0 : l0.length ≤ c0) (h : deadfallref03_Text.f k l0 = some r) :
    Calls Tryd.prog 13 #[.slice A0 l0.length c0] w fun e w' => e = .returned (.string r) ∧ Below w.heap.size w w' := by
  have HR0 := Aside0.mk hr0
  have HC0 := Aside0.mk hc0
  clear hr0 hc0
  have HB := Aside0.mk (Below.refl w.heap.size w)
  have H : ((deadfallref03_Value.f k l0).bind fun t181 => (if t181 = true then ((deadfallref03_written.f k l0 0).bind fun t182 => (some t182)) else (some (⟨#[]⟩ : ByteArray)))) = some r := h
  clear h
  replace H := Option.bind_eq_some_iff.mp H
  obtain ⟨t181, A20, H⟩ := H
  replace H : (if t181 = true then ((deadfallref03_written.f k l0 0).bind fun t182 => (some t182)) else (some (⟨#[]⟩ : ByteArray))) = some r := H
  have A2 := Aside0.mk A20
  clear A20
  by_cases c3 : t181 = true
  · subst c3
    have H1 : ((deadfallref03_written.f k l0 0).bind fun t182 => (some t182)) = some r := by rw [if_pos rfl] at H; exact H
    clear H
    have H := H1
    clear H1
    replace H := Option.bind_eq_some_iff.mp H
    obtain ⟨t182, A40, H⟩ := H
    replace H : (some t182) = some r := H
    have A4 := Aside0.mk A40
    clear A40
    obtain rfl := Option.some.inj H
    go_enter Tryd.func13, Tryd.ntmps13
    go_wp2_with (first | ((with_reducible refine gate_callee (f := 11) rfl ?_); refine goesL_ (some 4) rfl rfl Tryd.func11 (by kernel_rfl) rfl #[.slice A0 l0.length c0] rfl (by (try simp only [List.map_toArray, List.map_cons, List.map_nil]); first | done | rfl | (simp only [List.length_drop, List.length_take]; rfl)) ?_; (with_reducible refine (deadfallref03_Value.calls k _ _ l0 true _ ?side1 ?side2 A2.out).mono ?_); (case side1 => repeat (first | exact HR0.out | (with_reducible refine Kd.C_alloc ?_ _) | (with_reducible refine Kd.C_drewN ?_ _) | (with_reducible refine Kd.C_drew ?_))); (case side2 => exact HC0.out); rintro e w5 ⟨rfl, hb⟩; refine ⟨_, rfl, ?_⟩; have n0_ := Aside0.mk (below_step (by repeat (first | (with_reducible first | exact HB.out | apply below_alloc | apply pw_below_drewN | apply below_drew1) | exact HB.out)) hb); clear HB; have HB := n0_; clear n0_; (try clear hb); (try clear hb2); (try clear hk); (try clear hi)) | ((with_reducible refine gate_callee (f := 27) rfl ?_); refine goesL_ (some 7) rfl rfl Tryd.func27 (by kernel_rfl) rfl #[.slice A0 l0.length c0, .int .i64 0] rfl (by (try simp only [List.map_toArray, List.map_cons, List.map_nil]); first | done | rfl | (simp only [List.length_drop, List.length_take]; rfl)) ?_; (with_reducible refine (deadfallref03_written.calls k _ _ l0 0 t182 _ ?side1 ?side2 A4.out).mono ?_); (case side1 => repeat (first | exact (Kd.C_below HR0.out HB.out) | (with_reducible refine Kd.C_alloc ?_ _) | (with_reducible refine Kd.C_drewN ?_ _) | (with_reducible refine Kd.C_drew ?_))); (case side2 => exact HC0.out); rintro e w6 ⟨rfl, hb⟩; refine ⟨_, rfl, ?_⟩; have n0_ := Aside0.mk (below_step (by repeat (first | (with_reducible first | exact HB.out | apply below_alloc | apply pw_below_drewN | apply below_drew1) | exact HB.out)) hb); clear HB; have HB := n0_; clear n0_; (try clear hb); (try clear hb2); (try clear hk); (try clear hi)))
    go_ret
    exact ⟨by first | rfl | (simp [errW_none, errW_some] <;> rfl) | (simp [*, errW_none, errW_some] <;> rfl), by repeat (first | (with_reducible first | exact HB.out | apply below_alloc | apply pw_below_drewN | apply below_drew1) | exact HB.out)⟩
  · replace c3 := Bool.eq_false_iff.mpr c3
    subst c3
    have H1 : (some (⟨#[]⟩ : ByteArray)) = some r := by rw [if_neg (show ¬ (false = true) by decide)] at H; exact H
    clear H
    have H := H1
    clear H1
    obtain rfl := Option.some.inj H
    go_enter Tryd.func13, Tryd.ntmps13
    go_wp2_with (first | ((with_reducible refine gate_callee (f := 11) rfl ?_); refine goesL_ (some 4) rfl rfl Tryd.func11 (by kernel_rfl) rfl #[.slice A0 l0.length c0] rfl (by (try simp only [List.map_toArray, List.map_cons, List.map_nil]); first | done | rfl | (simp only [List.length_drop, List.length_take]; rfl)) ?_; (with_reducible refine (deadfallref03_Value.calls k _ _ l0 false _ ?side1 ?side2 A2.out).mono ?_); (case side1 => repeat (first | exact HR0.out | (with_reducible refine Kd.C_alloc ?_ _) | (with_reducible refine Kd.C_drewN ?_ _) | (with_reducible refine Kd.C_drew ?_))); (case side2 => exact HC0.out); rintro e w7 ⟨rfl, hb⟩; refine ⟨_, rfl, ?_⟩; have n0_ := Aside0.mk (below_step (by repeat (first | (with_reducible first | exact HB.out | apply below_alloc | apply pw_below_drewN | apply below_drew1) | exact HB.out)) hb); clear HB; have HB := n0_; clear n0_; (try clear hb); (try clear hb2); (try clear hk); (try clear hi)))
    go_ret
    exact ⟨by first | rfl | (simp [errW_none, errW_some] <;> rfl) | (simp [*, errW_none, errW_some] <;> rfl), by repeat (first | (with_reducible first | exact HB.out | apply below_alloc | apply pw_below_drewN | apply below_drew1) | exact HB.out)⟩
end Go.Proofs.YtkecpfjmdokieaaDoor.P
namespace Go.Proofs.YtkecpfjmdokieaaDoor.Word
open Go.RowKit Go.Proofs.YtkecpfjmdokieaaDoorW.PrintWords Go.Proofs.YtkecpfjmdokieaaDoorW.PrintLast Go.Proofs.YtkecpfjmdokieaaDoor.Base Go.Proofs.YtkecpfjmdokieaaDoor.P Go.Proofs.YtkecpfjmdokieaaDoor.NodeOps Go.Proofs.YtkecpfjmdokieaaDoor.Class
set_option linter.unusedVariables false
set_option linter.unusedSimpArgs false
def bs (l : List UInt8) : ByteArray := ⟨l.toArray⟩
theorem by2_bs (l : List UInt8) : by2 (bs l) = l := by simp [by2, bs]
theorem by2_app (a b : ByteArray) : by2 (a ++ b) = by2 a ++ by2 b := by unfold by2; rw [ByteArray.data_append]; simp
theorem by2_size (s : ByteArray) : s.size = (by2 s).length := (data_length s).symm
theorem bs_size (l : List UInt8) : (bs l).size = l.length := by rw [by2_size, by2_bs]
theorem size_app (a b : ByteArray) : (a ++ b).size = a.size + b.size := ByteArray.size_append
theorem wrL_app (t : Bool) (a b : List Pt) : wrL t (a ++ b) = wrL t a ++ wrL t b := by
  rw [wrL_eq, wrL_eq t a, wrL_eq t b, List.map_append, List.flatten_append]
theorem wrL_take (t : Bool) (l : List Pt) (i : Nat) : (wrL t (l.take i)).length ≤ (wrL t l).length := by
  have h := wrL_app t (l.take i) (l.drop i)
  rw [List.take_append_drop] at h
  rw [h, List.length_append]
  omega
theorem rt_in {a : Int} {l : List Pt} (h : Rt a l) {x : Pt} : x ∈ l → x.f0 = 1 ∨ (x.f0 = 2 ∧ Rt (nextI x.f1) x.f4) := by
  induction h with
  | nil a => exact fun h => by cases h
  | lit a y l h0 hl hadj ht ih =>
    intro h
    rcases List.mem_cons.1 h with rfl | h
    · exact .inl h0
    · exact ih h
  | par a y l h0 hp hq ho hs ht ihs ih =>
    intro h
    rcases List.mem_cons.1 h with rfl | h
    · exact .inr ⟨h0, hs⟩
    · exact ih h
theorem rquote_ev (s : ByteArray) (hs : s.size ≤ 1000000) : Ev (fun k => deadfallref03_Quote.f k s) (quoteS s) := by
  have hK := rquote_loop s hs s.size 0 (by omega) (by omega) [39] (by simp)
  rw [List.drop_zero] at hK
  have e : strOfNums ([39] ++ qn (bytesOf s) ++ [39]) = quoteS s := by
    unfold strOfNums quoteS
    congr 2
    rw [List.map_append, List.map_append, show bytesOf s = s.data.toList.map fun b => (b.toNat : Int) from rfl, qn_str]
    rfl
  rw [e] at hK
  exact via2 hK fun k => rfl
abbrev SPE : ByteArray := ⟨#[34, 36, 92, 96, 125]⟩
theorem spec_has : ∀ b : UInt8, (bytesOf SPE).contains (b.toNat : Int) = spec b := by
  refine all_b ?_
  decide +kernel
theorem cut1 (s : ByteArray) (j : Nat) (h : j < s.size) : ∃ b, (by2 s).take (j + 1) = (by2 s).take j ++ [b] ∧ bt s j = (b.toNat : Int) ∧ s.extract j (j + 1) = bs [b] := by
  have hj : j < (by2 s).length := by rw [← by2_size]; exact h
  refine ⟨(by2 s)[j], List.take_succ_eq_append_getElem hj, ?_, ?_⟩
  · rw [← bt_nat s j h]
    simp [by2, ByteArray.getElem_eq_getElem_data]
  · refine by2_inj ?_
    rw [by2_bs]
    unfold by2
    rw [ByteArray.data_extract, Array.toList_extract]
    show (List.take (j + 1 - j) (List.drop j (by2 s))) = _
    rw [List.drop_eq_getElem_cons hj]
    simp
section
variable (l : List Pt) (at_ : Int) (i : Nat) (r : ByteArray)
theorem wl1_ev (x : Pt) (hz : x.f2.size ≤ 1000000) (A : List UInt8) (hA : A.length ≤ 10000000) (hi : i ≤ 1000000) (hc : Ev (fun k => deadfallref03_written.l0 k at_ (bs (A ++ esc (by2 x.f2))) l (l.length : Int) ((i + 1 : Nat) : Int)) r) : ∀ (d j : Nat), x.f2.size - j = d → j ≤ x.f2.size → Ev (fun k => deadfallref03_written.l1 k at_ (bs (A ++ esc ((by2 x.f2).take j))) (j : Int) l (l.length : Int) (i : Int) x.f0 x.f1 x.f2 x.f3 x.f4) r := by
  have hw : wrap64 ((i : Int) + 1) = ((i + 1 : Nat) : Int) := by unfold wrap64; omega
  intro d
  induction d with
  | zero =>
    intro j hd hj
    rw [List.take_of_length_le (by rw [← by2_size]; omega)]
    refine step hc fun k => ?_
    rw [deadfallref03_written.l1, if_neg (by omega), hw]
  | succ d ih =>
    intro j hd hj
    have hjl : j < x.f2.size := by omega
    have hwj : wrap64 ((j : Int) + 1) = ((j + 1 : Nat) : Int) := by unfold wrap64; omega
    obtain ⟨b, e1, e2, e3⟩ := cut1 x.f2 j hjl
    have hA2 := ramong_ev (bt x.f2 j) SPE (by decide)
    rw [e2, spec_has b] at hA2
    have ih := ih (j + 1) (by omega) (by omega)
    have hln : (esc ((by2 x.f2).take j)).length ≤ 2 * x.f2.size := by
      have h1 := esc_len ((by2 x.f2).take j)
      have h2 : ((by2 x.f2).take j).length ≤ x.f2.size := by rw [List.length_take, ← by2_size]; omega
      omega
    rw [e1, esc_snoc] at ih
    have e4 : x.f2.extract ((j : Int)).toNat (((j + 1 : Nat) : Int)).toNat = bs [b] := by rw [Int.toNat_natCast, Int.toNat_natCast]; exact e3
    have z1 : (bs [b]).size = 1 := rfl
    have z2 : (⟨#[92]⟩ : ByteArray).size = 1 := rfl
    cases hs : spec b with
    | true =>
      rw [hs] at hA2 ih
      refine via hA2 ih fun k hk => ?_
      show deadfallref03_written.l1 (k + 1) at_ (bs (A ++ esc ((by2 x.f2).take j))) (j : Int) l (l.length : Int) (i : Int) x.f0 x.f1 x.f2 x.f3 x.f4 = _
      rw [deadfallref03_written.l1, if_pos (by omega), if_pos (by omega), e2, hk, Option.bind_some, if_pos rfl, hwj, e4]
      rw [if_pos (by rw [bs_size, List.length_append]; omega), if_pos (by omega), if_pos (by omega), if_pos (by rw [size_app, z1, z2, bs_size, List.length_append]; omega)]
      congr 1
      refine by2_inj ?_
      rw [by2_app, by2_app, by2_bs, by2_bs, by2_bs]
      simp [by2]
    | false =>
      rw [hs] at hA2 ih
      refine via hA2 ih fun k hk => ?_
      show deadfallref03_written.l1 (k + 1) at_ (bs (A ++ esc ((by2 x.f2).take j))) (j : Int) l (l.length : Int) (i : Int) x.f0 x.f1 x.f2 x.f3 x.f4 = _
      rw [deadfallref03_written.l1, if_pos (by omega), if_pos (by omega), e2, hk, Option.bind_some, if_neg (by decide), hwj, e4]
      rw [if_pos (by omega), if_pos (by omega), if_pos (by rw [bs_size, z1, List.length_append]; omega)]
      congr 1
      refine by2_inj ?_
      rw [by2_app, by2_bs, by2_bs, by2_bs]
      simp
theorem wel_ev (x : Pt) (hx : rd_T33 l (i : Int) = x) (hi : i < l.length) (hln : l.length ≤ 1000000) (ha : Pl at_) (hk0 : x.f0 = 1 ∨ x.f0 = 2) (hz : x.f2.size ≤ 1000000) (hz3 : x.f3.size ≤ 1000000) (A sub : List UInt8) (hA : A.length ≤ 10000000) (hsl : sub.length ≤ 10000000)
    (hs : x.f0 = 2 → Ev (fun k => deadfallref03_written.f k x.f4 (nextI x.f1)) (bs sub)) (hc : Ev (fun k => deadfallref03_written.l0 k at_ (bs (A ++ oneL (tt at_) x sub)) l (l.length : Int) ((i + 1 : Nat) : Int)) r) :
    Ev (fun k => deadfallref03_written.l0 k at_ (bs A) l (l.length : Int) (i : Int)) r := by
  have hw : wrap64 ((i : Int) + 1) = ((i + 1 : Nat) : Int) := by unfold wrap64; omega
  have z2 : (⟨#[36, 123]⟩ : ByteArray).size = 2 := rfl
  have z1 : (⟨#[125]⟩ : ByteArray).size = 1 := rfl
  have z3 : (⟨#[34]⟩ : ByteArray).size = 1 := rfl
  rcases hk0 with h0 | h0
  · have h2 : ¬ x.f0 = 2 := by omega
    by_cases hat : at_ = 2
    · have ht : tt at_ = true := decide_eq_true hat
      rw [one_t h0 ht] at hc
      have := wl1_ev l at_ i r x hz A hA (by omega) hc x.f2.size 0 (by omega) (by omega)
      have e0 : A ++ esc ((by2 x.f2).take 0) = A := by rw [List.take_zero]; exact List.append_nil A
      rw [e0] at this
      refine step this fun k => ?_
      rw [deadfallref03_written.l0, if_pos (by omega), if_pos (by omega), if_pos (by omega), hx, if_neg h2, if_pos hat]
      rfl
    · have ht : tt at_ = false := decide_eq_false hat
      cases hq : x.f1 with
      | true =>
        rw [one_q h0 ht hq] at hc
        have hqz := qz_len (by2 x.f2)
        rw [← by2_size] at hqz
        have e0 : quoteS x.f2 = bs (39 :: (qz (by2 x.f2) ++ [39])) := rfl
        have h1 := rquote_ev x.f2 hz
        rw [e0] at h1
        refine via h1 hc fun k hk => ?_
        show deadfallref03_written.l0 (k + 1) at_ (bs A) l (l.length : Int) (i : Int) = _
        rw [deadfallref03_written.l0, if_pos (by omega), if_pos (by omega), if_pos (by omega), hx, if_neg h2, if_neg hat, hq, if_pos rfl, hk, Option.bind_some, if_pos (by rw [bs_size, bs_size, List.length_cons, List.length_append]; simp; omega), hw]
        congr 1
      | false =>
        rw [one_b h0 ht hq] at hc
        refine step hc fun k => ?_
        rw [deadfallref03_written.l0, if_pos (by omega), if_pos (by omega), if_pos (by omega), hx, if_neg h2, if_neg hat, hq, if_neg (by decide), if_pos (by rw [bs_size]; omega), hw]
        congr 1
  · have hs := hs h0
    rw [one_p h0] at hc
    unfold mark at hc
    cases hq : x.f1 with
    | true =>
      have hs : Ev (fun k => deadfallref03_written.f k x.f4 2) (bs sub) := by rw [hq] at hs; exact hs
      by_cases hat : at_ = 2
      · rw [hq, if_pos rfl, show tt at_ = true from decide_eq_true hat, if_pos rfl] at hc
        refine via hs hc fun k hk => ?_
        show deadfallref03_written.l0 (k + 1) at_ (bs A) l (l.length : Int) (i : Int) = _
        rw [deadfallref03_written.l0, if_pos (by omega), if_pos (by omega), if_pos (by omega), hx, if_pos h0, hq, if_pos rfl, if_pos (by omega), if_pos (by rw [size_app, z2]; omega), hk, Option.bind_some,
          if_pos (by simp only [size_app, z2, bs_size]; omega), if_pos (by simp only [size_app, z2, bs_size]; omega), if_pos hat, if_pos (by simp only [size_app, z1, z2, bs_size]; omega), hw]
        congr 1
        refine by2_inj ?_
        simp only [by2_app, by2_bs]
        simp [by2]
      · rw [hq, if_pos rfl, show tt at_ = false from decide_eq_false hat, if_neg (by decide)] at hc
        refine via hs hc fun k hk => ?_
        show deadfallref03_written.l0 (k + 1) at_ (bs A) l (l.length : Int) (i : Int) = _
        rw [deadfallref03_written.l0, if_pos (by omega), if_pos (by omega), if_pos (by omega), hx, if_pos h0, hq, if_pos rfl, if_pos (by omega), if_pos (by rw [size_app, z2]; omega), hk, Option.bind_some,
          if_pos (by simp only [size_app, z2, bs_size]; omega), if_pos (by simp only [size_app, z2, bs_size]; omega), if_neg hat, if_pos (by simp only [size_app, z1, z2, bs_size]; omega), if_pos (by simp only [size_app, z1, z2, z3, bs_size]; omega), if_pos (by simp only [size_app, z1, z2, z3, bs_size]; omega), hw]
        congr 1
        refine by2_inj ?_
        simp only [by2_app, by2_bs]
        simp [by2]
    | false =>
      have hs : Ev (fun k => deadfallref03_written.f k x.f4 1) (bs sub) := by rw [hq] at hs; exact hs
      rw [hq, if_neg (by decide)] at hc
      refine via hs hc fun k hk => ?_
      show deadfallref03_written.l0 (k + 1) at_ (bs A) l (l.length : Int) (i : Int) = _
      rw [deadfallref03_written.l0, if_pos (by omega), if_pos (by omega), if_pos (by omega), hx, if_pos h0, hq, if_neg (by decide), if_pos (by omega), if_pos (by rw [size_app, z2]; omega), hk, Option.bind_some,
        if_pos (by simp only [size_app, z2, bs_size]; omega), if_pos (by simp only [size_app, z2, bs_size]; omega), if_pos (by simp only [size_app, z1, z2, bs_size]; omega), hw]
      congr 1
      refine by2_inj ?_
      simp only [by2_app, by2_bs]
      simp [by2]
end
theorem written_ev : ∀ (N : Nat) (l : List Pt), SizeOf.sizeOf l < N → ∀ at_ : Int, Pl at_ → Rt at_ l → wt l ≤ 1000000 → Ev (fun k => deadfallref03_written.f k l at_) (bs (wrL (tt at_) l)) := by
  intro N
  induction N with
  | zero => exact fun l h => absurd h (Nat.not_lt_zero _)
  | succ N ihN =>
    intro l hN at_ ha hr hw
    have hln := wt_len l
    have hwl := wrL_le (tt at_) l
    have all : ∀ (d i : Nat), l.length - i = d → i ≤ l.length → Ev (fun k => deadfallref03_written.l0 k at_ (bs (wrL (tt at_) (l.take i))) l (l.length : Int) (i : Int)) (bs (wrL (tt at_) l)) := by
      intro d
      induction d with
      | zero =>
        intro i hd hi
        rw [List.take_of_length_le (by omega)]
        refine now fun k => ?_
        rw [deadfallref03_written.l0, if_neg (by omega)]
      | succ d ih =>
        intro i hd hi
        have hil : i < l.length := by omega
        have ih := ih (i + 1) (by omega) (by omega)
        rw [wrL_snoc (tt at_) l i hil] at ih
        have hm : l[i] ∈ l := List.getElem_mem hil
        have hwi := wt_in hm
        have hwt := wrL_take (tt at_) l i
        have hkd := rt_in hr hm
        have hsub := wrL_le l[i].f1 l[i].f4
        have hsz := size_in hm
        refine wel_ev l at_ i _ l[i] (rd_in l i hil) hil (by omega) ha (by rcases hkd with h | h; exact .inl h; exact .inr h.1) (by omega) (by omega) _ _ (by omega) (by omega) (fun h2 => ?_) ih
        rcases hkd with h | h
        · omega
        · obtain ⟨p1, p2, _⟩ := next_pl l[i].f1
          have := ihN l[i].f4 (by omega) (nextI l[i].f1) p1 h.2 (by omega)
          rwa [p2] at this
    have h0 := all l.length 0 (by omega) (Nat.zero_le _)
    rw [List.take_zero, wrL_nil] at h0
    exact step h0 fun k => by rw [deadfallref03_written.f]; rfl
theorem rtext_ev (l : List Pt) (hw : wt l ≤ 1000000) : Ev (fun k => deadfallref03_Text.f k l) (if partsF 200 0 l = true then bs (wrL false l) else ⟨#[]⟩) := by
  have hv : Ev (fun k => deadfallref03_Value.f k l) (partsF 200 0 l) := by
    refine via2 (rparts_ev 200 (by omega) l 0 (.inl rfl) hw) fun k => ?_
    show deadfallref03_Value.f k l = deadfallref03_Parts.f k l 0 1
    unfold deadfallref03_Value.f
    cases deadfallref03_Parts.f k l 0 1 <;> rfl
  obtain ⟨k0, h0⟩ := hv
  cases hp : partsF 200 0 l with
  | false =>
    rw [hp] at h0
    exact ⟨k0, fun k hk => by
      show deadfallref03_Text.f k l = _
      unfold deadfallref03_Text.f
      rw [show deadfallref03_Value.f k l = some false from h0 k hk]
      rfl⟩
  | true =>
    rw [hp] at h0
    obtain ⟨k1, h1⟩ := written_ev _ l (Nat.lt_succ_self _) 0 (.inl rfl) (rt_of 200 0 l hp) hw
    exact ⟨max k0 k1, fun k hk => by
      show deadfallref03_Text.f k l = _
      unfold deadfallref03_Text.f
      rw [show deadfallref03_Value.f k l = some true from h0 k (by omega), Option.bind_some, if_pos rfl, show deadfallref03_written.f k l 0 = some (bs (wrL (tt 0) l)) from h1 k (by omega)]
      rfl⟩
end Go.Proofs.YtkecpfjmdokieaaDoor.Word
namespace Go.Proofs.YtkecpfjmdokieaaDoor.Word
open Go.RowKit Go.Proofs.YtkecpfjmdokieaaDoorW.PrintWords Go.Proofs.YtkecpfjmdokieaaDoorW.PrintLast Go.Proofs.YtkecpfjmdokieaaDoor.Base Go.Proofs.YtkecpfjmdokieaaDoor.P Go.Proofs.YtkecpfjmdokieaaDoor.NodeOps Go.Proofs.YtkecpfjmdokieaaDoor.Class
set_option linter.unusedVariables false
set_option linter.unusedSimpArgs false
section
variable {ops : Array Oper} {rest : List Oper} {o : Oper} {a : Act} {Q : Exit → Act → World → Prop}
end
abbrev hd0 (l : List Pt) : Pt := rd_T33 l 0
section
variable {A : Option Addr} {n c : Nat} {l : List Pt} {w : World}
end
end Go.Proofs.YtkecpfjmdokieaaDoor.Word
namespace Go.Proofs.YtkecpfjmdokieaaDoor.Word
open Go.RowKit Go.Proofs.YtkecpfjmdokieaaDoorW.PrintWords Go.Proofs.YtkecpfjmdokieaaDoorW.PrintLast Go.Proofs.YtkecpfjmdokieaaDoor.Base Go.Proofs.YtkecpfjmdokieaaDoor.Seq Go.Proofs.YtkecpfjmdokieaaDoor.P Go.Proofs.YtkecpfjmdokieaaDoor.NodeOps
set_option linter.unusedVariables false
set_option linter.unusedSimpArgs false
set_option maxHeartbeats 2000000 in
set_option maxRecDepth 100000 in
theorem lit_q (k : Int) (t : ByteArray) (A : Option Addr) (c : Nat) (w : World) :
    Calls Tryd.prog 35 #[.agg #[.int .i64 k, .bool true, .string t, .string ⟨#[]⟩, .slice A 0 c], .int .i64 0] w fun e w' => e = .returned (.bool true) ∧ Below w.heap.size w w' := by
  have HB := Aside0.mk (below_alloc (Below.refl w.heap.size w) (.cells #[.int .i64 k, .bool true, .string t, .string ⟨#[]⟩, .slice A 0 c] 33))
  go_enter Tryd.func35, Tryd.ntmps35
  go_wp2
  go_ret
  exact ⟨rfl, HB.out⟩
abbrev ptQ (t : ByteArray) : Pt := ⟨1, true, t, ⟨#[]⟩, []⟩
set_option maxHeartbeats 4000000 in
set_option maxRecDepth 100000 in
theorem parts_q (t : ByteArray) (A : Option Addr) (c : Nat) (w : World) (hr : Kd.C k33 w A 1 [ptQ t]) :
    Calls Tryd.prog 23 #[.slice A 1 c, .int .i64 0, .int .i64 1] w fun e w' => e = .returned (.bool true) ∧ Below w.heap.size w w' := by
  obtain ⟨ad, A4, c4, rfl, d0, d1, d2, d3, d4, _, _⟩ := at_T33 hr 0 (by omega) (by omega)
  simp only [Int.toNat_zero, Nat.zero_mul, Addr.add_zero'] at d0 d1 d2 d3 d4
  rw [show rd_T33 [ptQ t] 0 = ptQ t from rfl] at d0 d1 d2 d3 d4
  dsimp only [List.length_nil] at d0 d1 d2 d3 d4
  have HB := Aside0.mk (below_alloc (Below.refl w.heap.size w) (.cells #[.int .i64 1, .bool true, .string t, .string ⟨#[]⟩, .slice A4 0 c4] 33))
  have HG := Aside0.mk (blk_new w (.cells #[.int .i64 1, .bool true, .string t, .string ⟨#[]⟩, .slice A4 0 c4] 33))
  clear hr
  go_enter Tryd.func23, Tryd.ntmps23
  go_upto_region 2 with (fail)
  go_loopw [11] (fun v11 w' => (v11 = .int .i64 0 ∧ w' = w) ∨ (v11 = .int .i64 1 ∧ Aside0 (Below w.heap.size w w'))) (fun v11 _ => 1 - (intOf v11).toNat)
  case atStart => exact .inl ⟨rfl, rfl⟩
  case round =>
    rcases hrel with ⟨rfl, rfl⟩ | ⟨rfl, HB2⟩
    · go_upto_region 7 with (fail)
      generalize wr.alloc (.cells #[.int .i64 1, .bool true, .string t, .string ⟨#[]⟩, .slice A4 0 c4] 33) = wb at *
      generalize hg8 : wr.heap.size = g8 at HG ⊢
      have e0 : wb.cell? ⟨g8, 0, none⟩ = some (.int .i64 1) := (blk_cell HG.out 0).trans rfl
      have e1 : wb.cell? ⟨g8, 1, none⟩ = some (.bool true) := (blk_cell HG.out 1).trans rfl
      have e2 : wb.cell? ⟨g8, 2, none⟩ = some (.string t) := (blk_cell HG.out 2).trans rfl
      have e3 : wb.cell? ⟨g8, 3, none⟩ = some (.string ⟨#[]⟩) := (blk_cell HG.out 3).trans rfl
      have e4 : wb.cell? ⟨g8, 4, none⟩ = some (.slice A4 0 c4) := (blk_cell HG.out 4).trans rfl
      clear hg8
      refine region_seq (fun w_ => Below wb.heap.size wb w_) []
        [(1, some 21, .pure), (0, some 20, .held), (2, some 22, .one), (3, some 23, .pure), (4, some 24, .pure), (5, some 25, .pure), (6, some 26, .pure), (7, some 27, .pure), (8, some 28, .pure), (9, some 29, .pure), (10, some 30, .pure), (11, some 31, .pure), (12, some 32, .pure), (13, some 33, .held), (14, some 34, .pure), (15, some 35, .pure), (16, some 36, .pure), (17, some 37, .pure), (18, some 38, .pure), (19, some 39, .pure), (20, some 40, .pure), (21, some 41, .pure), (23, some 43, .pure), (22, some 42, .held), (24, some 44, .held), (25, some 45, .pure), (26, some 46, .pure), (27, some 47, .pure)] (by kernel_rfl) (by kernel_rfl) ?_
      have hS := below_drew (Below.refl wb.heap.size wb)
      repeat (first
        | (refine s_pure (v := ?_) (a' := ?_) rfl (fun _ _ _ h => h) rfl ?hy ?ha ?_; (case hy => (intro w_; go_simp; with_reducible rfl)); (case ha => (simp only [Act.put, List.setIfInBounds_toArray, List.set_cons_zero, List.set_cons_succ, i64_w, i32_w]; rfl)))
        | (refine s_held (v := ?_) (a' := ?_) hS rfl (fun _ _ _ h => h) rfl ?hy ?ha ?_; (case hy => (intro w_ hb_; have s0 := pw_cell_below hb_ e0; have s1 := pw_cell_below hb_ e1; have s2 := pw_cell_below hb_ e2; have s3 := pw_cell_below hb_ e3; have s4 := pw_cell_below hb_ e4; go_simp; with_reducible rfl)); (case ha => (simp only [Act.put, List.setIfInBounds_toArray, List.set_cons_zero, List.set_cons_succ, i64_w, i32_w]; rfl))))
      refine s_oneL rfl (fun K hK => ?_) rfl
      go_wp2_with (go_at_call 35; (with_reducible refine (lit_q 1 t A4 c4 _).mono ?_); rintro e w7 ⟨rfl, hB⟩)
      have hS2 : Below wb.heap.size wb w7 := hS.trans (below_sub hB hS.size)
      clear hB
      replace hS := hS2
      refine hK _ _ hS2 ?_
      clear hK
      repeat (first
        | (refine s_pure (v := ?_) (a' := ?_) rfl (fun _ _ _ h => h) rfl ?hy ?ha ?_; (case hy => (intro w_; go_simp; with_reducible rfl)); (case ha => (simp only [Act.put, List.setIfInBounds_toArray, List.set_cons_zero, List.set_cons_succ, i64_w, i32_w]; rfl)))
        | (refine s_held (v := ?_) (a' := ?_) hS rfl (fun _ _ _ h => h) rfl ?hy ?ha ?_; (case hy => (intro w_ hb_; have s0 := pw_cell_below hb_ e0; go_simp; with_reducible rfl)); (case ha => (simp only [Act.put, List.setIfInBounds_toArray, List.set_cons_zero, List.set_cons_succ, i64_w, i32_w]; rfl)))
        | (refine s_off (a' := ?_) rfl (fun _ _ _ h => h) rfl ?ha ?_; (case ha => (simp only [Act.put, List.setIfInBounds_toArray, List.set_cons_zero, List.set_cons_succ, i64_w, i32_w]; rfl)))
        | (refine s_offHeld (a' := ?_) hS rfl (fun _ _ _ h => h) rfl ?ha ?_; (case ha => (simp only [Act.put, List.setIfInBounds_toArray, List.set_cons_zero, List.set_cons_succ, i64_w, i32_w]; rfl)))
        | (refine s_offOne (a' := ?_) rfl rfl rfl ?ha ?_; (case ha => (simp only [Act.put, List.setIfInBounds_toArray, List.set_cons_zero, List.set_cons_succ, i64_w, i32_w]; rfl))))
      refine s_tailL _ (by kernel_rfl) ?_
      simp only [opsAt, List.filterMap_nil]
      have HS2 := Aside0.mk (HB.out.trans (below_sub hS2 HB.out.size))
      clear hS hS2 e0 e1 e2 e3 e4 d0 d1 d2 d3 d4
      go_wp2
      go_roundw
      case measure => simp [intOf]
      case rel => exact .inr ⟨by go_num, HS2⟩
    · go_wp2
      go_ret
      exact ⟨rfl, HB2.out⟩
set_option maxHeartbeats 2000000 in
set_option maxRecDepth 100000 in
theorem value_q (t : ByteArray) (A : Option Addr) (c : Nat) (w : World) (hr : Kd.C k33 w A 1 [ptQ t]) :
    Calls Tryd.prog 10 #[.slice A 1 c] w fun e w' => e = .returned (.bool true) ∧ Below w.heap.size w w' := by
  have HR := Aside0.mk hr
  clear hr
  go_enter Tryd.func10, Tryd.ntmps10
  go_wp2_with (go_at_call 23; (with_reducible refine (parts_q t A c _ HR.out).mono ?_); rintro e w1 ⟨rfl, hB⟩; have HB := Aside0.mk hB; clear hB)
  go_ret
  exact ⟨rfl, HB.out⟩
set_option maxHeartbeats 2000000 in
set_option maxRecDepth 100000 in
theorem right_q (t : ByteArray) (A : Option Addr) (c : Nat) (w : World) (hr : Kd.C k33 w A 1 [ptQ t]) :
    Calls Tryd.prog 8 #[.slice A 1 c] w fun e w' => e = .returned (.bool true) ∧ Below w.heap.size w w' := by
  obtain ⟨ad, A4, c4, rfl, d0, d1, d2, d3, d4, _, _⟩ := at_T33 hr 0 (by omega) (by omega)
  simp only [Int.toNat_zero, Nat.zero_mul, Addr.add_zero'] at d0 d1 d2 d3 d4
  rw [show rd_T33 [ptQ t] 0 = ptQ t from rfl] at d0 d1 d2 d3 d4
  dsimp only [List.length_nil] at d0 d1 d2 d3 d4
  have HR := Aside0.mk hr
  clear hr
  go_enter Tryd.func8, Tryd.ntmps8
  go_wp2_with (go_at_call 10; (with_reducible refine (value_q t (some ad) c _ HR.out).mono ?_); rintro e w1 ⟨rfl, hB⟩; have HB := Aside0.mk hB; replace d0 := pw_cell_below hB d0; replace d1 := pw_cell_below hB d1; clear hB)
  go_ret
  exact ⟨rfl, HB.out⟩
def WrOut (B b : Nat) (w w' : World) (e : Ending) (l : List UInt8) : Prop := e = .returned (.tuple #[]) ∧ BuilderW.Bld w' B b l ∧ Below B w w'
set_option maxHeartbeats 4000000 in
set_option maxRecDepth 100000 in
theorem write_q (t : ByteArray) (ht : t.size ≤ 1000000) (A : Option Addr) (c B b : Nat) (w : World) (hr : Kd.C k33 w A 1 [ptQ t]) (hb : BuilderW.Bld w B b []) (hBw : B ≤ w.heap.size) {m : Int} (hm : w.cell? ⟨0, 0, none⟩ = some (.int .i64 m)) :
    Calls Tryd.prog 25 #[.pointer (some ⟨b, 0, none⟩), .slice A 1 c, .bool false] w fun e w' => WrOut B b w w' e (quoteS t).data.toList := by
  obtain ⟨ad, A4, c4, rfl, d0, d1, d2, d3, d4, _, _⟩ := at_T33 hr 0 (by omega) (by omega)
  simp only [Int.toNat_zero, Nat.zero_mul, Addr.add_zero'] at d0 d1 d2 d3 d4
  rw [show rd_T33 [ptQ t] 0 = ptQ t from rfl] at d0 d1 d2 d3 d4
  dsimp only [List.length_nil] at d0 d1 d2 d3 d4
  have hal := below_alloc (Below.refl w.heap.size w) (.cells #[.int .i64 1, .bool true, .string t, .string ⟨#[]⟩, .slice A4 0 c4] 33)
  have HB := Aside0.mk hal
  have HG := Aside0.mk (blk_new w (.cells #[.int .i64 1, .bool true, .string t, .string ⟨#[]⟩, .slice A4 0 c4] 33))
  have HM := Aside0.mk (pw_cell_below hal hm)
  have HBD := Aside0.mk (BuilderW.Bld_below hb hal)
  have HBW := Aside0.mk hBw
  have HT := Aside0.mk ht
  have HLQ := Aside0.mk (show (quoteS t).size ≤ 5000000 by
    have h1 := qz_len t.data.toList
    rw [data_length] at h1
    show (List.toArray _).size ≤ _
    simp
    omega)
  clear hr hal hm hb hBw ht
  go_enter Tryd.func25, Tryd.ntmps25
  go_upto_region 1 with (fail)
  go_loopw [11] (fun v11 w' => (v11 = .int .i64 0 ∧ w' = w) ∨ (v11 = .int .i64 1 ∧ Aside0 (BuilderW.Bld w' B b (quoteS t).data.toList) ∧ Aside0 (Below B w w'))) (fun v11 _ => 1 - (intOf v11).toNat)
  case atStart => exact .inl ⟨rfl, rfl⟩
  case round =>
    rcases hrel with ⟨rfl, rfl⟩ | ⟨rfl, HB2, HB3⟩
    · go_upto_region 9 with (fail)
      generalize wr.alloc (.cells #[.int .i64 1, .bool true, .string t, .string ⟨#[]⟩, .slice A4 0 c4] 33) = wb at *
      generalize hg8 : wr.heap.size = g8 at HG ⊢
      have e0 : wb.cell? ⟨g8, 0, none⟩ = some (.int .i64 1) := (blk_cell HG.out 0).trans rfl
      have e1 : wb.cell? ⟨g8, 1, none⟩ = some (.bool true) := (blk_cell HG.out 1).trans rfl
      have e2 : wb.cell? ⟨g8, 2, none⟩ = some (.string t) := (blk_cell HG.out 2).trans rfl
      clear hg8
      go_upto_region 12 with (fail)
      refine region_seq (fun w_ => Below wb.heap.size wb w_) [6]
        [(0, some 64, .pure), (1, some 65, .pure), (2, some 66, .pure), (3, some 67, .pure), (4, some 68, .held), (5, some 69, .one), (6, some 70, .last)] (by kernel_rfl) (by kernel_rfl) ?_
      have hS := below_drew (Below.refl wb.heap.size wb)
      repeat (first
        | (refine s_pure (v := ?_) (a' := ?_) rfl (fun _ _ _ h => h) rfl ?hy ?ha ?_; (case hy => (intro w_; go_simp; with_reducible rfl)); (case ha => (simp only [Act.put, List.setIfInBounds_toArray, List.set_cons_zero, List.set_cons_succ, i64_w, i32_w]; rfl)))
        | (refine s_held (v := ?_) (a' := ?_) hS rfl (fun _ _ _ h => h) rfl ?hy ?ha ?_; (case hy => (intro w_ hb_; have s0 := pw_cell_below hb_ e0; have s1 := pw_cell_below hb_ e1; have s2 := pw_cell_below hb_ e2; go_simp; with_reducible rfl)); (case ha => (simp only [Act.put, List.setIfInBounds_toArray, List.set_cons_zero, List.set_cons_succ, i64_w, i32_w]; rfl))))
      refine s_oneL rfl (fun K hK => ?_) rfl
      go_wp2_with (go_at_call 17; (with_reducible refine (quote_any t m _ (pw_cell_below hS HM.out) HT.out).mono ?_); rintro e w7 ⟨rfl, hB⟩)
      have hS2 : Below wb.heap.size wb w7 := hS.trans (below_sub hB hS.size)
      clear hB
      replace hS := hS2
      refine hK _ _ hS2 ?_
      clear hK
      repeat (first
        | (refine s_pure (v := ?_) (a' := ?_) rfl (fun _ _ _ h => h) rfl ?hy ?ha ?_; (case hy => (intro w_; go_simp; with_reducible rfl)); (case ha => (simp only [Act.put, List.setIfInBounds_toArray, List.set_cons_zero, List.set_cons_succ, i64_w, i32_w]; rfl)))
        | (refine s_held (v := ?_) (a' := ?_) hS rfl (fun _ _ _ h => h) rfl ?hy ?ha ?_; (case hy => (intro w_ hb_; have s0 := pw_cell_below hb_ e0; go_simp; with_reducible rfl)); (case ha => (simp only [Act.put, List.setIfInBounds_toArray, List.set_cons_zero, List.set_cons_succ, i64_w, i32_w]; rfl))))
      refine s_tail 6 _ (by kernel_rfl) ?_
      simp only [List.drop_succ_cons, List.drop_zero]
      have HB7 := Aside0.mk (BuilderW.Bld_below HBD.out hS2)
      have HS7 := Aside0.mk ((HB.out.mono HBW.out).trans (hS2.mono (Nat.le_trans HBW.out HB.out.size)))
      clear hS hS2 e0 e1 e2 d0 d1 d2 d3 d4
      go_wp2_with (go_at_call 41; (with_reducible refine (BuilderW.writeString_any B b [] (quoteS t) _ HB7.out (by have := HLQ.out; simp; omega) (Nat.le_trans HBW.out HS7.out.size)).mono ?_); rintro e w8 ⟨rfl, hb8, hB8⟩; have HB8 := Aside0.mk hb8; have HS8 := Aside0.mk (HS7.out.trans hB8); clear hb8 hB8)
      go_roundw
      case measure => simp [intOf]
      case rel => exact .inr ⟨by go_num, HB8, HS8⟩
    · go_wp2
      go_end0
      exact ⟨rfl, HB2.out, HB3.out⟩
end Go.Proofs.YtkecpfjmdokieaaDoor.Word
namespace Go.Proofs.YtkecpfjmdokieaaDoor.Word
open Go.RowKit Go.Proofs.YtkecpfjmdokieaaDoorW.PrintWords Go.Proofs.YtkecpfjmdokieaaDoorW.PrintLast Go.Proofs.YtkecpfjmdokieaaDoor.Base Go.Proofs.YtkecpfjmdokieaaDoor.Seq Go.Proofs.YtkecpfjmdokieaaDoor.P Go.Proofs.YtkecpfjmdokieaaDoor.NodeOps
set_option linter.unusedVariables false
set_option linter.unusedSimpArgs false
def KOut (B b : Nat) (w w' : World) (e : Ending) (l : List UInt8) : Prop := e = .returned (.tuple #[]) ∧ BuilderW.Bld w' B b l ∧ Below B w w' ∧ BuilderW.Kp b w w'
theorem byte_int (B b : Nat) (l : List UInt8) (i : Int) (c : UInt8) (hi : i = (c.toNat : Int)) (w : World) (h : BuilderW.Bld w B b l) (hlen : l.length + 1 ≤ 140737488355328) (hBw : B ≤ w.heap.size) :
    Calls Tryd.prog 59 #[.pointer (some ⟨b, 0, none⟩), .int .u8 i] w fun e w' => e = .returned .nilIface ∧ BuilderW.Bld w' B b (l ++ [c]) ∧ Below B w w' ∧ BuilderW.Kp b w w' := by
  subst hi
  exact BuilderW.writeByte_keep B b l c w h hlen hBw
theorem spec_idx : ∀ b : UInt8, decide (0 ≤ Lib.indexByte (⟨#[34, 36, 92, 96, 125]⟩ : ByteArray).data.toList ((b.toNat : Int)).toNat.toUInt8) = spec b := by
  refine all_b ?_
  decide +kernel
set_option maxHeartbeats 8000000 in
set_option maxRecDepth 100000 in
theorem tight_any (s : ByteArray) (hs : s.size ≤ 1000000) (B b : Nat) (A : List UInt8) (hA : A.length ≤ 20000000) (w : World) (hb : BuilderW.Bld w B b A) (hBw : B ≤ w.heap.size) :
    Calls Tryd.prog 40 #[.pointer (some ⟨b, 0, none⟩), .string s] w fun e w' => KOut B b w w' e (A ++ esc (by2 s)) := by
  have HB := Aside0.mk hb
  have HW := Aside0.mk hBw
  have HA := Aside0.mk hA
  clear hb hBw hA
  go_enter Tryd.func40, Tryd.ntmps40
  go_wp2
  go_loopw [7] (fun v7 w' => ∃ k : Nat, k ≤ s.size ∧ v7 = .int .i64 (k : Int) ∧ Aside0 (BuilderW.Bld w' B b (A ++ esc ((by2 s).take k))) ∧ Aside0 (Below B w w' ∧ BuilderW.Kp b w w')) (fun v7 _ => s.size - (intOf v7).toNat)
  case atStart => exact ⟨0, Nat.zero_le _, rfl, ⟨by rw [List.take_zero, show esc [] = [] from rfl, List.append_nil]; exact HB.out⟩, ⟨Below.refl _ _, Lib.OthersKept.refl _ _ _⟩⟩
  case round =>
    obtain ⟨k, hk, rfl, HBk, HKk⟩ := hrel
    by_cases hks : k < s.size
    · obtain ⟨c, e1, e2, e3⟩ := cut1 s k hks
      have HSP := Aside0.mk (spec_idx c)
      have HWk := Aside0.mk (Nat.le_trans HW.out HKk.out.1.size)
      have HLk := Aside0.mk (show (A ++ esc ((by2 s).take k)).length + 2 ≤ 140737488355328 by
        have h1 := esc_len ((by2 s).take k)
        have h2 : ((by2 s).take k).length ≤ s.size := by rw [List.length_take, ← by2_size]; omega
        have := HA.out
        rw [List.length_append]
        omega)
      have HE1 := Aside0.mk e1
      have hc : s[k]'hks = c := UInt8.toNat_inj.1 (by have := bt_nat s k hks; omega)
      clear e1 e2 e3
      go_upto_region 3 with (fail)
      generalize hq : Lib.indexByte (⟨#[34, 36, 92, 96, 125]⟩ : ByteArray).data.toList ((c.toNat : Int)).toNat.toUInt8 = q at HSP
      have HQ := Aside0.mk hq
      clear hq
      cases hsp : spec c
      · have hq0 : decide (0 ≤ q) = false := HSP.out.trans hsp
        have HE3 := Aside0.mk (show esc ((by2 s).take (k + 1)) = esc ((by2 s).take k) ++ [c] by rw [HE1.out, esc_snoc, hsp, if_neg (by decide)])
        go_upto_region 5 with (go_at_call 58; go_loud (refine (Tryd.strings_IndexByte _ _ _).mono ?_); rintro e w7 ⟨rfl, rfl⟩; rw [HQ.out])
        refine region_seq (fun w_ => Below w7.heap.size w7 w_) [6]
          [(0, some 19, .pure), (1, some 20, .pure), (2, some 21, .pure), (3, some 22, .pure), (4, some 23, .pure), (5, some 24, .pure), (6, some 25, .last)] (by kernel_rfl) (by kernel_rfl) ?_
        have hS := below_drew (Below.refl w7.heap.size w7)
        repeat (first
          | (refine s_pure (v := ?_) (a' := ?_) rfl (fun _ _ _ h => h) rfl ?hy ?ha ?_; (case hy => (intro w_; go_simp; with_reducible rfl)); (case ha => (simp only [Act.put, List.setIfInBounds_toArray, List.set_cons_zero, List.set_cons_succ, i64_w, i32_w]; rfl)))
          | (refine s_held (v := ?_) (a' := ?_) hS rfl (fun _ _ _ h => h) rfl ?hy ?ha ?_; (case hy => (intro w_ hb_; go_simp; with_reducible rfl)); (case ha => (simp only [Act.put, List.setIfInBounds_toArray, List.set_cons_zero, List.set_cons_succ, i64_w, i32_w]; rfl))))
        refine s_tail 6 _ (by kernel_rfl) ?_
        simp only [List.drop_succ_cons, List.drop_zero]
        have HS7 := Aside0.mk hS
        clear hS
        go_wp2_with (go_at_call 59; (with_reducible refine (byte_int B b _ _ c rfl _ (BuilderW.Bld_below HBk.out HS7.out) (by have := HLk.out; omega) (Nat.le_trans HWk.out HS7.out.size)).mono ?_); rintro e w9 ⟨rfl, hb9, hB9, hK9⟩; have HB9 := Aside0.mk hb9; have HK9 := Aside0.mk (And.intro (HKk.out.1.trans ((HS7.out.mono HWk.out).trans hB9)) (HKk.out.2.trans ((BuilderW.kp_below HS7.out).trans hK9))); clear hb9 hB9 hK9)
        go_roundw
        case measure => simp [intOf]; omega
        case rel => exact ⟨k + 1, by omega, by go_num, ⟨by rw [HE3.out]; simpa using HB9.out⟩, HK9⟩
      · have hq0 : decide (0 ≤ q) = true := HSP.out.trans hsp
        have HE3 := Aside0.mk (show esc ((by2 s).take (k + 1)) = esc ((by2 s).take k) ++ [92] ++ [c] by rw [HE1.out, esc_snoc, hsp, if_pos rfl]; simp)
        go_upto_region 5 with (first
          | (go_at_call 58; go_loud (refine (Tryd.strings_IndexByte _ _ _).mono ?_); rintro e w7 ⟨rfl, rfl⟩; rw [HQ.out])
          | (go_at_call 59; (with_reducible refine (byte_int B b _ 92 92 rfl _ HBk.out (by have := HLk.out; omega) HWk.out).mono ?_); rintro e w8 ⟨rfl, hb8, hB8, hK8⟩; have HB8 := Aside0.mk hb8; have HK8 := Aside0.mk (And.intro (HKk.out.1.trans hB8) (HKk.out.2.trans hK8)); have HW8 := Aside0.mk (Nat.le_trans HWk.out hB8.size); clear hb8 hB8 hK8))
        refine region_seq (fun w_ => Below w8.heap.size w8 w_) [6]
          [(0, some 19, .pure), (1, some 20, .pure), (2, some 21, .pure), (3, some 22, .pure), (4, some 23, .pure), (5, some 24, .pure), (6, some 25, .last)] (by kernel_rfl) (by kernel_rfl) ?_
        have hS := below_drew (Below.refl w8.heap.size w8)
        repeat (first
          | (refine s_pure (v := ?_) (a' := ?_) rfl (fun _ _ _ h => h) rfl ?hy ?ha ?_; (case hy => (intro w_; go_simp; with_reducible rfl)); (case ha => (simp only [Act.put, List.setIfInBounds_toArray, List.set_cons_zero, List.set_cons_succ, i64_w, i32_w]; rfl)))
          | (refine s_held (v := ?_) (a' := ?_) hS rfl (fun _ _ _ h => h) rfl ?hy ?ha ?_; (case hy => (intro w_ hb_; go_simp; with_reducible rfl)); (case ha => (simp only [Act.put, List.setIfInBounds_toArray, List.set_cons_zero, List.set_cons_succ, i64_w, i32_w]; rfl))))
        refine s_tail 6 _ (by kernel_rfl) ?_
        simp only [List.drop_succ_cons, List.drop_zero]
        have HS7 := Aside0.mk hS
        clear hS
        go_wp2_with (go_at_call 59; (with_reducible refine (byte_int B b _ _ c rfl _ (BuilderW.Bld_below HB8.out HS7.out) (by have := HLk.out; simp at this ⊢; omega) (Nat.le_trans HW8.out HS7.out.size)).mono ?_); rintro e w9 ⟨rfl, hb9, hB9, hK9⟩; have HB9 := Aside0.mk hb9; have HK9 := Aside0.mk (And.intro (HK8.out.1.trans ((HS7.out.mono HW8.out).trans hB9)) (HK8.out.2.trans ((BuilderW.kp_below HS7.out).trans hK9))); clear hb9 hB9 hK9)
        go_roundw
        case measure => simp [intOf]; omega
        case rel => exact ⟨k + 1, by omega, by go_num, ⟨by rw [HE3.out]; simpa using HB9.out⟩, HK9⟩
    · obtain rfl : k = s.size := by omega
      rw [List.take_of_length_le (by rw [← by2_size]; exact Nat.le_refl _)] at HBk
      go_wp2
      go_end0
      exact ⟨rfl, HBk.out, HKk.out.1, HKk.out.2⟩
end Go.Proofs.YtkecpfjmdokieaaDoor.Word
namespace Go.Proofs.YtkecpfjmdokieaaDoor.Seq
open Go.RowKit Go.Proofs.YtkecpfjmdokieaaDoorW.PrintWords Go.Proofs.YtkecpfjmdokieaaDoorW.PrintLast Go.Proofs.YtkecpfjmdokieaaDoor.Base
set_option linter.unusedVariables false
inductive T where
  | fin
  | pure (i : Nat) (N : Option Tmp) (r : T)
  | held (i : Nat) (N : Option Tmp) (r : T)
  | one (i : Nat) (N : Option Tmp) (r : T)
  | two (i : Nat) (N : Option Tmp) (s : T) (j : Nat) (M : Option Tmp) (t : T)
def T.size : T → Nat
  | .fin => 0
  | .pure _ _ r => r.size + 1
  | .held _ _ r => r.size + 1
  | .one _ _ r => r.size + 1
  | .two _ _ s _ _ _ => s.size + 1
section
variable {P : Program} {ops : Array Oper} {Q : Exit → Act → World → Prop} {md : Region.Mode} {S : World → Prop}
end
theorem s_offOne {P : Program} {ops : Array Oper} {Q : Exit → Act → World → Prop} {S : World → Prop} {i : Nat} {N : Option Tmp} {r : List (Nat × Option Tmp × K)} {o : Oper} {a a' : Act} {w : World} (ho : ops[i]? = some o) (hN : o.dst = N)
    (hw : Region.wanted o (yielded ops a.tmps) = false) (ha : a.put N undef = a') (h : wpSeq P ops Q S r a' w) : wpSeq P ops Q S ((i, N, .one) :: r) a w := by
  subst ha
  subst hN
  unfold wpSeq wpOp
  simp only [ho, hw, Bool.false_eq_true, if_false]
  exact ⟨id, h⟩
end Go.Proofs.YtkecpfjmdokieaaDoor.Seq
