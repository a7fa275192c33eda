/- WordTells: for every two words the law returns true and leaves the words as they were: the row, and its card. No condition. -/
/- texts of this claim, one behind the other: I6 WordTell WordTells2 WordShape WordTells -/
import Derived.Test.YtkecpfjmdokieaaDoorG8
import Derived.HandedShaped
import Derived.LaidMore
import Derived.Test.YtkecpfjmdokieaaDoorRows
import Derived.Test.YtkecpfjmdokieaaDoorCards
import Derived.Test.YtkecpfjmdokieaaDoorTie
import Derived.ProofKit
import Derived.OpenShut
import Derived.ShutString
import Derived.ChangeOld
import Derived.SizedLaws
import Derived.Lay
import Derived.Lib.LaidU8
import Derived.SevenTiedAt
import Derived.Stop.Joined
import Derived.Shelf.Vars
namespace Go.Proofs.YtkecpfjmdokieaaDoor.P
noncomputable section
open Go.RowKit Go.Proofs.YtkecpfjmdokieaaDoorW.PrintWords Go.Proofs.YtkecpfjmdokieaaDoorW.PrintLast Go.Proofs.YtkecpfjmdokieaaDoorW.PrintMore
attribute [local go_sem] max2_int min2_int max_two min_two max_three min_three max_four min_four   -- for this text's walks alone
set_option linter.unusedVariables false
set_option linter.unusedSimpArgs false
def word_Value.f (l0 : List (S33)) : Option (Bool) := (word_parts.f l0 0 1).bind fun t122 => (some t122)
set_option maxHeartbeats 8000000 in
set_option maxRecDepth 100000 in
theorem word_Value.calls (A0 : Option Addr) (c0 : Nat) (l0 : List (S33)) (r : Bool) (w : World) (hr0 : Kd.C k33 w A0 l0.length l0) (hc0 : l0.length ≤ c0) (h : word_Value.f l0 = some r) :
    Calls Tryd.prog 10 #[.slice A0 l0.length c0] w fun e w' => e = .returned (.bool r) ∧ Below w.heap.size w w' := by
  have HR0 := Aside0.mk hr0
  have HC0 := Aside0.mk hc0
  clear hr0 hc0
  have HB := Aside0.mk (Below.refl w.heap.size w)
  have H : ((word_parts.f l0 0 1).bind fun t122 => (some t122)) = some r := h
  clear h
  replace H := Option.bind_eq_some_iff.mp H
  obtain ⟨t122, A20, H⟩ := H
  replace H : (some t122) = some r := H
  have A2 := Aside0.mk A20
  clear A20
  obtain rfl := Option.some.inj H
  go_enter Tryd.func10, Tryd.ntmps10
  go_wp2_with (first | ((with_reducible refine gate_callee (f := 23) rfl ?_); refine goesL_ (some 4) rfl rfl Tryd.func23 (by kernel_rfl) rfl #[.slice A0 l0.length c0, .int .i64 0, .int .i64 1] rfl (by (try simp only [List.map_toArray, List.map_cons, List.map_nil]); first | done | rfl | (simp only [List.length_drop, List.length_take]; rfl)) ?_; (with_reducible refine (word_parts.calls _ _ l0 0 1 t122 _ ?side1 ?side2 A2.out).mono ?_); (case side1 => repeat (first | exact HR0.out | (with_reducible refine Kd.C_alloc ?_ _) | (with_reducible refine Kd.C_drewN ?_ _) | (with_reducible refine Kd.C_drew ?_))); (case side2 => exact HC0.out); rintro e w3 ⟨rfl, hb⟩; refine ⟨_, rfl, ?_⟩; have n0_ := Aside0.mk (below_step (by repeat (first | (with_reducible first | exact HB.out | apply below_alloc | apply pw_below_drewN | apply below_drew1) | exact HB.out)) hb); clear HB; have HB := n0_; clear n0_; (try clear hb); (try clear hb2); (try clear hk); (try clear hi)))
  go_ret
  exact ⟨by first | rfl | (simp [errW_none, errW_some] <;> rfl) | (simp [*, errW_none, errW_some] <;> rfl), by repeat (first | (with_reducible first | exact HB.out | apply below_alloc | apply pw_below_drewN | apply below_drew1) | exact HB.out)⟩
def word_Right.f (l0 : List (S33)) : Option (Bool) := if (l0.length : Int) > 0 then ((word_Value.f l0).bind fun t123 => (if t123 = true then (if 0 < (l0.length : Int) then (if ((rd_T33 l0 0).f0) = 1 then (if (rd_T33 l0 0).f1 = true then (some true) else (if 0 < (((rd_T33 l0 0).f2).size : Int) then (some ((bt ((rd_T33 l0 0).f2) 0) != 35)) else (none))) else (some true)) else (none)) else (some false))) else (some false)
set_option maxHeartbeats 8000000 in
set_option maxRecDepth 100000 in
theorem word_Right.calls (A0 : Option Addr) (c0 : Nat) (l0 : List (S33)) (r : Bool) (w : World) (hr0 : Kd.C k33 w A0 l0.length l0) (hc0 : l0.length ≤ c0) (h : word_Right.f l0 = some r) :
    Calls Tryd.prog 8 #[.slice A0 l0.length c0] w fun e w' => e = .returned (.bool r) ∧ Below w.heap.size w w' := by
  have HR0 := Aside0.mk hr0
  have HC0 := Aside0.mk hc0
  clear hr0 hc0
  have HB := Aside0.mk (Below.refl w.heap.size w)
  have H : (if (l0.length : Int) > 0 then ((word_Value.f l0).bind fun t123 => (if t123 = true then (if 0 < (l0.length : Int) then (if ((rd_T33 l0 0).f0) = 1 then (if (rd_T33 l0 0).f1 = true then (some true) else (if 0 < (((rd_T33 l0 0).f2).size : Int) then (some ((bt ((rd_T33 l0 0).f2) 0) != 35)) else (none))) else (some true)) else (none)) else (some false))) else (some false)) = some r := h
  clear h
  by_cases c2 : (l0.length : Int) > 0
  · rw [if_pos c2] at H
    have c2b0 : decide (0 < (l0.length : Int)) = true := decide_eq_true c2
    have c2b1 : decide (0 < l0.length) = true := decide_eq_true (by omega)
    clear c2
    replace H := Option.bind_eq_some_iff.mp H
    obtain ⟨t123, A30, H⟩ := H
    replace H : (if t123 = true then (if 0 < (l0.length : Int) then (if ((rd_T33 l0 0).f0) = 1 then (if (rd_T33 l0 0).f1 = true then (some true) else (if 0 < (((rd_T33 l0 0).f2).size : Int) then (some ((bt ((rd_T33 l0 0).f2) 0) != 35)) else (none))) else (some true)) else (none)) else (some false)) = some r := H
    have A3 := Aside0.mk A30
    clear A30
    by_cases c4 : t123 = true
    · subst c4
      have H1 : (if 0 < (l0.length : Int) then (if ((rd_T33 l0 0).f0) = 1 then (if (rd_T33 l0 0).f1 = true then (some true) else (if 0 < (((rd_T33 l0 0).f2).size : Int) then (some ((bt ((rd_T33 l0 0).f2) 0) != 35)) else (none))) else (some true)) else (none)) = some r := by rw [if_pos rfl] at H; exact H
      clear H
      have H := H1
      clear H1
      by_cases c5 : 0 < (l0.length : Int)
      · rw [if_pos c5] at H
        have c5b0 : decide (0 < (l0.length : Int)) = true := decide_eq_true c5
        have c5b1 : decide (0 < l0.length) = true := decide_eq_true (by omega)
        clear c5
        by_cases c6 : ((rd_T33 l0 0).f0) = 1
        · rw [if_pos c6] at H
          have c6b0 : (((rd_T33 l0 0).f0) == 1) = true := beq_iff_eq.mpr c6
          have c6b1 : (((rd_T33 l0 0).f0) != 1) = false := bne_eq_false_iff_eq.mpr c6
          clear c6
          obtain ⟨bq7, hbq7⟩ : ∃ b_ : Bool, b_ = ((rd_T33 l0 0).f1) := ⟨_, rfl⟩
          replace H : (if bq7 = true then (some true) else (if 0 < (((rd_T33 l0 0).f2).size : Int) then (some ((bt ((rd_T33 l0 0).f2) 0) != 35)) else (none))) = some r := by rw [← hbq7] at H; exact H
          have Nbq7 := Aside0.mk hbq7
          clear hbq7
          by_cases c8 : bq7 = true
          · subst c8
            have H1 : (some true) = some r := by rw [if_pos rfl] at H; exact H
            clear H
            have H := H1
            clear H1
            obtain rfl := Option.some.inj H
            go_enter Tryd.func8, Tryd.ntmps8
            go_wp2_with (first | (go_at_call 10; (with_reducible refine (word_Value.calls _ _ l0 true _ ?side1 ?side2 A3.out).mono ?_); (case side1 => repeat (first | exact HR0.out | (with_reducible refine Kd.C_alloc ?_ _) | (with_reducible refine Kd.C_drewN ?_ _) | (with_reducible refine Kd.C_drew ?_))); (case side2 => exact HC0.out); rintro e w9 ⟨rfl, hb⟩; have n0_ := Aside0.mk (below_step (by repeat (first | (with_reducible first | exact HB.out | apply below_alloc | apply pw_below_drewN | apply below_drew1) | exact HB.out)) hb); clear HB; have HB := n0_; clear n0_; (try clear hb); (try clear hb2); (try clear hk); (try clear hi); have p124 : 0 ≤ (0 : Int) := (by omega); have q124 : 0 < (l0.length : Int) := of_decide_eq_true (by first | (with_reducible assumption) | assumption); obtain ⟨ad124, A124_4, c124_4, e124, hx124_0, hx124_1, hx124_2, hx124_3, hx124_4, hl124_4, hi124_4⟩ := at_T33 HR0.out 0 p124 q124; (try rw [← Nbq7.out] at hx124_1); cases e124; have qi124 : (0 < l0.length) = True := eq_true (by omega); (try rw [show ((0 : Int)).toNat = 0 from rfl] at hx124_0); (try rw [show 0 * 5 = 0 from rfl] at hx124_0); (try rw [Addr.add_zero'] at hx124_0); (try rw [show ((0 : Int)).toNat = 0 from rfl] at hx124_1); (try rw [show 0 * 5 = 0 from rfl] at hx124_1); (try rw [Addr.add_zero'] at hx124_1); (try rw [show ((0 : Int)).toNat = 0 from rfl] at hx124_2); (try rw [show 0 * 5 = 0 from rfl] at hx124_2); (try rw [Addr.add_zero'] at hx124_2); (try rw [show ((0 : Int)).toNat = 0 from rfl] at hx124_3); (try rw [show 0 * 5 = 0 from rfl] at hx124_3); (try rw [Addr.add_zero'] at hx124_3); (try rw [show ((0 : Int)).toNat = 0 from rfl] at hx124_4); (try rw [show 0 * 5 = 0 from rfl] at hx124_4); (try rw [Addr.add_zero'] at hx124_4); replace hx124_0 := (HB.out.cell (World.block_lt_of_cell? w _ hx124_0)).trans hx124_0; replace hx124_1 := (HB.out.cell (World.block_lt_of_cell? w _ hx124_1)).trans hx124_1; replace hx124_2 := (HB.out.cell (World.block_lt_of_cell? w _ hx124_2)).trans hx124_2; replace hx124_3 := (HB.out.cell (World.block_lt_of_cell? w _ hx124_3)).trans hx124_3; replace hx124_4 := (HB.out.cell (World.block_lt_of_cell? w _ hx124_4)).trans hx124_4; have HR124_4 := Aside0.mk hi124_4; have HC124_4 := Aside0.mk hl124_4; clear hi124_4 hl124_4; replace p124 := eq_true p124; replace q124 := eq_true q124; have p125 : 0 ≤ (0 : Int) := (by omega); have q125 : 0 < (l0.length : Int) := of_decide_eq_true (by first | (with_reducible assumption) | assumption); obtain ⟨ad125, A125_4, c125_4, e125, hx125_0, hx125_1, hx125_2, hx125_3, hx125_4, hl125_4, hi125_4⟩ := at_T33 HR0.out 0 p125 q125; (try rw [← Nbq7.out] at hx125_1); obtain rfl : ad124 = ad125 := (by injection e125); have qi125 : (0 < l0.length) = True := eq_true (by omega); (try rw [show ((0 : Int)).toNat = 0 from rfl] at hx125_0); (try rw [show 0 * 5 = 0 from rfl] at hx125_0); (try rw [Addr.add_zero'] at hx125_0); (try rw [show ((0 : Int)).toNat = 0 from rfl] at hx125_1); (try rw [show 0 * 5 = 0 from rfl] at hx125_1); (try rw [Addr.add_zero'] at hx125_1); (try rw [show ((0 : Int)).toNat = 0 from rfl] at hx125_2); (try rw [show 0 * 5 = 0 from rfl] at hx125_2); (try rw [Addr.add_zero'] at hx125_2); (try rw [show ((0 : Int)).toNat = 0 from rfl] at hx125_3); (try rw [show 0 * 5 = 0 from rfl] at hx125_3); (try rw [Addr.add_zero'] at hx125_3); (try rw [show ((0 : Int)).toNat = 0 from rfl] at hx125_4); (try rw [show 0 * 5 = 0 from rfl] at hx125_4); (try rw [Addr.add_zero'] at hx125_4); replace hx125_0 := (HB.out.cell (World.block_lt_of_cell? w _ hx125_0)).trans hx125_0; replace hx125_1 := (HB.out.cell (World.block_lt_of_cell? w _ hx125_1)).trans hx125_1; replace hx125_2 := (HB.out.cell (World.block_lt_of_cell? w _ hx125_2)).trans hx125_2; replace hx125_3 := (HB.out.cell (World.block_lt_of_cell? w _ hx125_3)).trans hx125_3; replace hx125_4 := (HB.out.cell (World.block_lt_of_cell? w _ hx125_4)).trans hx125_4; have HR125_4 := Aside0.mk hi125_4; have HC125_4 := Aside0.mk hl125_4; clear hi125_4 hl125_4; replace p125 := eq_true p125; replace q125 := eq_true q125; have ea_ := Option.some.inj (hx124_4.symm.trans hx125_4); injection ea_ with ea_ en_ ec_; subst ea_; subst ec_; clear en_))
            go_ret
            exact ⟨by first | rfl | (simp [errW_none, errW_some] <;> rfl) | (simp [*, errW_none, errW_some] <;> rfl), by repeat (first | (with_reducible first | exact HB.out | apply below_alloc | apply pw_below_drewN | apply below_drew1) | exact HB.out)⟩
          · replace c8 := Bool.eq_false_iff.mpr c8
            subst c8
            have H1 : (if 0 < (((rd_T33 l0 0).f2).size : Int) then (some ((bt ((rd_T33 l0 0).f2) 0) != 35)) else (none)) = some r := by rw [if_neg (show ¬ (false = true) by decide)] at H; exact H
            clear H
            have H := H1
            clear H1
            by_cases c10 : 0 < (((rd_T33 l0 0).f2).size : Int)
            · rw [if_pos c10] at H
              have c10b0 : decide (0 < (((rd_T33 l0 0).f2).size : Int)) = true := decide_eq_true c10
              have c10b1 : decide (0 < ((rd_T33 l0 0).f2).size) = true := decide_eq_true (by omega)
              clear c10
              obtain rfl := Option.some.inj H
              go_enter Tryd.func8, Tryd.ntmps8
              go_wp2_with (first | (go_at_call 10; (with_reducible refine (word_Value.calls _ _ l0 true _ ?side1 ?side2 A3.out).mono ?_); (case side1 => repeat (first | exact HR0.out | (with_reducible refine Kd.C_alloc ?_ _) | (with_reducible refine Kd.C_drewN ?_ _) | (with_reducible refine Kd.C_drew ?_))); (case side2 => exact HC0.out); rintro e w12 ⟨rfl, hb⟩; have n0_ := Aside0.mk (below_step (by repeat (first | (with_reducible first | exact HB.out | apply below_alloc | apply pw_below_drewN | apply below_drew1) | exact HB.out)) hb); clear HB; have HB := n0_; clear n0_; (try clear hb); (try clear hb2); (try clear hk); (try clear hi); have p124 : 0 ≤ (0 : Int) := (by omega); have q124 : 0 < (l0.length : Int) := of_decide_eq_true (by first | (with_reducible assumption) | assumption); obtain ⟨ad124, A124_4, c124_4, e124, hx124_0, hx124_1, hx124_2, hx124_3, hx124_4, hl124_4, hi124_4⟩ := at_T33 HR0.out 0 p124 q124; (try rw [← Nbq7.out] at hx124_1); cases e124; have qi124 : (0 < l0.length) = True := eq_true (by omega); (try rw [show ((0 : Int)).toNat = 0 from rfl] at hx124_0); (try rw [show 0 * 5 = 0 from rfl] at hx124_0); (try rw [Addr.add_zero'] at hx124_0); (try rw [show ((0 : Int)).toNat = 0 from rfl] at hx124_1); (try rw [show 0 * 5 = 0 from rfl] at hx124_1); (try rw [Addr.add_zero'] at hx124_1); (try rw [show ((0 : Int)).toNat = 0 from rfl] at hx124_2); (try rw [show 0 * 5 = 0 from rfl] at hx124_2); (try rw [Addr.add_zero'] at hx124_2); (try rw [show ((0 : Int)).toNat = 0 from rfl] at hx124_3); (try rw [show 0 * 5 = 0 from rfl] at hx124_3); (try rw [Addr.add_zero'] at hx124_3); (try rw [show ((0 : Int)).toNat = 0 from rfl] at hx124_4); (try rw [show 0 * 5 = 0 from rfl] at hx124_4); (try rw [Addr.add_zero'] at hx124_4); replace hx124_0 := (HB.out.cell (World.block_lt_of_cell? w _ hx124_0)).trans hx124_0; replace hx124_1 := (HB.out.cell (World.block_lt_of_cell? w _ hx124_1)).trans hx124_1; replace hx124_2 := (HB.out.cell (World.block_lt_of_cell? w _ hx124_2)).trans hx124_2; replace hx124_3 := (HB.out.cell (World.block_lt_of_cell? w _ hx124_3)).trans hx124_3; replace hx124_4 := (HB.out.cell (World.block_lt_of_cell? w _ hx124_4)).trans hx124_4; have HR124_4 := Aside0.mk hi124_4; have HC124_4 := Aside0.mk hl124_4; clear hi124_4 hl124_4; replace p124 := eq_true p124; replace q124 := eq_true q124; have p125 : 0 ≤ (0 : Int) := (by omega); have q125 : 0 < (l0.length : Int) := of_decide_eq_true (by first | (with_reducible assumption) | assumption); obtain ⟨ad125, A125_4, c125_4, e125, hx125_0, hx125_1, hx125_2, hx125_3, hx125_4, hl125_4, hi125_4⟩ := at_T33 HR0.out 0 p125 q125; (try rw [← Nbq7.out] at hx125_1); obtain rfl : ad124 = ad125 := (by injection e125); have qi125 : (0 < l0.length) = True := eq_true (by omega); (try rw [show ((0 : Int)).toNat = 0 from rfl] at hx125_0); (try rw [show 0 * 5 = 0 from rfl] at hx125_0); (try rw [Addr.add_zero'] at hx125_0); (try rw [show ((0 : Int)).toNat = 0 from rfl] at hx125_1); (try rw [show 0 * 5 = 0 from rfl] at hx125_1); (try rw [Addr.add_zero'] at hx125_1); (try rw [show ((0 : Int)).toNat = 0 from rfl] at hx125_2); (try rw [show 0 * 5 = 0 from rfl] at hx125_2); (try rw [Addr.add_zero'] at hx125_2); (try rw [show ((0 : Int)).toNat = 0 from rfl] at hx125_3); (try rw [show 0 * 5 = 0 from rfl] at hx125_3); (try rw [Addr.add_zero'] at hx125_3); (try rw [show ((0 : Int)).toNat = 0 from rfl] at hx125_4); (try rw [show 0 * 5 = 0 from rfl] at hx125_4); (try rw [Addr.add_zero'] at hx125_4); replace hx125_0 := (HB.out.cell (World.block_lt_of_cell? w _ hx125_0)).trans hx125_0; replace hx125_1 := (HB.out.cell (World.block_lt_of_cell? w _ hx125_1)).trans hx125_1; replace hx125_2 := (HB.out.cell (World.block_lt_of_cell? w _ hx125_2)).trans hx125_2; replace hx125_3 := (HB.out.cell (World.block_lt_of_cell? w _ hx125_3)).trans hx125_3; replace hx125_4 := (HB.out.cell (World.block_lt_of_cell? w _ hx125_4)).trans hx125_4; have HR125_4 := Aside0.mk hi125_4; have HC125_4 := Aside0.mk hl125_4; clear hi125_4 hl125_4; replace p125 := eq_true p125; replace q125 := eq_true q125; have ea_ := Option.some.inj (hx124_4.symm.trans hx125_4); injection ea_ with ea_ en_ ec_; subst ea_; subst ec_; clear en_; have p126 : 0 ≤ (0 : Int) := (by omega); have q126 : 0 < (l0.length : Int) := of_decide_eq_true (by first | (with_reducible assumption) | assumption); obtain ⟨ad126, A126_4, c126_4, e126, hx126_0, hx126_1, hx126_2, hx126_3, hx126_4, hl126_4, hi126_4⟩ := at_T33 HR0.out 0 p126 q126; (try rw [← Nbq7.out] at hx126_1); obtain rfl : ad124 = ad126 := (by injection e126); have qi126 : (0 < l0.length) = True := eq_true (by omega); (try rw [show ((0 : Int)).toNat = 0 from rfl] at hx126_0); (try rw [show 0 * 5 = 0 from rfl] at hx126_0); (try rw [Addr.add_zero'] at hx126_0); (try rw [show ((0 : Int)).toNat = 0 from rfl] at hx126_1); (try rw [show 0 * 5 = 0 from rfl] at hx126_1); (try rw [Addr.add_zero'] at hx126_1); (try rw [show ((0 : Int)).toNat = 0 from rfl] at hx126_2); (try rw [show 0 * 5 = 0 from rfl] at hx126_2); (try rw [Addr.add_zero'] at hx126_2); (try rw [show ((0 : Int)).toNat = 0 from rfl] at hx126_3); (try rw [show 0 * 5 = 0 from rfl] at hx126_3); (try rw [Addr.add_zero'] at hx126_3); (try rw [show ((0 : Int)).toNat = 0 from rfl] at hx126_4); (try rw [show 0 * 5 = 0 from rfl] at hx126_4); (try rw [Addr.add_zero'] at hx126_4); replace hx126_0 := (HB.out.cell (World.block_lt_of_cell? w _ hx126_0)).trans hx126_0; replace hx126_1 := (HB.out.cell (World.block_lt_of_cell? w _ hx126_1)).trans hx126_1; replace hx126_2 := (HB.out.cell (World.block_lt_of_cell? w _ hx126_2)).trans hx126_2; replace hx126_3 := (HB.out.cell (World.block_lt_of_cell? w _ hx126_3)).trans hx126_3; replace hx126_4 := (HB.out.cell (World.block_lt_of_cell? w _ hx126_4)).trans hx126_4; have HR126_4 := Aside0.mk hi126_4; have HC126_4 := Aside0.mk hl126_4; clear hi126_4 hl126_4; replace p126 := eq_true p126; replace q126 := eq_true q126; have ea_ := Option.some.inj (hx124_4.symm.trans hx126_4); injection ea_ with ea_ en_ ec_; subst ea_; subst ec_; clear en_; have p11 : 0 ≤ (0 : Int) := (by omega); have q11 : 0 < ((rd_T33 l0 0).f2).size := (by have : (0 : Int) < (((rd_T33 l0 0).f2).size : Int) := of_decide_eq_true (by first | (with_reducible assumption) | assumption); omega); have hx11 : ∀ h : 0 < ((rd_T33 l0 0).f2).size, ((((rd_T33 l0 0).f2)[0]'h).toNat : Int) = bt ((rd_T33 l0 0).f2) 0 := bt_at ((rd_T33 l0 0).f2) 0; clear p11; have qi11 : (0 < (((rd_T33 l0 0).f2).size : Int)) = True := eq_true (of_decide_eq_true (by first | (with_reducible assumption) | assumption)); replace q11 := eq_true q11))
              go_ret
              exact ⟨by first | rfl | (simp [errW_none, errW_some] <;> rfl) | (simp [*, errW_none, errW_some] <;> rfl), by repeat (first | (with_reducible first | exact HB.out | apply below_alloc | apply pw_below_drewN | apply below_drew1) | exact HB.out)⟩
            · rw [if_neg c10] at H
              exact absurd H (by simp)
        · rw [if_neg c6] at H
          have c6b0 : (((rd_T33 l0 0).f0) == 1) = false := beq_eq_false_iff_ne.mpr c6
          have c6b1 : (((rd_T33 l0 0).f0) != 1) = true := bne_iff_ne.mpr c6
          obtain rfl := Option.some.inj H
          go_enter Tryd.func8, Tryd.ntmps8
          go_wp2_with (first | (go_at_call 10; (with_reducible refine (word_Value.calls _ _ l0 true _ ?side1 ?side2 A3.out).mono ?_); (case side1 => repeat (first | exact HR0.out | (with_reducible refine Kd.C_alloc ?_ _) | (with_reducible refine Kd.C_drewN ?_ _) | (with_reducible refine Kd.C_drew ?_))); (case side2 => exact HC0.out); rintro e w13 ⟨rfl, hb⟩; have n0_ := Aside0.mk (below_step (by repeat (first | (with_reducible first | exact HB.out | apply below_alloc | apply pw_below_drewN | apply below_drew1) | exact HB.out)) hb); clear HB; have HB := n0_; clear n0_; (try clear hb); (try clear hb2); (try clear hk); (try clear hi); have p124 : 0 ≤ (0 : Int) := (by omega); have q124 : 0 < (l0.length : Int) := of_decide_eq_true (by first | (with_reducible assumption) | assumption); obtain ⟨ad124, A124_4, c124_4, e124, hx124_0, hx124_1, hx124_2, hx124_3, hx124_4, hl124_4, hi124_4⟩ := at_T33 HR0.out 0 p124 q124; cases e124; have qi124 : (0 < l0.length) = True := eq_true (by omega); (try rw [show ((0 : Int)).toNat = 0 from rfl] at hx124_0); (try rw [show 0 * 5 = 0 from rfl] at hx124_0); (try rw [Addr.add_zero'] at hx124_0); (try rw [show ((0 : Int)).toNat = 0 from rfl] at hx124_1); (try rw [show 0 * 5 = 0 from rfl] at hx124_1); (try rw [Addr.add_zero'] at hx124_1); (try rw [show ((0 : Int)).toNat = 0 from rfl] at hx124_2); (try rw [show 0 * 5 = 0 from rfl] at hx124_2); (try rw [Addr.add_zero'] at hx124_2); (try rw [show ((0 : Int)).toNat = 0 from rfl] at hx124_3); (try rw [show 0 * 5 = 0 from rfl] at hx124_3); (try rw [Addr.add_zero'] at hx124_3); (try rw [show ((0 : Int)).toNat = 0 from rfl] at hx124_4); (try rw [show 0 * 5 = 0 from rfl] at hx124_4); (try rw [Addr.add_zero'] at hx124_4); replace hx124_0 := (HB.out.cell (World.block_lt_of_cell? w _ hx124_0)).trans hx124_0; replace hx124_1 := (HB.out.cell (World.block_lt_of_cell? w _ hx124_1)).trans hx124_1; replace hx124_2 := (HB.out.cell (World.block_lt_of_cell? w _ hx124_2)).trans hx124_2; replace hx124_3 := (HB.out.cell (World.block_lt_of_cell? w _ hx124_3)).trans hx124_3; replace hx124_4 := (HB.out.cell (World.block_lt_of_cell? w _ hx124_4)).trans hx124_4; have HR124_4 := Aside0.mk hi124_4; have HC124_4 := Aside0.mk hl124_4; clear hi124_4 hl124_4; replace p124 := eq_true p124; replace q124 := eq_true q124))
          go_ret
          exact ⟨by first | rfl | (simp [errW_none, errW_some] <;> rfl) | (simp [*, errW_none, errW_some] <;> rfl), by repeat (first | (with_reducible first | exact HB.out | apply below_alloc | apply pw_below_drewN | apply below_drew1) | exact HB.out)⟩
      · rw [if_neg c5] at H
        exact absurd H (by simp)
    · replace c4 := Bool.eq_false_iff.mpr c4
      subst c4
      have H1 : (some false) = some r := by rw [if_neg (show ¬ (false = true) by decide)] at H; exact H
      clear H
      have H := H1
      clear H1
      obtain rfl := Option.some.inj H
      go_enter Tryd.func8, Tryd.ntmps8
      go_wp2_with (first | (go_at_call 10; (with_reducible refine (word_Value.calls _ _ l0 false _ ?side1 ?side2 A3.out).mono ?_); (case side1 => repeat (first | exact HR0.out | (with_reducible refine Kd.C_alloc ?_ _) | (with_reducible refine Kd.C_drewN ?_ _) | (with_reducible refine Kd.C_drew ?_))); (case side2 => exact HC0.out); rintro e w14 ⟨rfl, hb⟩; have n0_ := Aside0.mk (below_step (by repeat (first | (with_reducible first | exact HB.out | apply below_alloc | apply pw_below_drewN | apply below_drew1) | exact HB.out)) hb); clear HB; have HB := n0_; clear n0_; (try clear hb); (try clear hb2); (try clear hk); (try clear hi)))
      go_ret
      exact ⟨by first | rfl | (simp [errW_none, errW_some] <;> rfl) | (simp [*, errW_none, errW_some] <;> rfl), by repeat (first | (with_reducible first | exact HB.out | apply below_alloc | apply pw_below_drewN | apply below_drew1) | exact HB.out)⟩
  · rw [if_neg c2] at H
    have c2b0 : decide (0 < (l0.length : Int)) = false := decide_eq_false c2
    have c2b1 : decide (0 < l0.length) = false := decide_eq_false (by omega)
    clear c2
    obtain rfl := Option.some.inj H
    go_enter Tryd.func8, Tryd.ntmps8
    go_wp2
    go_ret
    exact ⟨by first | rfl | (simp [errW_none, errW_some] <;> rfl) | (simp [*, errW_none, errW_some] <;> rfl), by repeat (first | (with_reducible first | exact HB.out | apply below_alloc | apply pw_below_drewN | apply below_drew1) | exact HB.out)⟩
end
end Go.Proofs.YtkecpfjmdokieaaDoor.P
namespace Go.Proofs.YtkecpfjmdokieaaDoor.Word
open Go.RowKit Go.Proofs.YtkecpfjmdokieaaDoorW.PrintWords Go.Proofs.YtkecpfjmdokieaaDoorW.PrintLast Go.Proofs.YtkecpfjmdokieaaDoor.Base Go.Proofs.YtkecpfjmdokieaaDoor.Seq Go.Proofs.YtkecpfjmdokieaaDoor.P Go.Proofs.YtkecpfjmdokieaaDoor.NodeOps
set_option linter.unusedVariables false
set_option linter.unusedSimpArgs false
theorem value_f (l : List Pt) (hw : wt l ≤ 1000000) : word_Value.f l = some (partsF 200 0 l) := by
  have h := partsOk 200 (by omega) l 0 hw
  have h2 := word_parts.of l 0 1 (by exact h)
  unfold word_Value.f
  rw [h2]
  rfl
theorem value_any (l : List Pt) (hw : wt l ≤ 1000000) (A : Option Addr) (n c : Nat) (w : World) (hr : Kd.C k33 w A n l) (hc : n ≤ c) :
    Calls Tryd.prog 10 #[.slice A n c] w fun e w' => e = .returned (.bool (partsF 200 0 l)) ∧ Below w.heap.size w w' := by
  obtain rfl := hr.1
  exact word_Value.calls A c l _ w hr hc (value_f l hw)
theorem rvalue_ev (l : List Pt) (hw : wt l ≤ 1000000) : Ev (fun k => deadfallref03_Value.f k l) (partsF 200 0 l) := by
  refine via2 (rparts_ev 200 (by omega) l 0 (.inl rfl) hw) fun k => ?_
  show deadfallref03_Value.f k l = deadfallref03_Parts.f k l 0 1
  unfold deadfallref03_Value.f
  cases deadfallref03_Parts.f k l 0 1 <;> rfl
theorem rvalue_any (l : List Pt) (hw : wt l ≤ 1000000) (A : Option Addr) (n c : Nat) (w : World) (hr : Kd.C k33 w A n l) (hc : n ≤ c) :
    Calls Tryd.prog 11 #[.slice A n c] w fun e w' => e = .returned (.bool (partsF 200 0 l)) ∧ Below w.heap.size w w' := by
  obtain rfl := hr.1
  obtain ⟨k, hk⟩ := rvalue_ev l hw
  exact deadfallref03_Value.calls k A c l _ w hr hc (hk k (Nat.le_refl _))
def rightB (l : List Pt) : Bool := if l.length = 0 then false else if partsF 200 0 l = false then false else if (rd_T33 l 0).f0 = 1 then (if (rd_T33 l 0).f1 = true then true else bt (rd_T33 l 0).f2 0 != 35) else true
theorem hd_right {l : List Pt} (hl : 0 < l.length) (hp : partsF 200 0 l = true) : ((rd_T33 l 0).f0 = 1 ∧ ((rd_T33 l 0).f1 = false → 0 < (rd_T33 l 0).f2.size)) ∨ (rd_T33 l 0).f0 = 2 := by
  have h := rt_of 200 0 l hp
  cases h with
  | nil => simp at hl
  | lit _ x l h0 hlb hadj ht =>
    refine .inl ⟨h0, fun hq => ?_⟩
    obtain ⟨_, _, h⟩ := lit_cases (.inl rfl) hlb
    have hq : x.f1 = false := hq
    rcases h with ⟨h, _⟩ | ⟨_, h⟩ | ⟨_, _, h, _⟩
    · exact absurd h (by decide)
    · rw [hq] at h; cases h
    · show 0 < x.f2.size
      rw [by2_size]
      exact List.length_pos_iff.2 h
  | par _ x l h0 hp hq ho hs ht => exact .inr h0
theorem right_f (l : List Pt) (hw : wt l ≤ 1000000) : word_Right.f l = some (rightB l) := by
  unfold word_Right.f rightB
  by_cases h0 : l.length = 0
  · rw [if_neg (by omega), if_pos h0]
  · rw [if_pos (by omega), if_neg h0, value_f l hw, Option.bind_some]
    cases hp : partsF 200 0 l with
    | false => rw [if_neg (by decide), if_pos rfl]
    | true =>
      rw [if_pos rfl, if_pos (show (0 : Int) < (l.length : Int) by omega), if_neg (show ¬ (true = false) by decide)]
      rcases hd_right (by omega) hp with ⟨h1, h2⟩ | h1
      · rw [if_pos h1, if_pos h1]
        cases hq : (rd_T33 l 0).f1 with
        | true => rw [if_pos rfl, if_pos rfl]
        | false => rw [if_neg (by decide), if_pos (by have := h2 hq; omega), if_neg (by decide)]
      · rw [if_neg (by omega), if_neg (by omega)]
theorem rright_ev (l : List Pt) (hw : wt l ≤ 1000000) : Ev (fun k => deadfallref03_Right.f k l) (rightB l) := by
  obtain ⟨k0, hk⟩ := rvalue_ev l hw
  refine ⟨k0, fun k h => ?_⟩
  have hk : deadfallref03_Value.f k l = some (partsF 200 0 l) := hk k h
  show deadfallref03_Right.f k l = _
  unfold deadfallref03_Right.f rightB
  by_cases h0 : l.length = 0
  · rw [if_pos (by omega), if_pos h0]
  · rw [if_neg (by omega), if_neg h0, hk, Option.bind_some]
    cases hp : partsF 200 0 l with
    | false => rw [if_neg (by decide), if_pos rfl]
    | true =>
      rw [if_pos rfl, if_pos (show (0 : Int) < (l.length : Int) by omega), if_neg (show ¬ (true = false) by decide)]
      rcases hd_right (by omega) hp with ⟨h1, h2⟩ | h1
      · rw [if_neg (by omega), if_pos h1]
        cases hq : (rd_T33 l 0).f1 with
        | true => rw [if_pos rfl, if_pos rfl]
        | false => rw [if_neg (by decide), if_pos (by have := h2 hq; omega), if_neg (by decide)]
      · rw [if_pos h1, if_neg (by omega)]
theorem right_any (l : List Pt) (hw : wt l ≤ 1000000) (A : Option Addr) (n c : Nat) (w : World) (hr : Kd.C k33 w A n l) (hc : n ≤ c) :
    Calls Tryd.prog 8 #[.slice A n c] w fun e w' => e = .returned (.bool (rightB l)) ∧ Below w.heap.size w w' := by
  obtain rfl := hr.1
  exact word_Right.calls A c l _ w hr hc (right_f l hw)
theorem rright_any (l : List Pt) (hw : wt l ≤ 1000000) (A : Option Addr) (n c : Nat) (w : World) (hr : Kd.C k33 w A n l) (hc : n ≤ c) :
    Calls Tryd.prog 9 #[.slice A n c] w fun e w' => e = .returned (.bool (rightB l)) ∧ Below w.heap.size w w' := by
  obtain rfl := hr.1
  obtain ⟨k, hk⟩ := rright_ev l hw
  exact deadfallref03_Right.calls k A c l _ w hr hc (hk k (Nat.le_refl _))
theorem wsame_n (l l' : List Pt) (A B : Option Addr) (n c m d : Nat) (w : World) (hr : Kd.C k33 w A n l) (hc : n ≤ c) (hr2 : Kd.C k33 w B m l') (hd : m ≤ d) :
    Calls Tryd.prog 14 #[.slice A n c, .slice B m d] w fun e w' => e = .returned (.bool (eqL l l')) ∧ Below w.heap.size w w' := by
  obtain rfl := hr.1
  obtain rfl := hr2.1
  exact wsame_any l l' A B c d w hr hc hr2 hd
theorem rsame_n (l l' : List Pt) (A B : Option Addr) (n c m d : Nat) (w : World) (hr : Kd.C k33 w A n l) (hr2 : Kd.C k33 w B m l') :
    Calls Tryd.prog 15 #[.slice A n c, .slice B m d] w fun e w' => e = .returned (.bool (eqL l l')) ∧ Below w.heap.size w w' :=
  same_any _ l l' (Nat.lt_succ_self _) A B n c m d w hr hr2
def textS (l : List Pt) : ByteArray := if partsF 200 0 l = true then bs (wrL false l) else ⟨#[]⟩
theorem rtext_any (l : List Pt) (hw : wt l ≤ 1000000) (A : Option Addr) (n c : Nat) (w : World) (hr : Kd.C k33 w A n l) (hc : n ≤ c) :
    Calls Tryd.prog 13 #[.slice A n c] w fun e w' => e = .returned (.string (textS l)) ∧ Below w.heap.size w w' := by
  obtain rfl := hr.1
  obtain ⟨k, hk⟩ := rtext_ev l hw
  exact deadfallref03_Text.calls k A c l _ w hr hc (hk k (Nat.le_refl _))
set_option maxHeartbeats 4000000 in
set_option maxRecDepth 100000 in
theorem wparts_nil (A : Option Addr) (c b : Nat) (w : World) : Calls Tryd.prog 25 #[.pointer (some ⟨b, 0, none⟩), .slice A 0 c, .bool false] w fun e w' => e = .returned (.tuple #[]) ∧ w = w' := by
  go_enter Tryd.func25, Tryd.ntmps25
  go_upto_region 1 with (fail)
  go_loopw [11] (fun v11 w' => v11 = .int .i64 0 ∧ w' = w) (fun v11 _ => 0)
  case atStart => exact ⟨rfl, rfl⟩
  case round =>
    obtain ⟨rfl, rfl⟩ := hrel
    go_wp2
    go_end0
    exact ⟨rfl, rfl⟩
set_option maxHeartbeats 4000000 in
set_option maxRecDepth 100000 in
theorem text_any (l : List Pt) (hw : wt l ≤ 1000000) (A : Option Addr) (n c : Nat) (w : World) (hr : Kd.C k33 w A n l) (hc : n ≤ c) {m : Int} (hm : w.cell? ⟨0, 0, none⟩ = some (.int .i64 m)) :
    Calls Tryd.prog 12 #[.slice A n c] w fun e w' => e = .returned (.string (textS l)) ∧ Below w.heap.size w w' := by
  have HR := Aside0.mk hr
  have HM := Aside0.mk hm
  have HC := Aside0.mk hc
  have HW := Aside0.mk hw
  have HLN := Aside0.mk (show l.length = n from hr.1)
  clear hr hm hc hw
  cases hp : partsF 200 0 l
  · have HT := Aside0.mk (show textS l = ⟨#[]⟩ by unfold textS; rw [hp, if_neg (by decide)])
    have HP := Aside0.mk hp
    clear hp
    go_enter Tryd.func12, Tryd.ntmps12
    go_wp2_with (go_at_call 10; (with_reducible refine (value_any l HW.out A n c _ HR.out HC.out).mono ?_); rintro e w1 ⟨rfl, hB⟩; rw [HP.out]; have HB := Aside0.mk hB; clear hB)
    go_ret
    exact ⟨congrArg (fun s => Ending.returned (.string s)) HT.out.symm, HB.out⟩
  · have HT := Aside0.mk (show textS l = bs (wrL false l) by unfold textS; rw [hp, if_pos rfl])
    have HP := Aside0.mk hp
    have HRT := Aside0.mk (rt_of 200 0 l hp)
    clear hp
    by_cases hl : l = []
    · subst hl
      have hn : n = 0 := HLN.out.symm
      subst hn
      go_enter Tryd.func12, Tryd.ntmps12
      go_upto_region 4 with (go_at_call 10; (with_reducible refine (value_any [] HW.out A 0 c _ HR.out HC.out).mono ?_); rintro e w1 ⟨rfl, hB⟩; rw [HP.out]; have HB := Aside0.mk hB; clear hB)
      have hal := below_alloc (Below.refl w1.heap.size w1) (.cells #[.pointer none, .slice none 0 0] 49)
      have HBK := Aside0.mk (blk_new w1 (.cells #[.pointer none, .slice none 0 0] 49))
      have HB2 := Aside0.mk (HB.out.trans (hal.mono HB.out.size))
      clear hal
      generalize w1.alloc (.cells #[.pointer none, .slice none 0 0] 49) = w2 at *
      generalize w1.heap.size = b at *
      go_wp2_with (first
        | (go_at_call 25; (with_reducible refine (wparts_nil A c b _).mono ?_); rintro e w3 ⟨rfl, rfl⟩)
        | (go_at_call 26; go_loud (with_reducible refine (BuilderW.string_nil w.heap.size b _ _ HBK.out).mono ?_); rintro e w4 ⟨rfl, hB4⟩; have HB4 := Aside0.mk (HB2.out.trans hB4); clear hB4))
      go_ret
      exact ⟨congrArg (fun s => Ending.returned (.string s)) (by rw [HT.out, wrL_nil]; rfl), HB4.out⟩
    · have HNE := Aside0.mk (show wrL false l ≠ [] from fun e => hl (wrL_empty HRT.out e))
      clear hl
      go_enter Tryd.func12, Tryd.ntmps12
      go_upto_region 4 with (go_at_call 10; (with_reducible refine (value_any l HW.out A n c _ HR.out HC.out).mono ?_); rintro e w1 ⟨rfl, hB⟩; rw [HP.out]; have HB := Aside0.mk hB; clear hB)
      have hal := below_alloc (Below.refl w1.heap.size w1) (.cells #[.pointer none, .slice none 0 0] 49)
      have HBD := Aside0.mk (BuilderW.Bld_new (B := w.heap.size) (blk_new w1 (.cells #[.pointer none, .slice none 0 0] 49)) HB.out.size)
      have HB2 := Aside0.mk (HB.out.trans (hal.mono HB.out.size))
      clear hal
      generalize w1.alloc (.cells #[.pointer none, .slice none 0 0] 49) = w2 at *
      generalize w1.heap.size = b at *
      go_wp2_with (first
        | (go_at_call 25; (with_reducible refine (wparts_any w HM.out _ l (Nat.lt_succ_self _) HW.out false A n c b [] _ HR.out HBD.out HB2.out (by have := HW.out; simp; omega)).mono ?_); rintro e w3 ⟨rfl, hb3, hB3, hK3⟩; have HBD3 := Aside0.mk hb3; have HB3 := Aside0.mk (HB2.out.trans hB3); clear hb3 hB3 hK3)
        | (go_at_call 26; go_loud (with_reducible refine (BuilderW.string_any w.heap.size b _ _ HBD3.out (by simpa using HNE.out)).mono ?_); rintro e w4 ⟨rfl, hB4⟩; have HB4 := Aside0.mk (HB3.out.trans hB4); clear hB4))
      go_ret
      exact ⟨congrArg (fun s => Ending.returned (.string s)) (by rw [HT.out]; rfl), HB4.out⟩
end Go.Proofs.YtkecpfjmdokieaaDoor.Word
namespace Go.Proofs.YtkecpfjmdokieaaDoor.Word
open Go.RowKit Go.Proofs.YtkecpfjmdokieaaDoorW.PrintWords Go.Proofs.YtkecpfjmdokieaaDoorW.PrintLast Go.Proofs.YtkecpfjmdokieaaDoor.Base Go.Proofs.YtkecpfjmdokieaaDoor.Seq Go.Proofs.YtkecpfjmdokieaaDoor.P Go.Proofs.YtkecpfjmdokieaaDoor.NodeOps
set_option linter.unusedVariables false
set_option linter.unusedSimpArgs false
set_option maxHeartbeats 16000000 in
set_option maxRecDepth 100000 in
theorem tells_law (l l' : List Pt) (A B : Option Addr) (n c m d : Nat) (w : World) (hC : Kd.C k33 w A n l) (hc : n ≤ c) (hfit : FitWord l) (hD : Kd.C k33 w B m l') (hd : m ≤ d) (hfit' : FitWord l') {mx : Int} (hm : w.cell? ⟨0, 0, none⟩ = some (.int .i64 mx)) :
    Calls Tryd.prog 3 #[.slice A n c, .slice B m d] w fun e w' => e = .returned (.bool true) ∧ Below w.heap.size w w' := by
  obtain ⟨r, hr, hW⟩ := weight_any l hfit
  obtain ⟨r', hr', hW'⟩ := weight_any l' hfit'
  have HC := Aside0.mk hC
  have HD := Aside0.mk hD
  have HCC := Aside0.mk hc
  have HDD := Aside0.mk hd
  have HM := Aside0.mk hm
  have HWA := Aside0.mk hW
  have HWB := Aside0.mk hW'
  have HLN := Aside0.mk (show l.length = n from hC.1)
  have HBw := Aside0.mk (Below.refl w.heap.size w)
  have hl1 := hC.2.1
  clear hC hD hm hW hW' hc hd hfit hfit'
  by_cases h5 : 5000 < r
  · have b5 : decide (5000 < r) = true := decide_eq_true h5
    clear hr hr' h5
    go_enter Tryd.func3, Tryd.ntmps3
    go_wp2_with (first
      | (go_at_call 6; (with_reducible refine (alive_any _ (pw_cell_below HBw.out HM.out)).mono ?_); rintro e w1 ⟨rfl, hB⟩; have HBn := Aside0.mk (HBw.out.trans (below_sub hB HBw.out.size)); clear HBw hB; have HBw := HBn; clear HBn)
      | (go_at_call 7; (with_reducible refine (HWA.out A n c _ (Kd.C_below HC.out HBw.out) HCC.out).mono ?_); rintro e w1 ⟨rfl, hB⟩; have HBn := Aside0.mk (HBw.out.trans (below_sub hB HBw.out.size)); clear HBw hB; have HBw := HBn; clear HBn))
    go_ret
    exact ⟨rfl, HBw.out⟩
  have b5 : decide (5000 < r) = false := decide_eq_false h5
  by_cases h6 : 5000 < r'
  · have b6 : decide (5000 < r') = true := decide_eq_true h6
    clear hr hr' h5 h6
    go_enter Tryd.func3, Tryd.ntmps3
    go_wp2_with (first
      | (go_at_call 6; (with_reducible refine (alive_any _ (pw_cell_below HBw.out HM.out)).mono ?_); rintro e w1 ⟨rfl, hB⟩; have HBn := Aside0.mk (HBw.out.trans (below_sub hB HBw.out.size)); clear HBw hB; have HBw := HBn; clear HBn)
      | (go_at_call 7; (with_reducible refine (HWA.out A n c _ (Kd.C_below HC.out HBw.out) HCC.out).mono ?_); rintro e w1 ⟨rfl, hB⟩; have HBn := Aside0.mk (HBw.out.trans (below_sub hB HBw.out.size)); clear HBw hB; have HBw := HBn; clear HBn)
      | (go_at_call 7; (with_reducible refine (HWB.out B m d _ (Kd.C_below HD.out HBw.out) HDD.out).mono ?_); rintro e w1 ⟨rfl, hB⟩; have HBn := Aside0.mk (HBw.out.trans (below_sub hB HBw.out.size)); clear HBw hB; have HBw := HBn; clear HBn))
    go_ret
    exact ⟨rfl, HBw.out⟩
  have b6 : decide (5000 < r') = false := decide_eq_false h6
  have HWT := Aside0.mk (show wt l ≤ 1000000 by have := hr (by omega); omega)
  have HWT' := Aside0.mk (show wt l' ≤ 1000000 by have := hr' (by omega); omega)
  clear hr hr' h5 h6
  obtain ⟨vr, hvr⟩ : ∃ x, rightB l = x := ⟨_, rfl⟩
  obtain ⟨vv, hvv⟩ : ∃ x, partsF 200 0 l = x := ⟨_, rfl⟩
  obtain ⟨vt, hvt⟩ : ∃ x, textS l = x := ⟨_, rfl⟩
  obtain ⟨vs, hvs⟩ : ∃ x, eqL l l' = x := ⟨_, rfl⟩
  have HVR := Aside0.mk hvr
  have HVV := Aside0.mk hvv
  have HVT := Aside0.mk hvt
  have HVS := Aside0.mk hvs
  have HAA := Aside0.mk (eqL_yes (rfl : l = l))
  clear hvr hvv hvt hvs
  go_enter Tryd.func3, Tryd.ntmps3
  go_wp2_with (first
    | (go_at_call 6; (with_reducible refine (alive_any _ (pw_cell_below HBw.out HM.out)).mono ?_); rintro e w1 ⟨rfl, hB⟩; have HBn := Aside0.mk (HBw.out.trans (below_sub hB HBw.out.size)); clear HBw hB; have HBw := HBn; clear HBn)
    | (go_at_call 7; (with_reducible refine (HWA.out A n c _ (Kd.C_below HC.out HBw.out) HCC.out).mono ?_); rintro e w1 ⟨rfl, hB⟩; have HBn := Aside0.mk (HBw.out.trans (below_sub hB HBw.out.size)); clear HBw hB; have HBw := HBn; clear HBn)
    | (go_at_call 7; (with_reducible refine (HWB.out B m d _ (Kd.C_below HD.out HBw.out) HDD.out).mono ?_); rintro e w1 ⟨rfl, hB⟩; have HBn := Aside0.mk (HBw.out.trans (below_sub hB HBw.out.size)); clear HBw hB; have HBw := HBn; clear HBn)
    | (go_at_call 8; (with_reducible refine (right_any l HWT.out A n c _ (Kd.C_below HC.out HBw.out) HCC.out).mono ?_); rintro e w1 ⟨rfl, hB⟩; rw [HVR.out]; have HBn := Aside0.mk (HBw.out.trans (below_sub hB HBw.out.size)); clear HBw hB; have HBw := HBn; clear HBn)
    | (go_at_call 9; (with_reducible refine (rright_any l HWT.out A n c _ (Kd.C_below HC.out HBw.out) HCC.out).mono ?_); rintro e w1 ⟨rfl, hB⟩; rw [HVR.out]; have HBn := Aside0.mk (HBw.out.trans (below_sub hB HBw.out.size)); clear HBw hB; have HBw := HBn; clear HBn)
    | (go_at_call 10; (with_reducible refine (value_any l HWT.out A n c _ (Kd.C_below HC.out HBw.out) HCC.out).mono ?_); rintro e w1 ⟨rfl, hB⟩; rw [HVV.out]; have HBn := Aside0.mk (HBw.out.trans (below_sub hB HBw.out.size)); clear HBw hB; have HBw := HBn; clear HBn)
    | (go_at_call 11; (with_reducible refine (rvalue_any l HWT.out A n c _ (Kd.C_below HC.out HBw.out) HCC.out).mono ?_); rintro e w1 ⟨rfl, hB⟩; rw [HVV.out]; have HBn := Aside0.mk (HBw.out.trans (below_sub hB HBw.out.size)); clear HBw hB; have HBw := HBn; clear HBn)
    | (go_at_call 12; (with_reducible refine (text_any l HWT.out A n c _ (Kd.C_below HC.out HBw.out) HCC.out (pw_cell_below HBw.out HM.out)).mono ?_); rintro e w1 ⟨rfl, hB⟩; rw [HVT.out]; have HBn := Aside0.mk (HBw.out.trans (below_sub hB HBw.out.size)); clear HBw hB; have HBw := HBn; clear HBn)
    | (go_at_call 13; (with_reducible refine (rtext_any l HWT.out A n c _ (Kd.C_below HC.out HBw.out) HCC.out).mono ?_); rintro e w1 ⟨rfl, hB⟩; rw [HVT.out]; have HBn := Aside0.mk (HBw.out.trans (below_sub hB HBw.out.size)); clear HBw hB; have HBw := HBn; clear HBn)
    | (go_at_call 14; (with_reducible refine (wsame_n l l' A B n c m d _ (Kd.C_below HC.out HBw.out) HCC.out (Kd.C_below HD.out HBw.out) HDD.out).mono ?_); rintro e w1 ⟨rfl, hB⟩; rw [HVS.out]; have HBn := Aside0.mk (HBw.out.trans (below_sub hB HBw.out.size)); clear HBw hB; have HBw := HBn; clear HBn)
    | (go_at_call 15; (with_reducible refine (rsame_n l l' A B n c m d _ (Kd.C_below HC.out HBw.out) (Kd.C_below HD.out HBw.out)).mono ?_); rintro e w1 ⟨rfl, hB⟩; rw [HVS.out]; have HBn := Aside0.mk (HBw.out.trans (below_sub hB HBw.out.size)); clear HBw hB; have HBw := HBn; clear HBn)
    | (go_at_call 14; (with_reducible refine (wsame_n l l A A n c n c _ (Kd.C_below HC.out HBw.out) HCC.out (Kd.C_below HC.out HBw.out) HCC.out).mono ?_); rintro e w1 ⟨rfl, hB⟩; rw [HAA.out]; have HBn := Aside0.mk (HBw.out.trans (below_sub hB HBw.out.size)); clear HBw hB; have HBw := HBn; clear HBn))
  all_goals
    go_ret
    exact ⟨rfl, HBw.out⟩
end Go.Proofs.YtkecpfjmdokieaaDoor.Word
namespace Go.Proofs.YtkecpfjmdokieaaDoor.Word
open Go
variable {H : Type} {enc : TypeId × Value → H}
theorem change_and_shaped {a : Assume} {C : Checked} {os : Os} {f : FuncId} {fn : Func} {s : ChangeSpec} {conds : List PathCond} {apart fresh handsOn again : Bool} {X : World → Array Value → Prop}
    (hX : ∀ (w w' : World) (args : Array Value), w.heap = w'.heap → X w args → X w' args)
    (own : ownKnob C.prog.godebug = none) (started : os.Started) (noInit : C.prog.inits.idxOf? f = none) (hfn : C.prog.funcs[f]? = some fn)
    (witness : ∃ (w : World) (tape : Tape) (i : Input), w.os = os ∧ (w.forCall tape i).Shaped C.prog ∧ i.vars = [] ∧ Input.okWide C.prog (w.forCall tape i) .any w.heap.size f i ∧
      ((s.pre enc C.prog fn conds apart (w.forCall tape i).memory i.args ∧ X (w.forCall tape i).memory i.args) ∧ sizedMet enc C.prog fn (OpenSpec.ofChange s) apart (w.forCall tape i).memory i.args) ∧ a.holds C.prog (lone (Frame.enter C.prog f i.args .normal) [] (w.forCall tape i)))
    (contract : ∀ (W : World) (base : Nat) (args : Array Value) (ds gs : List (DataW H)) (before : List MemPlace),
      (∀ (j : Nat) t v, fn.params[j]? = some t → args[j]? = some v → Value.okWide C.prog W .any base t v) →
      DataW.Whole enc C.prog fn.params.toList s.vars apart W args.toList ds gs before →
      conds.all (PathCond.test C.prog ⟨fn.params.toList, ds, s.plain.varTypes C.prog, gs⟩) = true →
      (DataW.weightsEach C.prog (fn.params.toList ++ s.plain.varTypes C.prog) (ds ++ gs)).all (· ≤ reachBytes) = true → X W args → W.ShapedOpen C.prog →
      a.holds C.prog (lone (Frame.enter C.prog f args .normal) [] W) →
      Calls C.prog f args W fun e W' => ∃ v, e = .returned v ∧ s.post enc C.prog fn apart fresh handsOn again W args v W') :
    ReturnsInHanded a C os f .any (fun w args => (s.pre enc C.prog fn conds apart w args ∧ X w args) ∧ sizedMet enc C.prog fn (OpenSpec.ofChange s) apart w args) (s.post enc C.prog fn apart fresh handsOn again) := by
  refine returnsInHanded_of_calls own started noInit witness ?_
  intro w tape i _ hsh _ hok hpre hholds
  obtain ⟨_, _, _, fn', hfn', _, _, _, _, hval⟩ := hok
  have e : fn' = fn := Option.some.inj (hfn'.symm.trans hfn)
  subst e
  obtain ⟨⟨⟨ds, gs, before, hw, hc⟩, hx⟩, hz⟩ := hpre
  have hw' := DataW.Whole.of_heap (w' := w.forCall tape i) (by rfl) hw
  refine (contract (w.forCall tape i) w.heap.size i.args ds gs before hval hw' hc (hz.weights hw) (hX _ _ _ (by rfl) hx) hsh hholds).mono fun e W' ⟨v, he, hp⟩ => ?_
  subst he
  exact ChangeSpec.post_blind hp
end Go.Proofs.YtkecpfjmdokieaaDoor.Word
namespace Go.Proofs.YtkecpfjmdokieaaDoor
open Go.RowKit Go.Proofs.YtkecpfjmdokieaaDoorW.PrintWords Go.Proofs.YtkecpfjmdokieaaDoorW.PrintLast
set_option linter.unusedVariables false
theorem maxlen_of {W : World} (h : W.ShapedOpen Tryd.prog) : ∃ m, W.cell? ⟨0, 0, none⟩ = some (.int .i64 m) :=
  cell_of_shapedOpen_int (P := Tryd.prog) (g := 0) (t := 3) (zero := #[.int .i64 0]) h (of_decide_eq_true (by kernel_rfl)) (by kernel_rfl) rfl (by kernel_rfl) (by kernel_rfl) Tryd.underlying3
theorem tells_lawI (l l' : List P.S33) (A B : Option Addr) (n c m d : Nat) (w : World) (hC : Kd.C P.k33 w A n l) (hc : n ≤ c) (hfit : NodeOps.FitWord l) (hD : Kd.C P.k33 w B m l') (hd : m ≤ d) (hfit' : NodeOps.FitWord l') (h : w.ShapedOpen Tryd.prog) :
    Calls Tryd.prog 3 #[.slice A n c, .slice B m d] w fun e w' => e = .returned (.bool true) ∧ Below w.heap.size w w' := by
  obtain ⟨mx, hm⟩ := maxlen_of h
  exact Word.tells_law l l' A B n c m d w hC hc hfit hD hd hfit' hm
namespace RowWordTells
open Go.ChangeShapes Go.WideShapes Go.ChangeAt Go.RowKit
open Go.ChangeMaps (open_string shut_string)
theorem own : ownKnob Tryd.prog.godebug = none := by kernel_rfl
theorem laidOut : laidOutB Tryd.prog = true := by kernel_rfl
set_option maxRecDepth 100000 in
theorem lifted (os : Os) (started : os.Started) (H : Type) (enc : TypeId × Value → H) :
    ReturnsInHanded {} Tryd.checked os 3 .any (fun w args => (Rows.wordTellsSpec.pre enc Tryd.prog Tryd.f3 Rows.wordTellsRow.domain false w args ∧ laidMetH Tryd.prog Rows.wordTellsRow.laid w) ∧ sizedMet enc Tryd.prog Tryd.f3 (OpenSpec.ofChange Rows.wordTellsSpec) false w args) (Rows.wordTellsSpec.post enc Tryd.prog Tryd.f3 false true false false) := by
  refine Word.change_and_shaped (C := Tryd.checked) (X := (fun w _ => laidMetH Tryd.prog Rows.wordTellsRow.laid w)) (fun _ _ _ hh h => h.of_heap hh) own started (by kernel_rfl) Tryd.func3
    (ChangeSpec.witness_shaped (enc := enc) (C := Tryd.checked) (os := os) (X := (fun w _ => laidMetH Tryd.prog Rows.wordTellsRow.laid w)) false (World.laidAll Tryd.prog os Rows.wordTellsRow.laid) #[.slice none 0 0, .slice none 0 0] 8 (World.laidAll_os _ _ _)
      (World.shaped_of_ZipB (by kernel_rfl) (by kernel_rfl)) (by kernel_rfl) (by kernel_rfl) (by kernel_rfl)
      (by rw [MakeChecks.laidMetH_plain _ _ _ (by kernel_rfl)]; exact laidMet_laidAll _ (by kernel_rfl) (by kernel_rfl))) ?_
  intro W base args ds gs before hval0 hW hcnd hsz0 hL hSh _
  have hsz : (DataW.weightsEach Tryd.prog (Tryd.f3.params.toList ++ Rows.wordTellsSpec.plain.varTypes Tryd.prog) (ds ++ gs)).all (· ≤ reachBytes) = true := hsz0
  have hval : ∀ (j : Nat) t v, Tryd.f3.params[j]? = some t → args[j]? = some v → Value.okWide Tryd.prog W .any base t v := hval0
  have hW' := hW
  obtain ⟨p, q, hA0, hV, rfl, hfz, hnd⟩ := hW
  have hA : DataW.TrodAll enc Tryd.prog W 0 (fun _ => true) true Tryd.f3.params.toList args.toList ds p := hA0
  rw [Tryd.params3] at hA hval hsz
  obtain ⟨v0, vs0, d0, ds0, p0, q0, hargs, rfl, rfl, h0, r0⟩ := trodAll_cons hA
  obtain ⟨v1, vs1, d1, ds1, p1, q1, rfl, rfl, rfl, h1, r1⟩ := trodAll_cons r0
  obtain ⟨rfl, rfl, rfl⟩ := trodAll_nil r1
  obtain rfl : args = #[v0, v1] := by cases args; simp_all
  obtain ⟨rfl, rfl⟩ := trodVars_none hV
  obtain ⟨a0, n0, c0, rfl⟩ := okWide_slice Tryd.underlying23 (hval 0 23 v0 rfl rfl)
  have t0 := h0
  have lt0 : ∀ x ∈ p0, x.block < W.heap.size := by obtain ⟨m, hm⟩ := t0; exact DataW.trod_lt m _ _ _ hm
  have z0 : ∀ n ∈ d0.weights Tryd.prog 23, n ≤ reachBytes := fun n hn => by simpa using List.all_eq_true.1 hsz n (DataW.weights_mem_each (j := 0) rfl rfl n hn)
  obtain ⟨l0, C0, k0, V0⟩ := Open.open_sl (NodeOps.op_word W) h0 z0
  obtain ⟨a1, n1, c1, rfl⟩ := okWide_slice Tryd.underlying23 (hval 1 23 v1 rfl rfl)
  have t1 := h1
  have lt1 : ∀ x ∈ p1, x.block < W.heap.size := by obtain ⟨m, hm⟩ := t1; exact DataW.trod_lt m _ _ _ hm
  have z1 : ∀ n ∈ d1.weights Tryd.prog 23, n ≤ reachBytes := fun n hn => by simpa using List.all_eq_true.1 hsz n (DataW.weights_mem_each (j := 1) rfl rfl n hn)
  obtain ⟨l1, C1, k1, V1⟩ := Open.open_sl (NodeOps.op_word W) h1 z1
  clear hA0 hval0 hsz0 hsz
  refine (tells_lawI l0 l1 _ _ _ _ _ _ W C0 k0 V0 C1 k1 V1 hSh).mono fun e W' ⟨he, bel⟩ => ?_
  subst he
  exact ⟨_, rfl, _, _, _, [], _, [], hW', trodAll_mk1 (shut_bool Tryd.underlying4 _), (trodAll_cons_mk (Below.trod laidOut (by kernel_rfl) (of_decide_eq_true (by kernel_rfl)) t0 bel lt0) (trodAll_cons_mk (Below.trod laidOut (by kernel_rfl) (of_decide_eq_true (by kernel_rfl)) t1 bel lt1) trodAll_mk0)), rfl, bel.frame _, fun h => by cases h⟩
theorem proved : Rows.WordTellsSaid :=
  OpenClaim.holds_of_wide 3 Tryd.f3 rfl rfl rfl rfl rfl rfl rfl ⟨rfl, rfl, rfl, rfl, rfl⟩ rfl rfl rfl rfl rfl (by kernel_rfl) Tryd.func3 (by kernel_rfl)
    (of_decide_eq_true (by kernel_rfl)) (by unfold Func.isWrapper; first | (rw [if_pos (by decide +kernel)]; kernel_rfl) | (rw [if_neg (by decide +kernel)]; exact ⟨rfl, rfl⟩))
    (fun os started H enc _ => lifted os started H enc)
end RowWordTells
theorem wordTells_holds : Rows.WordTellsSaid := RowWordTells.proved
theorem wordTells_card_holds : Rows.WordTellsCardSaid :=
  Claim7.holds_tied_plain_at .later [] [.data, .pinned] true (true, "d7c8ea5a395ae472993517a0e6983a3ca7ffa6d3b7f4a3261fa0a56531d6764a") false wordTells_holds (fun _ h => by cases h) (by kernel_rfl) (fun _ h => by cases h) wordTells_row_tie rfl ⟨rfl, rfl⟩ (by kernel_rfl) rfl
    (fun f fn hf hfn => by
      obtain rfl : f = 3 := Option.some.inj ((show Tryd.prog.funcNamed "deadfall/deadfalllaw03.WordTells" = some 3 by kernel_rfl).symm.trans hf) |>.symm
      obtain rfl : fn = Tryd.f3 := (Option.some.inj (Tryd.func3.symm.trans hfn)).symm
      exact ⟨by kernel_rfl, fun j t ht => by
        rw [Tryd.params3] at ht
        have hm : t ∈ [23, 23] := by simpa using Array.mem_of_getElem? ht
        have hall : ([23, 23].all fun u => !Tryd.prog.wantsStandIn u) = true := by kernel_rfl
        exact (show Tryd.prog.wantsStandIn t = false by simpa using List.all_eq_true.1 hall t hm)⟩)
    (by kernel_rfl)
#print axioms wordTells_card_holds
end Go.Proofs.YtkecpfjmdokieaaDoor
