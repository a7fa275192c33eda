-- printed by a program of this session (wip/pp): a Lean function and a proof for each Go function
import Derived.Test.YtbgodajbdbgdfaaDoorR0
namespace Go.Proofs.YtbgodajbdbgdfaaDoor.R
open Go.RowKit Go.Proofs.YtbgodajbdbgdfaaDoorW.PrintWords Go.Proofs.YtbgodajbdbgdfaaDoorW.PrintLast Go.Proofs.YtbgodajbdbgdfaaDoorW.PrintMore
attribute [local go_sem] max2_int min2_int max_two min_two max_three min_three max_four min_four   -- for this text's walks alone
set_option linter.unusedVariables false
set_option linter.unusedSimpArgs false

/-! ### sig_Is: function 48 -/
def sig_Is.f (a0 : Int) : Option (Bool) := if a0 > 0 then (some (decide (a0 < 32))) else (some false)
set_option maxHeartbeats 8000000 in
set_option maxRecDepth 100000 in
theorem sig_Is.calls (a0 : Int) (r : Bool) (w : World) (h : sig_Is.f a0 = some r) :
    Calls Tryd.prog 48 #[.int .i64 a0] w fun e w' => e = .returned (.bool r) ∧ Drawn0 w w' := by
  have H : (if a0 > 0 then (some (decide (a0 < 32))) else (some false)) = some r := h
  clear h
  by_cases c2 : a0 > 0
  · rw [if_pos c2] at H
    have c2b0 : decide (0 < a0) = true := decide_eq_true c2
    clear c2
    obtain rfl := Option.some.inj H
    go_enter Tryd.func48, Tryd.ntmps48
    go_wp2
    go_ret
    exact ⟨by first | rfl | (simp; done) | (simp [*]; done), by repeat (first | exact Drawn0.refl _ | apply Drawn0.step)⟩
  · rw [if_neg c2] at H
    have c2b0 : decide (0 < a0) = false := decide_eq_false c2
    clear c2
    obtain rfl := Option.some.inj H
    go_enter Tryd.func48, Tryd.ntmps48
    go_wp2
    go_ret
    exact ⟨by first | rfl | (simp; done) | (simp [*]; done), by repeat (first | exact Drawn0.refl _ | apply Drawn0.step)⟩

/-- THE ONE PURE STATEMENT of sig_Is: yours. -/
def sig_Is.Pure : Prop := ∀ (a0 : Int), (Lit.int .i64 a0).wf = true → sig_Is.f a0 = some true
theorem sig_Is.walk (P : sig_Is.Pure) (a0 : Int) (w : World) (w0 : (Lit.int .i64 a0).wf = true) :
    Calls Tryd.prog 48 #[.int .i64 a0] w fun e w' => e = .returned (.bool true) ∧ Below w.heap.size w w' := by
  have h := P a0 w0
  refine (sig_Is.calls a0 true w h).mono ?_
  rintro e w' ⟨rfl, hd⟩
  exact ⟨rfl, hd.below⟩

/-! ### sig_Mild: function 50 -/
def sig_Mild.f (a0 : Int) : Option (Bool) := if a0 = 17 then (some true) else (if a0 = 18 then (some true) else (if a0 = 23 then (some true) else (some (a0 == 28))))
set_option maxHeartbeats 8000000 in
set_option maxRecDepth 100000 in
theorem sig_Mild.calls (a0 : Int) (r : Bool) (w : World) (h : sig_Mild.f a0 = some r) :
    Calls Tryd.prog 50 #[.int .i64 a0] w fun e w' => e = .returned (.bool r) ∧ Drawn0 w w' := by
  have H : (if a0 = 17 then (some true) else (if a0 = 18 then (some true) else (if a0 = 23 then (some true) else (some (a0 == 28))))) = some r := h
  clear h
  by_cases c2 : a0 = 17
  · rw [if_pos c2] at H
    have c2b0 : (a0 == 17) = true := beq_iff_eq.mpr c2
    have c2b1 : (a0 != 17) = false := bne_eq_false_iff_eq.mpr c2
    clear c2
    obtain rfl := Option.some.inj H
    go_enter Tryd.func50, Tryd.ntmps50
    go_wp2
    go_ret
    exact ⟨by first | rfl | (simp; done) | (simp [*]; done), by repeat (first | exact Drawn0.refl _ | apply Drawn0.step)⟩
  · rw [if_neg c2] at H
    have c2b0 : (a0 == 17) = false := beq_eq_false_iff_ne.mpr c2
    have c2b1 : (a0 != 17) = true := bne_iff_ne.mpr c2
    by_cases c3 : a0 = 18
    · rw [if_pos c3] at H
      have c3b0 : (a0 == 18) = true := beq_iff_eq.mpr c3
      have c3b1 : (a0 != 18) = false := bne_eq_false_iff_eq.mpr c3
      clear c3
      obtain rfl := Option.some.inj H
      go_enter Tryd.func50, Tryd.ntmps50
      go_wp2
      go_ret
      exact ⟨by first | rfl | (simp; done) | (simp [*]; done), by repeat (first | exact Drawn0.refl _ | apply Drawn0.step)⟩
    · rw [if_neg c3] at H
      have c3b0 : (a0 == 18) = false := beq_eq_false_iff_ne.mpr c3
      have c3b1 : (a0 != 18) = true := bne_iff_ne.mpr c3
      by_cases c4 : a0 = 23
      · rw [if_pos c4] at H
        have c4b0 : (a0 == 23) = true := beq_iff_eq.mpr c4
        have c4b1 : (a0 != 23) = false := bne_eq_false_iff_eq.mpr c4
        clear c4
        obtain rfl := Option.some.inj H
        go_enter Tryd.func50, Tryd.ntmps50
        go_wp2
        go_ret
        exact ⟨by first | rfl | (simp; done) | (simp [*]; done), by repeat (first | exact Drawn0.refl _ | apply Drawn0.step)⟩
      · rw [if_neg c4] at H
        have c4b0 : (a0 == 23) = false := beq_eq_false_iff_ne.mpr c4
        have c4b1 : (a0 != 23) = true := bne_iff_ne.mpr c4
        obtain rfl := Option.some.inj H
        go_enter Tryd.func50, Tryd.ntmps50
        go_wp2
        go_ret
        exact ⟨by first | rfl | (simp; done) | (simp [*]; done), by repeat (first | exact Drawn0.refl _ | apply Drawn0.step)⟩

/-- THE ONE PURE STATEMENT of sig_Mild: yours. -/
def sig_Mild.Pure : Prop := ∀ (a0 : Int), (Lit.int .i64 a0).wf = true → sig_Mild.f a0 = some true
theorem sig_Mild.walk (P : sig_Mild.Pure) (a0 : Int) (w : World) (w0 : (Lit.int .i64 a0).wf = true) :
    Calls Tryd.prog 50 #[.int .i64 a0] w fun e w' => e = .returned (.bool true) ∧ Below w.heap.size w w' := by
  have h := P a0 w0
  refine (sig_Mild.calls a0 true w h).mono ?_
  rintro e w' ⟨rfl, hd⟩
  exact ⟨rfl, hd.below⟩

/-! ### sig_Fixed: function 33 -/
def sig_Fixed.f (a0 : Int) : Option (Bool) := if a0 = 9 then (some true) else (some (a0 == 19))
set_option maxHeartbeats 8000000 in
set_option maxRecDepth 100000 in
theorem sig_Fixed.calls (a0 : Int) (r : Bool) (w : World) (h : sig_Fixed.f a0 = some r) :
    Calls Tryd.prog 33 #[.int .i64 a0] w fun e w' => e = .returned (.bool r) ∧ Drawn0 w w' := by
  have H : (if a0 = 9 then (some true) else (some (a0 == 19))) = some r := h
  clear h
  by_cases c2 : a0 = 9
  · rw [if_pos c2] at H
    have c2b0 : (a0 == 9) = true := beq_iff_eq.mpr c2
    have c2b1 : (a0 != 9) = false := bne_eq_false_iff_eq.mpr c2
    clear c2
    obtain rfl := Option.some.inj H
    go_enter Tryd.func33, Tryd.ntmps33
    go_wp2
    go_ret
    exact ⟨by first | rfl | (simp; done) | (simp [*]; done), by repeat (first | exact Drawn0.refl _ | apply Drawn0.step)⟩
  · rw [if_neg c2] at H
    have c2b0 : (a0 == 9) = false := beq_eq_false_iff_ne.mpr c2
    have c2b1 : (a0 != 9) = true := bne_iff_ne.mpr c2
    obtain rfl := Option.some.inj H
    go_enter Tryd.func33, Tryd.ntmps33
    go_wp2
    go_ret
    exact ⟨by first | rfl | (simp; done) | (simp [*]; done), by repeat (first | exact Drawn0.refl _ | apply Drawn0.step)⟩

/-- THE ONE PURE STATEMENT of sig_Fixed: yours. -/
def sig_Fixed.Pure : Prop := ∀ (a0 : Int), (Lit.int .i64 a0).wf = true → sig_Fixed.f a0 = some true
theorem sig_Fixed.walk (P : sig_Fixed.Pure) (a0 : Int) (w : World) (w0 : (Lit.int .i64 a0).wf = true) :
    Calls Tryd.prog 33 #[.int .i64 a0] w fun e w' => e = .returned (.bool true) ∧ Below w.heap.size w w' := by
  have h := P a0 w0
  refine (sig_Fixed.calls a0 true w h).mono ?_
  rintro e w' ⟨rfl, hd⟩
  exact ⟨rfl, hd.below⟩

/-! ### deadfallref01_Is: function 51 -/
def deadfallref01_Is.f (a0 : Int) : Option (Bool) := if a0 ≥ 1 then (some (decide (a0 ≤ 31))) else (some false)
set_option maxHeartbeats 8000000 in
set_option maxRecDepth 100000 in
theorem deadfallref01_Is.calls (a0 : Int) (r : Bool) (w : World) (h : deadfallref01_Is.f a0 = some r) :
    Calls Tryd.prog 51 #[.int .i64 a0] w fun e w' => e = .returned (.bool r) ∧ Drawn0 w w' := by
  have H : (if a0 ≥ 1 then (some (decide (a0 ≤ 31))) else (some false)) = some r := h
  clear h
  by_cases c2 : a0 ≥ 1
  · rw [if_pos c2] at H
    have c2b0 : decide (1 ≤ a0) = true := decide_eq_true c2
    clear c2
    obtain rfl := Option.some.inj H
    go_enter Tryd.func51, Tryd.ntmps51
    go_wp2
    go_ret
    exact ⟨by first | rfl | (simp; done) | (simp [*]; done), by repeat (first | exact Drawn0.refl _ | apply Drawn0.step)⟩
  · rw [if_neg c2] at H
    have c2b0 : decide (1 ≤ a0) = false := decide_eq_false c2
    clear c2
    obtain rfl := Option.some.inj H
    go_enter Tryd.func51, Tryd.ntmps51
    go_wp2
    go_ret
    exact ⟨by first | rfl | (simp; done) | (simp [*]; done), by repeat (first | exact Drawn0.refl _ | apply Drawn0.step)⟩

/-- THE ONE PURE STATEMENT of deadfallref01_Is: yours. -/
def deadfallref01_Is.Pure : Prop := ∀ (a0 : Int), (Lit.int .i64 a0).wf = true → deadfallref01_Is.f a0 = some true
theorem deadfallref01_Is.walk (P : deadfallref01_Is.Pure) (a0 : Int) (w : World) (w0 : (Lit.int .i64 a0).wf = true) :
    Calls Tryd.prog 51 #[.int .i64 a0] w fun e w' => e = .returned (.bool true) ∧ Below w.heap.size w w' := by
  have h := P a0 w0
  refine (deadfallref01_Is.calls a0 true w h).mono ?_
  rintro e w' ⟨rfl, hd⟩
  exact ⟨rfl, hd.below⟩

end Go.Proofs.YtbgodajbdbgdfaaDoor.R
