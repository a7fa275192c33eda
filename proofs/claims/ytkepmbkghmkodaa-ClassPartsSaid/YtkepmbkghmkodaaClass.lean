/- class: contracts. -/
import Derived.Test.YtkepmbkghmkodaaBase
namespace Go.Proofs.Ytkepmbkghmkodaa.Class
open Go.RowKit Go.Proofs.YtkepmbkghmkodaaW.PrintWords Go.Proofs.YtkepmbkghmkodaaW.PrintLast Go.Proofs.Ytkepmbkghmkodaa.Base
set_option linter.unusedVariables false
set_option linter.unusedSimpArgs false
def blankB (c : Int) : Bool := c == 32 || c == 9
def breakB (c : Int) : Bool := blankB c || c == 10
set_option maxHeartbeats 400000 in
theorem blank_any (c : Int) (w : World) : Calls Try.prog 52 #[.int .u8 c] w fun e w' => e = .returned (.bool (blankB c)) ∧ w = w' := by
  unfold blankB
  by_cases h : (c == 32) = true
  · go_enter Try.func52, Try.ntmps52
    go_wp2
    go_ret
    exact ⟨by simp [h], rfl⟩
  · replace h := Bool.eq_false_iff.mpr h
    go_enter Try.func52, Try.ntmps52
    go_wp2
    go_ret
    exact ⟨by simp [h], rfl⟩
set_option maxHeartbeats 400000 in
theorem break_any (c : Int) (w : World) : Calls Try.prog 18 #[.int .u8 c] w fun e w' => e = .returned (.bool (breakB c)) ∧ w = w' := by
  unfold breakB
  by_cases h : blankB c = true
  · go_enter Try.func18, Try.ntmps18
    go_wp2_with (go_at_call 52; refine (blank_any _ _).mono ?_; rintro e w' ⟨rfl, rfl⟩)
    go_ret
    exact ⟨by simp [h], rfl⟩
  · replace h := Bool.eq_false_iff.mpr h
    go_enter Try.func18, Try.ntmps18
    go_wp2_with (go_at_call 52; refine (blank_any _ _).mono ?_; rintro e w' ⟨rfl, rfl⟩)
    go_ret
    exact ⟨by simp [h], rfl⟩
end Go.Proofs.Ytkepmbkghmkodaa.Class
