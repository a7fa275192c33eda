/- class: the laws' own example. -/
import Derived.Test.YtkepmbkghmkodaaClassRef
namespace Go.Proofs.Ytkepmbkghmkodaa.Class
open Go.RowKit Go.Proofs.YtkepmbkghmkodaaW.PrintWords Go.Proofs.YtkepmbkghmkodaaW.PrintLast Go.Proofs.Ytkepmbkghmkodaa.Base
set_option linter.unusedVariables false
set_option maxHeartbeats 1000000 in
set_option maxRecDepth 100000 in
theorem alive_any (w : World) : Calls Try.prog 51 #[] w fun e w' => e = .returned (.bool true) ∧ Below w.heap.size w w' := by
  go_enter Try.func51, Try.ntmps51
  go_wp2_with fail
  refine (name_any _ _ (by decide)).mono ?_
  rintro e w' ⟨rfl, rfl⟩
  rw [show nameB ⟨#[95, 97, 49]⟩ = true by kernel_rfl]
  go_wp2_with fail
  refine (name_any _ _ (by decide)).mono ?_
  rintro e w' ⟨rfl, rfl⟩
  rw [show nameB ⟨#[49, 97]⟩ = false by kernel_rfl]
  go_wp2_with fail
  refine (param_any _ _ (by decide)).mono ?_
  rintro e w1 ⟨rfl, hB⟩
  have HB := Aside0.mk hB
  clear hB
  rw [show paramB ⟨#[49, 48]⟩ = true by kernel_rfl]
  go_wp2_with fail
  refine (param_any _ _ (by decide)).mono ?_
  rintro e w2 ⟨rfl, hB⟩
  have HB2 := Aside0.mk (below_trans HB.out (below_sub hB HB.out.size))
  clear hB
  rw [show paramB ⟨#[48, 49]⟩ = false by kernel_rfl]
  go_wp2
  go_ret
  exact ⟨rfl, HB2.out⟩
end Go.Proofs.Ytkepmbkghmkodaa.Class
