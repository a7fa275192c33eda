/- sig: what a seat without the names needs: Is, Mild, Fixed: their contracts. -/
import Derived.Test.YtbgodajbdbgdfaaDoorProg
import Derived.Test.YtbgodajbdbgdfaaDoorWWords
import Derived.Test.YtbgodajbdbgdfaaDoorWLast
import Derived.Test.YtbgodajbdbgdfaaDoorWTab
import Derived.Test.YtbgodajbdbgdfaaDoorShelf
import Derived.Test.YtbgodajbdbgdfaaDoorR1
import Derived.WalkKit
import Derived.KernelRfl
import Derived.RowKit3
import Derived.Deep.LoopGhost
import Derived.Deep.QuietTactic
import Derived.BigQuiet
import Derived.WideLaws
import Derived.Deep.DeepCutAuto
import Derived.Deep.CutBlock
namespace Go.Proofs.YtbgodajbdbgdfaaDoor.Num
open Go.RowKit Go.Proofs.YtbgodajbdbgdfaaDoorW.PrintWords Go.Proofs.YtbgodajbdbgdfaaDoorW.PrintLast
theorem below_trans {B : Nat} {w w1 w2 : World} (h : Below B w w1) (k : Below B w1 w2) : Below B w w2 := h.trans k
theorem below_sub {B B' : Nat} {w w1 : World} (h : Below B w w1) (hB : B' ≤ B) : Below B' w w1 := ⟨h.os, h.tape, h.output, h.size, fun i hi => h.block i (Nat.lt_of_lt_of_le hi hB)⟩
end Go.Proofs.YtbgodajbdbgdfaaDoor.Num
namespace Go.Proofs.YtbgodajbdbgdfaaDoor.Sig
open Go.RowKit Go.Proofs.YtbgodajbdbgdfaaDoorW.PrintWords Go.Proofs.YtbgodajbdbgdfaaDoorW.PrintLast Go.Proofs.YtbgodajbdbgdfaaDoor.R Go.Proofs.YtbgodajbdbgdfaaDoor.Num
set_option linter.unusedVariables false
set_option linter.unusedSimpArgs false
theorem is_any (v : Int) (w : World) : Calls Tryd.prog 48 #[.int .i64 v] w fun e w' => e = .returned (.bool (decide (0 < v) && decide (v < 32))) ∧ Below w.heap.size w w' := by
  have h : sig_Is.f v = some (decide (0 < v) && decide (v < 32)) := by
    unfold sig_Is.f
    by_cases h0 : v > 0
    · rw [if_pos h0, decide_eq_true (show 0 < v from h0), Bool.true_and]
    · rw [if_neg h0, decide_eq_false (show ¬ 0 < v from h0), Bool.false_and]
  exact (sig_Is.calls v _ w h).mono fun e w' h => ⟨h.1, h.2.below⟩
theorem ris_any (s : Int) (w : World) : Calls Tryd.prog 51 #[.int .i64 s] w fun e w' => e = .returned (.bool (decide (0 < s) && decide (s < 32))) ∧ Below w.heap.size w w' := by
  have h : deadfallref01_Is.f s = some (decide (0 < s) && decide (s < 32)) := by
    unfold deadfallref01_Is.f
    by_cases h0 : s ≥ 1
    · rw [if_pos h0, decide_eq_true (show 0 < s by omega), Bool.true_and]
      congr 1
      rw [Bool.eq_iff_iff, decide_eq_true_eq, decide_eq_true_eq]; omega
    · rw [if_neg h0, decide_eq_false (show ¬ 0 < s by omega), Bool.false_and]
  exact (deadfallref01_Is.calls s _ w h).mono fun e w' h => ⟨h.1, h.2.below⟩
def mild (s : Int) : Bool := s == 17 || s == 18 || s == 23 || s == 28
def fixed (s : Int) : Bool := s == 9 || s == 19
theorem mild_f (s : Int) : sig_Mild.f s = some (mild s) := by
  unfold sig_Mild.f mild
  by_cases h1 : s = 17
  · subst h1; rfl
  · by_cases h2 : s = 18
    · subst h2; rfl
    · by_cases h3 : s = 23
      · subst h3; rfl
      · rw [if_neg h1, if_neg h2, if_neg h3, beq_eq_false_iff_ne.2 h1, beq_eq_false_iff_ne.2 h2, beq_eq_false_iff_ne.2 h3]
        simp
theorem fixed_f (s : Int) : sig_Fixed.f s = some (fixed s) := by
  unfold sig_Fixed.f fixed
  by_cases h1 : s = 9
  · subst h1; rfl
  · rw [if_neg h1, beq_eq_false_iff_ne.2 h1]
    simp
theorem smild_any (s : Int) (w : World) : Calls Tryd.prog 50 #[.int .i64 s] w fun e w' => e = .returned (.bool (mild s)) ∧ Below w.heap.size w w' := (sig_Mild.calls s _ w (mild_f s)).mono fun e w' h => ⟨h.1, h.2.below⟩
theorem sfixed_any (s : Int) (w : World) : Calls Tryd.prog 33 #[.int .i64 s] w fun e w' => e = .returned (.bool (fixed s)) ∧ Below w.heap.size w w' := (sig_Fixed.calls s _ w (fixed_f s)).mono fun e w' h => ⟨h.1, h.2.below⟩
end Go.Proofs.YtbgodajbdbgdfaaDoor.Sig
