/- pattern.Match and pattern.Plain, as if printed. -/
import Derived.Test.YtkepmbkghmkodaaPatPlain
namespace Go.Proofs.Ytkepmbkghmkodaa.P
open Go.RowKit Go.Proofs.YtkepmbkghmkodaaW.PrintWords Go.Proofs.YtkepmbkghmkodaaW.PrintLast Go.Proofs.Ytkepmbkghmkodaa.Base Go.Proofs.Ytkepmbkghmkodaa.Pat
set_option linter.unusedVariables false
def pattern_Match.f (l0 : List S26) (a1 : ByteArray) : Option Bool := if psz l0 ≤ 1000000 then (if a1.size ≤ 1000000 then some (matchB (thingsL (charsL l0)) a1) else none) else none
theorem pattern_Match.calls (A0 : Option Addr) (c0 : Nat) (l0 : List S26) (a1 : ByteArray) (r : Bool) (w : World) (hr0 : Kd.C k26 w A0 l0.length l0) (hc0 : l0.length ≤ c0) (h : pattern_Match.f l0 a1 = some r) :
    Calls Try.prog 45 #[.slice A0 l0.length c0, .string a1] w fun e w' => e = .returned (.bool r) ∧ Below w.heap.size w w' := by
  unfold pattern_Match.f at h
  split at h
  · rename_i h1
    split at h
    · rename_i h2
      injection h with h
      subst h
      obtain ⟨k, hk⟩ := chars_f l0 h1
      have h3 := chars_len l0
      have h4 := things_len _ (charsL l0) (Nat.le_refl _)
      exact match_body A0 c0 l0 a1 _ k hk w hr0 hc0 (by omega) (chars_byte l0) h2 _ rfl (by omega)
    · cases h
  · cases h
def pattern_Plain.f (l0 : List S26) : Option Bool := if psz l0 ≤ 1000000 then some (plainB (thingsL (charsL l0))) else none
theorem pattern_Plain.calls (A0 : Option Addr) (c0 : Nat) (l0 : List S26) (r : Bool) (w : World) (hr0 : Kd.C k26 w A0 l0.length l0) (hc0 : l0.length ≤ c0) (h : pattern_Plain.f l0 = some r) :
    Calls Try.prog 47 #[.slice A0 l0.length c0] w fun e w' => e = .returned (.bool r) ∧ Below w.heap.size w w' := by
  unfold pattern_Plain.f at h
  split at h
  · rename_i h1
    injection h with h
    subst h
    obtain ⟨k, hk⟩ := chars_f l0 h1
    have h3 := chars_len l0
    have h4 := things_len _ (charsL l0) (Nat.le_refl _)
    exact plain_body A0 c0 l0 _ k hk w hr0 hc0 (by omega) (chars_byte l0) _ rfl (by omega)
  · cases h
end Go.Proofs.Ytkepmbkghmkodaa.P
