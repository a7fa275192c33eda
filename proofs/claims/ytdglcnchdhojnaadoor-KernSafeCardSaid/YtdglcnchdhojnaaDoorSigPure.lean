/- sig: names, numbers, and what a text means: in plain words. -/
import Derived.Lib.SlicesS
import Derived.Lib.AtoiAllCases
import Derived.Lib.ItoaNum
namespace Go.Proofs.YtdglcnchdhojnaaDoor.Sig
open Go.Lib
set_option linter.unusedVariables false
set_option linter.unusedSimpArgs false
def NM : List ByteArray := [⟨#[]⟩, ⟨#[72, 85, 80]⟩, ⟨#[73, 78, 84]⟩, ⟨#[81, 85, 73, 84]⟩, ⟨#[73, 76, 76]⟩, ⟨#[84, 82, 65, 80]⟩, ⟨#[65, 66, 82, 84]⟩, ⟨#[66, 85, 83]⟩, ⟨#[70, 80, 69]⟩, ⟨#[75, 73, 76, 76]⟩, ⟨#[85, 83, 82, 49]⟩, ⟨#[83, 69, 71, 86]⟩, ⟨#[85, 83, 82, 50]⟩, ⟨#[80, 73, 80, 69]⟩, ⟨#[65, 76, 82, 77]⟩, ⟨#[84, 69, 82, 77]⟩, ⟨#[83, 84, 75, 70, 76, 84]⟩, ⟨#[67, 72, 76, 68]⟩, ⟨#[67, 79, 78, 84]⟩, ⟨#[83, 84, 79, 80]⟩, ⟨#[84, 83, 84, 80]⟩, ⟨#[84, 84, 73, 78]⟩, ⟨#[84, 84, 79, 85]⟩, ⟨#[85, 82, 71]⟩, ⟨#[88, 67, 80, 85]⟩, ⟨#[88, 70, 83, 90]⟩, ⟨#[86, 84, 65, 76, 82, 77]⟩, ⟨#[80, 82, 79, 70]⟩, ⟨#[87, 73, 78, 67, 72]⟩, ⟨#[73, 79]⟩, ⟨#[80, 87, 82]⟩, ⟨#[83, 89, 83]⟩]
def nm (s : Nat) : ByteArray := NM.getD s ByteArray.empty
def dg (s : Nat) : ByteArray := ⟨(decDigits s).toArray⟩
/-- The first signal from s on, d of them, whose name or number the text is. -/
def fnd (t : ByteArray) : Nat → Nat → Int
  | 0, _ => 0
  | d + 1, s => if t = nm s ∨ t = dg s then (s : Int) else fnd t d (s + 1)
def num (t : ByteArray) : Int := fnd t 31 1
theorem fnd_none (t : ByteArray) : ∀ (d s : Nat), (∀ j, s ≤ j → j < s + d → t ≠ nm j ∧ t ≠ dg j) → fnd t d s = 0
  | 0, s, _ => rfl
  | d + 1, s, h => by
    show (if t = nm s ∨ t = dg s then (s : Int) else fnd t d (s + 1)) = 0
    have h0 := h s (Nat.le_refl _) (by omega)
    rw [if_neg (by rintro (e | e); exact h0.1 e; exact h0.2 e)]
    exact fnd_none t d (s + 1) (fun j h1 h2 => h j (by omega) (by omega))
/-- A number's digits, by a reckoning that the kernel can follow. -/
def dgT : List ByteArray := [⟨#[]⟩, ⟨#[49]⟩, ⟨#[50]⟩, ⟨#[51]⟩, ⟨#[52]⟩, ⟨#[53]⟩, ⟨#[54]⟩, ⟨#[55]⟩, ⟨#[56]⟩, ⟨#[57]⟩, ⟨#[49, 48]⟩, ⟨#[49, 49]⟩, ⟨#[49, 50]⟩, ⟨#[49, 51]⟩, ⟨#[49, 52]⟩, ⟨#[49, 53]⟩, ⟨#[49, 54]⟩, ⟨#[49, 55]⟩, ⟨#[49, 56]⟩, ⟨#[49, 57]⟩, ⟨#[50, 48]⟩, ⟨#[50, 49]⟩, ⟨#[50, 50]⟩, ⟨#[50, 51]⟩, ⟨#[50, 52]⟩, ⟨#[50, 53]⟩, ⟨#[50, 54]⟩, ⟨#[50, 55]⟩, ⟨#[50, 56]⟩, ⟨#[50, 57]⟩, ⟨#[51, 48]⟩, ⟨#[51, 49]⟩]
theorem dec_two (u : Nat) (h : u < 100) : decDigits u = if u < 10 then [UInt8.ofNat (48 + u)] else [UInt8.ofNat (48 + u / 10), UInt8.ofNat (48 + u % 10)] := by
  by_cases h9 : u < 10
  · rw [decDigits, dif_pos h9, if_pos h9]
  · rw [decDigits, dif_neg h9, if_neg h9, decDigits, dif_pos (by omega)]
    rfl
theorem dg_tab (s : Nat) (h1 : 1 ≤ s) (h2 : s ≤ 31) : dg s = dgT.getD s ByteArray.empty := by
  unfold dg
  rw [dec_two s (by omega)]
  have key : ∀ i : Fin 31, (⟨(if i.val + 1 < 10 then [UInt8.ofNat (48 + (i.val + 1))] else [UInt8.ofNat (48 + (i.val + 1) / 10), UInt8.ofNat (48 + (i.val + 1) % 10)]).toArray⟩ : ByteArray) = dgT.getD (i.val + 1) ByteArray.empty := by decide +kernel
  have := key ⟨s - 1, by omega⟩
  rw [show s - 1 + 1 = s by omega] at this
  exact this
def fndT (t : ByteArray) : Nat → Nat → Int
  | 0, _ => 0
  | d + 1, s => if t = nm s ∨ t = dgT.getD s ByteArray.empty then (s : Int) else fndT t d (s + 1)
theorem fnd_tab (t : ByteArray) : ∀ (d s : Nat), 1 ≤ s → s + d ≤ 32 → fnd t d s = fndT t d s
  | 0, s, _, _ => rfl
  | d + 1, s, h1, h2 => by
    show (if t = nm s ∨ t = dg s then (s : Int) else fnd t d (s + 1)) = (if t = nm s ∨ t = dgT.getD s ByteArray.empty then (s : Int) else fndT t d (s + 1))
    rw [dg_tab s h1 (by omega), fnd_tab t d (s + 1) (by omega) (by omega)]
theorem num_name (j : Nat) (h1 : 1 ≤ j) (h2 : j ≤ 31) : num (nm j) = j ∧ idxOfS (NM.take 32) (nm j) = j := by
  unfold num
  rw [fnd_tab _ 31 1 (by omega) (by omega)]
  have key : ∀ i : Fin 31, fndT (nm (i.val + 1)) 31 1 = ((i.val + 1 : Nat) : Int) ∧ idxOfS (NM.take 32) (nm (i.val + 1)) = ((i.val + 1 : Nat) : Int) := by decide +kernel
  have := key ⟨j - 1, by omega⟩
  rw [show j - 1 + 1 = j by omega] at this
  exact this
theorem num_dg (j : Nat) (h1 : 1 ≤ j) (h2 : j ≤ 31) : num (dg j) = j ∧ idxOfS (NM.take 32) (dg j) = -1 := by
  unfold num
  rw [fnd_tab _ 31 1 (by omega) (by omega), dg_tab j h1 h2]
  have key : ∀ i : Fin 31, fndT (dgT.getD (i.val + 1) ByteArray.empty) 31 1 = ((i.val + 1 : Nat) : Int) ∧ idxOfS (NM.take 32) (dgT.getD (i.val + 1) ByteArray.empty) = -1 := by decide +kernel
  have := key ⟨j - 1, by omega⟩
  rw [show j - 1 + 1 = j by omega] at this
  exact this
end Go.Proofs.YtdglcnchdhojnaaDoor.Sig
