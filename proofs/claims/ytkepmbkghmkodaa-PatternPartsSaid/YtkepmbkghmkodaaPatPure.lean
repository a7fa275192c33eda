/- pattern: what a set is, in plain words. -/
import Derived.Test.YtkepmbkghmkodaaPatHas
namespace Go.Proofs.Ytkepmbkghmkodaa.Pat
open Go.RowKit Go.Proofs.YtkepmbkghmkodaaW.PrintWords Go.Proofs.YtkepmbkghmkodaaW.PrintLast Go.Proofs.Ytkepmbkghmkodaa.Base Go.Proofs.Ytkepmbkghmkodaa.P
set_option linter.unusedVariables false
abbrev Ch := S161
def isB (x : Ch) (c : Int) : Bool := x.f0 == c && !x.f1
def isC (l : List Ch) (i : Nat) (c : Int) : Bool := if h : i < l.length then isB l[i] c else false
theorem isC_lt {l : List Ch} {i : Nat} {c : Int} (h : i < l.length) : isC l i c = isB l[i] c := dif_pos h
theorem isC_ge {l : List Ch} {i : Nat} {c : Int} (h : ¬ i < l.length) : isC l i c = false := dif_neg h
/-- How many bytes a member has. -/
def memb (l : List Ch) (i : Nat) : Nat := if decide (i + 2 < l.length) && isC l (i + 1) 45 && !isC l (i + 2) 93 then 3 else 1
theorem memb_pos (l : List Ch) (i : Nat) : 1 ≤ memb l i := by unfold memb; split <;> omega
theorem memb_lt {l : List Ch} {i : Nat} (h : i < l.length) : i + memb l i ≤ l.length := by
  unfold memb
  split
  · rename_i h'
    simp only [Bool.and_eq_true, decide_eq_true_eq] at h'
    omega
  · omega
def byteAt (l : List Ch) (i : Nat) : Int := if h : i < l.length then l[i].f0 else 0
theorem byteAt_lt {l : List Ch} {i : Nat} (h : i < l.length) : byteAt l i = l[i].f0 := dif_pos h
/-- Where a set ends. -/
def endF (l : List Ch) (first : Nat) (k : Nat) : Option Nat :=
  if h : k < l.length then (if decide (first < k) && isC l k 93 then some k else endF l first (k + memb l k)) else none
  termination_by l.length - k
  decreasing_by have := memb_pos l k; omega
theorem endF_at {l : List Ch} {first k : Nat} (h : k < l.length) (h1 : (decide (first < k) && isC l k 93) = true) : endF l first k = some k := by
  rw [endF, dif_pos h, if_pos h1]
theorem endF_step {l : List Ch} {first k : Nat} (h : k < l.length) (h1 : (decide (first < k) && isC l k 93) = false) : endF l first k = endF l first (k + memb l k) := by
  rw [endF, dif_pos h, if_neg (by rw [h1]; decide)]
theorem endF_none {l : List Ch} {first k : Nat} (h : ¬ k < l.length) : endF l first k = none := by
  rw [endF, dif_neg h]
theorem endF_lt {l : List Ch} {first : Nat} : ∀ (n k e : Nat), l.length - k ≤ n → endF l first k = some e → k ≤ e ∧ e < l.length ∧ first < e := by
  intro n
  induction n with
  | zero => intro k e hn h; rw [endF_none (by omega)] at h; cases h
  | succ n ih =>
    intro k e hn h
    by_cases hk : k < l.length
    · cases h1 : (decide (first < k) && isC l k 93) with
      | true =>
        rw [endF_at hk h1] at h
        injection h with h
        subst h
        simp only [Bool.and_eq_true, decide_eq_true_eq] at h1
        exact ⟨Nat.le_refl _, hk, h1.1⟩
      | false =>
        rw [endF_step hk h1] at h
        have := memb_pos l k
        obtain ⟨a, b, c⟩ := ih _ _ (by omega) h
        exact ⟨by omega, b, c⟩
    · rw [endF_none hk] at h; cases h
/-- Has a set, from a place to another one, a byte? -/
def hasF (l : List Ch) (k e : Nat) (c : Int) : Bool :=
  if k < e then (decide (byteAt l k ≤ c) && decide (c ≤ byteAt l (k + memb l k - 1))) || hasF l (k + memb l k) e c else false
  termination_by e - k
  decreasing_by have := memb_pos l k; omega
theorem hasF_step {l : List Ch} {k e : Nat} {c : Int} (h : k < e) : hasF l k e c = ((decide (byteAt l k ≤ c) && decide (c ≤ byteAt l (k + memb l k - 1))) || hasF l (k + memb l k) e c) := by
  rw [hasF, if_pos h]
theorem hasF_end {l : List Ch} {k e : Nat} {c : Int} (h : ¬ k < e) : hasF l k e c = false := by
  rw [hasF, if_neg h]
/-- 256 bits as a function. -/
def bl (S : Nat → Bool) : List Bool := (List.range 256).map S
theorem bl_len (S : Nat → Bool) : (bl S).length = 256 := by simp [bl]
theorem bl_get (S : Nat → Bool) {c : Nat} (h : c < 256) : (bl S).getD c false = S c := by
  simp [bl, List.getD_eq_getElem?_getD, List.getElem?_map, List.getElem?_range h]
theorem bl_congr {S T : Nat → Bool} (h : ∀ c, c < 256 → S c = T c) : bl S = bl T := by
  unfold bl
  exact List.map_congr_left fun c hc => h c (List.mem_range.1 hc)
theorem bl_set (S : Nat → Bool) (c : Nat) (b : Bool) (hc : c < 256) : (bl S).set c b = bl (fun x => if x = c then b else S x) := by
  apply List.ext_getElem
  · simp [bl]
  · intro i h1 h2
    rw [List.getElem_set]
    simp only [bl, List.getElem_map, List.getElem_range]
    by_cases h : c = i
    · subst h; simp
    · have h' : ¬ i = c := fun e => h e.symm
      simp [h, h']
def TH (k : Int) (S : Nat → Bool) : Th := ⟨k, 0, bl S⟩
theorem arr_set (k : Int) (S : Nat → Bool) (c : Nat) (b : Bool) (hc : c < 256) : (TH k S).arr.setIfInBounds (2 + c) (.bool b) = (TH k (fun x => if x = c then b else S x)).arr := by
  unfold TH Th.arr Th.cells
  simp only
  rw [← bl_set S c b hc, List.map_set, List.setIfInBounds_toArray]
  congr 1
  rw [show 2 + c = c + 1 + 1 by omega, List.set_cons_succ, List.set_cons_succ]
def zeroS : Nat → Bool := fun _ => false
def addS (S : Nat → Bool) (a : Int) (j : Int) : Nat → Bool := fun c => S c || (decide (a ≤ (c : Int)) && decide ((c : Int) < j))
def notS (S : Nat → Bool) (n : Bool) (j : Nat) : Nat → Bool := fun c => if c < j then (S c != n) else S c
theorem addS_none (S : Nat → Bool) (a : Int) : bl (addS S a a) = bl S := bl_congr fun c _ => by
  unfold addS
  by_cases h : a ≤ (c : Int)
  · have : ¬ (c : Int) < a := by omega
    simp [this]
  · simp [h]
theorem addS_step (S : Nat → Bool) (a : Int) (j : Nat) (h : a ≤ (j : Int)) : (fun x => if x = j then true else addS S a j x) = addS S a ((j : Int) + 1) := by
  funext c
  unfold addS
  by_cases e : c = j
  · subst e
    have : (c : Int) < (c : Int) + 1 := by omega
    simp [h, this]
  · rw [if_neg e]
    have : decide ((c : Int) < (j : Int)) = decide ((c : Int) < (j : Int) + 1) := by
      by_cases h1 : (c : Int) < (j : Int)
      · rw [decide_eq_true h1, decide_eq_true (by omega)]
      · rw [decide_eq_false h1, decide_eq_false (by omega)]
    rw [this]
theorem notS_zero (S : Nat → Bool) (n : Bool) : notS S n 0 = S := by funext c; simp [notS]
theorem notS_self (S : Nat → Bool) (n : Bool) (j : Nat) : notS S n j j = S j := by simp [notS]
theorem arr2n (x : Th) (h : x.set.length = 256) (c : Nat) (h1 : c < 256) : x.arr[2 + c]? = some (.bool (x.set.getD c false)) := by
  have := arr2 x h (c : Int) (by omega) (by omega)
  rwa [Int.toNat_natCast] at this
theorem notS_step (S : Nat → Bool) (n : Bool) (j : Nat) : (fun x => if x = j then (S j != n) else notS S n j x) = notS S n (j + 1) := by
  funext c
  unfold notS
  by_cases e : c = j
  · subst e; simp
  · rw [if_neg e]
    by_cases h : c < j
    · rw [if_pos h, if_pos (by omega)]
    · rw [if_neg h, if_neg (by omega)]
end Go.Proofs.Ytkepmbkghmkodaa.Pat
