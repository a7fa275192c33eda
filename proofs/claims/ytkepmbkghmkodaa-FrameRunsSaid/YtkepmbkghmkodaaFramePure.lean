/- frame: the stack by its reversed list: plain laws. -/
import Derived.Test.YtkepmbkghmkodaaFrame
namespace Go.Proofs.Ytkepmbkghmkodaa.Frame
set_option linter.unusedVariables false
set_option linter.unusedSimpArgs false
/-- The uppermost such item but n, and what is under it. -/
def cut (p : Int → Bool) : List It → Nat → Option (It × List It)
  | [], _ => none
  | x :: r, n => if p x.kind = true then (match n with
    | 0 => some (x, r)
    | m + 1 => cut p r m) else if isWall x.kind = true then none else cut p r n
def cntR : List It → Nat
  | [] => 0
  | x :: r => if isLoop x.kind = true then cntR r + 1 else if isWall x.kind = true then 0 else cntR r
theorem cntR_cons (x : It) (r : List It) : cntR (x :: r) = if isLoop x.kind = true then cntR r + 1 else if isWall x.kind = true then 0 else cntR r := rfl
theorem loop_wall {k : Int} (h : isLoop k = true) : isWall k = false := by
  unfold isLoop at h
  unfold isWall isAct
  simp only [Bool.or_eq_true, beq_iff_eq] at h
  rcases h with (rfl | rfl) | rfl <;> rfl
theorem findR_cut (p : Int → Bool) : ∀ (r : List It) (n : Nat), findR p r (n : Int) = match cut p r n with
    | some (_, r') => (r'.length : Int)
    | none => -1
  | [], _ => rfl
  | x :: r, n => by
    unfold findR cut
    by_cases h : p x.kind = true
    · rw [if_pos h, if_pos h]
      cases n with
      | zero => rfl
      | succ m =>
        rw [if_neg (by omega), show ((m + 1 : Nat) : Int) - 1 = (m : Int) by omega]
        exact findR_cut p r m
    · rw [if_neg h, if_neg h]
      by_cases hw : isWall x.kind = true
      · rw [if_pos hw, if_pos hw]
      · rw [if_neg hw, if_neg hw]
        exact findR_cut p r n
theorem cut_none_iff : ∀ (r : List It) (n : Nat), cut isLoop r n = none ↔ cntR r ≤ n
  | [], n => by simp [cut, cntR]
  | x :: r, n => by
    unfold cut cntR
    by_cases h : isLoop x.kind = true
    · rw [if_pos h, if_pos h]
      cases n with
      | zero => simp
      | succ m => simpa using cut_none_iff r m
    · rw [if_neg h, if_neg h]
      by_cases hw : isWall x.kind = true
      · rw [if_pos hw, if_pos hw]; simp
      · rw [if_neg hw, if_neg hw]
        exact cut_none_iff r n
theorem cut_some : ∀ {r : List It} {n : Nat} {x : It} {r' : List It}, cut isLoop r n = some (x, r') → isLoop x.kind = true ∧ cntR r = n + 1 + cntR r'
  | [], n, x, r', h => by simp [cut] at h
  | y :: r, n, x, r', h => by
    unfold cut at h
    rw [cntR_cons]
    by_cases hl : isLoop y.kind = true
    · rw [if_pos hl] at h
      rw [if_pos hl]
      cases n with
      | zero =>
        simp only [Option.some.injEq, Prod.mk.injEq] at h
        obtain ⟨rfl, rfl⟩ := h
        exact ⟨hl, by omega⟩
      | succ m =>
        obtain ⟨h1, h2⟩ := cut_some h
        exact ⟨h1, by omega⟩
    · rw [if_neg hl] at h
      rw [if_neg hl]
      by_cases hw : isWall y.kind = true
      · rw [if_pos hw] at h; cases h
      · rw [if_neg hw] at h
        rw [if_neg hw]
        exact cut_some h
theorem cut_split (p : Int → Bool) : ∀ {r : List It} {n : Nat} {x : It} {r' : List It}, cut p r n = some (x, r') → ∃ pre, r = pre ++ x :: r'
  | [], n, x, r', h => by simp [cut] at h
  | y :: r, n, x, r', h => by
    unfold cut at h
    by_cases hl : p y.kind = true
    · rw [if_pos hl] at h
      cases n with
      | zero =>
        simp only [Option.some.injEq, Prod.mk.injEq] at h
        obtain ⟨rfl, rfl⟩ := h
        exact ⟨[], rfl⟩
      | succ m =>
        obtain ⟨pre, rfl⟩ := cut_split p h
        exact ⟨y :: pre, rfl⟩
    · rw [if_neg hl] at h
      by_cases hw : isWall y.kind = true
      · rw [if_pos hw] at h; cases h
      · rw [if_neg hw] at h
        obtain ⟨pre, rfl⟩ := cut_split p h
        exact ⟨y :: pre, rfl⟩
/-- What a loop's going on leaves of its item. -/
def again (x : It) : It := if x.kind = 8 then x else { (default : It) with kind := 7, nk := x.nk, nname := x.nname, ngiven := x.ngiven, s1 := x.s1, s2 := x.s2, s3 := x.s3, s4 := x.s4, s5 := x.s5, free := x.free }
def brkB (r : List It) (n : Int) : Bool := !decide (n < 1) && !decide ((cntR r : Int) < n)
def brkR (r : List It) (n : Int) : List It := if brkB r n = true then (match cut isLoop r (n - 1).toNat with
  | some (_, r') => r'
  | none => r) else r
def conR (r : List It) (n : Int) : List It := if brkB r n = true then (match cut isLoop r (n - 1).toNat with
  | some (x, r') => again x :: r'
  | none => r) else r
def retB (r : List It) : Bool := (cut isBack r 0).isSome
def retX (r : List It) : It := match cut isBack r 0 with
  | some (x, _) => x
  | none => default
def retR (r : List It) : List It := match cut isBack r 0 with
  | some (_, r') => r'
  | none => r
def savB : List It → Bool
  | [] => false
  | x :: r => isAct x.kind || savB r
def savN : List It → Int
  | [] => 0
  | x :: r => if isAct x.kind = true then x.status else savN r
/-- What a find tells, where the count is enough. -/
theorem brk_cut {r : List It} {n : Int} (h : brkB r n = true) : ∃ x r' pre, cut isLoop r (n - 1).toNat = some (x, r') ∧ r = pre ++ x :: r' ∧ findR isLoop r (n - 1) = (r'.length : Int) ∧ brkR r n = r' ∧ conR r n = again x :: r' := by
  have h' := h
  unfold brkB at h'
  simp only [Bool.and_eq_true, Bool.not_eq_true', decide_eq_false_iff_not] at h'
  obtain ⟨h1, h2⟩ := h'
  cases hc : cut isLoop r (n - 1).toNat with
  | none => have := (cut_none_iff r (n - 1).toNat).1 hc; omega
  | some q =>
    obtain ⟨x, r'⟩ := q
    obtain ⟨pre, e⟩ := cut_split isLoop hc
    have hf := findR_cut isLoop r (n - 1).toNat
    rw [hc, show (((n - 1).toNat : Nat) : Int) = n - 1 by omega] at hf
    refine ⟨x, r', pre, rfl, e, hf, ?_, ?_⟩
    · unfold brkR; rw [if_pos h, hc]
    · unfold conR; rw [if_pos h, hc]
theorem brk_off {r : List It} {n : Int} (h : brkB r n = false) : brkR r n = r ∧ conR r n = r := by
  unfold brkR conR
  rw [h]
  exact ⟨rfl, rfl⟩
theorem rev_split {l pre r' : List It} {x : It} (h : l.reverse = pre ++ x :: r') : r'.length < l.length ∧ l.take r'.length = r'.reverse ∧ l[r'.length]? = some x := by
  have e : l = r'.reverse ++ (x :: pre.reverse) := by
    have := congrArg List.reverse h
    simpa using this
  subst e
  refine ⟨by simp, by simp [List.take_append], ?_⟩
  rw [List.getElem?_append_right (by simp)]
  simp
end Go.Proofs.Ytkepmbkghmkodaa.Frame
