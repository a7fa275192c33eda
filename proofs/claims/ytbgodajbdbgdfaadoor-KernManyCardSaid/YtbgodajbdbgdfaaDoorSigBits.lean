/- sets of signals: bits, in plain words. -/
import Derived.Lib.TrailingZeros
namespace Go.Proofs.YtbgodajbdbgdfaaDoor.Sig
open Go.Lib
set_option linter.unusedVariables false
set_option linter.unusedSimpArgs false
/-- Is it a signal? -/
def isg (s : Int) : Bool := decide (0 < s) && decide (s < 32)
theorem isg_iff {s : Int} : isg s = true ↔ 0 < s ∧ s < 32 := by
  unfold isg; rw [Bool.and_eq_true, decide_eq_true_eq, decide_eq_true_eq]
def wth (x : Nat) (s : Int) : Nat := if isg s = true then x ||| 2 ^ s.toNat else x
def wto (x : Nat) (s : Int) : Nat := if isg s = true then x &&& (4294967295 - 2 ^ s.toNat) else x
def hs (x : Nat) (s : Int) : Bool := isg s && x.testBit s.toNat
def ofL (x : Nat) : List Int → Nat
  | [] => x
  | s :: l => ofL (wth x s) l
theorem pow_lt32 {n : Nat} (h : n < 32) : 2 ^ n < 4294967296 := by
  have := Nat.pow_lt_pow_right (a := 2) (by decide) h
  simpa using this
theorem wth_lt {x : Nat} (s : Int) (h : x < 4294967296) : wth x s < 4294967296 := by
  unfold wth
  split
  · rename_i hi
    have hi := isg_iff.1 hi
    exact Nat.or_lt_two_pow (n := 32) h (pow_lt32 (by omega))
  · exact h
theorem wto_lt {x : Nat} (s : Int) (h : x < 4294967296) : wto x s < 4294967296 := by
  unfold wto
  split
  · exact Nat.lt_of_le_of_lt Nat.and_le_left h
  · exact h
theorem ofL_lt : ∀ (l : List Int) (x : Nat), x < 4294967296 → ofL x l < 4294967296
  | [], x, h => h
  | s :: l, x, h => ofL_lt l _ (wth_lt s h)
theorem ofL_append : ∀ (l m : List Int) (x : Nat), ofL x (l ++ m) = ofL (ofL x l) m
  | [], m, x => rfl
  | s :: l, m, x => ofL_append l m _
theorem wth_bit (x : Nat) (s : Int) (i : Nat) : (wth x s).testBit i = (x.testBit i || (isg s && decide (s.toNat = i))) := by
  unfold wth
  split
  · rename_i h
    rw [Nat.testBit_or, Nat.testBit_two_pow, h, Bool.true_and]
  · rename_i h
    rw [Bool.not_eq_true] at h
    rw [h, Bool.false_and, Bool.or_false]
theorem ofL_keeps : ∀ (l : List Int) (x i : Nat), x.testBit i = true → (ofL x l).testBit i = true
  | [], x, i, h => h
  | s :: l, x, i, h => ofL_keeps l _ i (by rw [wth_bit, h, Bool.true_or])
theorem ofL_hs : ∀ (l : List Int) (x : Nat) (s : Int), s ∈ l → isg s = true → hs (ofL x l) s = true
  | [], x, s, h, _ => absurd h List.not_mem_nil
  | t :: l, x, s, h, hi => by
    rcases List.mem_cons.1 h with rfl | h
    · unfold hs
      rw [hi, Bool.true_and]
      exact ofL_keeps l _ _ (by rw [wth_bit, hi, Bool.true_and, decide_eq_true rfl, Bool.or_true])
    · exact ofL_hs l _ s h hi
theorem ofL_hs_is (l : List Int) (s : Int) (h : s ∈ l) : hs (ofL 0 l) s = isg s := by
  cases hi : isg s with
  | true => exact ofL_hs l 0 s h hi
  | false => unfold hs; rw [hi, Bool.false_and]
/-- Only signals' bits. -/
theorem ofL_zero : ∀ (l : List Int) (x i : Nat), (i = 0 ∨ 32 ≤ i) → x.testBit i = false → (ofL x l).testBit i = false
  | [], x, i, _, h => h
  | s :: l, x, i, hi, h => ofL_zero l _ i hi (by
      rw [wth_bit, h, Bool.false_or]
      cases hg : isg s with
      | false => rfl
      | true =>
        have hg := isg_iff.1 hg
        rw [Bool.true_and]
        exact decide_eq_false (by omega))
theorem wto_hs (x : Nat) (s : Int) : hs (wto x s) s = false := by
  unfold hs
  cases hi : isg s with
  | false => rfl
  | true =>
    have hg := isg_iff.1 hi
    unfold wto
    rw [if_pos hi, Bool.true_and, Nat.testBit_and]
    obtain ⟨n, rfl⟩ : ∃ n : Nat, s = (n : Int) := ⟨s.toNat, by omega⟩
    rw [Int.toNat_natCast]
    have : (4294967295 - 2 ^ n).testBit n = false := by
      have key : ∀ i : Fin 32, (4294967295 - 2 ^ i.val).testBit i.val = false := by decide +kernel
      exact key ⟨n, by omega⟩
    rw [this, Bool.and_false]
theorem wth_hs (x : Nat) (s : Int) : hs (wth x s) s = isg s := by
  unfold hs
  cases hi : isg s with
  | false => rfl
  | true => rw [wth_bit, hi, Bool.true_and, Bool.true_and, decide_eq_true rfl, Bool.or_true]
theorem shape {x : Nat} (h0 : x ≠ 0) (h : x < 4294967296) : ∃ k m, ctz 32 x = k ∧ x = 2 ^ k * (2 * m + 1) ∧ k < 32 := by
  obtain ⟨m, h1, h2⟩ := ctzFrom_spec 32 x (by omega) h
  refine ⟨ctz 32 x, m, rfl, ?_, ?_⟩
  · unfold ctz; rw [if_neg h0]; exact h1
  · unfold ctz; rw [if_neg h0]; exact h2
theorem and_pred (k m : Nat) : (2 ^ k * (2 * m + 1)) &&& (2 ^ k * (2 * m + 1) - 1) = 2 ^ k * (2 * m) := by
  have hp : 0 < 2 ^ k := Nat.two_pow_pos k
  have e1 : 2 ^ k * (2 * m + 1) - 1 = 2 ^ k * (2 * m) + (2 ^ k - 1) := by
    rw [Nat.mul_add, Nat.mul_one]; omega
  apply Nat.eq_of_testBit_eq
  intro i
  rw [e1, Nat.testBit_and, Nat.testBit_two_pow_mul_add _ (by omega), Nat.testBit_two_pow_mul, Nat.testBit_two_pow_mul]
  by_cases hik : k ≤ i
  · rw [if_neg (by omega), decide_eq_true hik, Bool.true_and, Bool.true_and]
    obtain ⟨j, rfl⟩ : ∃ j, i = k + j := ⟨i - k, by omega⟩
    rw [Nat.add_sub_cancel_left]
    cases j with
    | zero => simp [Nat.testBit_zero]
    | succ j => 
      rw [Nat.testBit_succ, Nat.testBit_succ, show (2 * m + 1) / 2 = m by omega, show 2 * m / 2 = m by omega, Bool.and_self]
  · rw [decide_eq_false hik, Bool.false_and, Bool.false_and, Bool.false_and]
theorem or_low (k m : Nat) : 2 ^ k ||| 2 ^ k * (2 * m) = 2 ^ k * (2 * m + 1) := by
  apply Nat.eq_of_testBit_eq
  intro i
  rw [Nat.testBit_or, Nat.testBit_two_pow, Nat.testBit_two_pow_mul, Nat.testBit_two_pow_mul]
  by_cases hik : k ≤ i
  · rw [decide_eq_true hik, Bool.true_and, Bool.true_and]
    obtain ⟨j, rfl⟩ : ∃ j, i = k + j := ⟨i - k, by omega⟩
    rw [Nat.add_sub_cancel_left]
    cases j with
    | zero => simp [Nat.testBit_zero]
    | succ j =>
      rw [Nat.testBit_succ, Nat.testBit_succ, show (2 * m + 1) / 2 = m by omega, show 2 * m / 2 = m by omega, decide_eq_false (by omega), Bool.false_or]
  · rw [decide_eq_false hik, Bool.false_and, Bool.false_and, decide_eq_false (by omega), Bool.or_false]
theorem pred_lt {x : Nat} (h0 : x ≠ 0) : x &&& (x - 1) < x := Nat.lt_of_le_of_lt Nat.and_le_right (by omega)
/-- A set's signals, the least first. -/
def lst (x : Nat) : List Int := if h : x = 0 then [] else (ctz 32 x : Int) :: lst (x &&& (x - 1))
termination_by x
decreasing_by exact pred_lt h
theorem lst_zero : lst 0 = [] := by rw [lst, dif_pos rfl]
theorem lst_pos {x : Nat} (h : x ≠ 0) : lst x = (ctz 32 x : Int) :: lst (x &&& (x - 1)) := by rw [lst, dif_neg h]
theorem lst_len (x : Nat) : (lst x).length ≤ x := by
  induction x using Nat.strongRecOn with
  | _ x ih =>
    by_cases h : x = 0
    · subst h; rw [lst_zero]; exact Nat.le_refl _
    · rw [lst_pos h, List.length_cons]
      have := ih _ (pred_lt h)
      have := pred_lt h
      omega
theorem lst_of (x : Nat) : ∀ acc : Nat, x < 4294967296 → x.testBit 0 = false → ofL acc (lst x) = acc ||| x := by
  induction x using Nat.strongRecOn with
  | _ x ih =>
    intro acc h h1
    by_cases h0 : x = 0
    · subst h0; rw [lst_zero, Nat.or_zero]; rfl
    · obtain ⟨k, m, hk, hx, hlt⟩ := shape h0 h
      have hp : x &&& (x - 1) = 2 ^ k * (2 * m) := by rw [hx]; exact and_pred k m
      have hlt2 := pred_lt h0
      have hk0 : k ≠ 0 := by
        rintro rfl
        rw [hx, Nat.pow_zero, Nat.one_mul, Nat.testBit_zero] at h1
        simp at h1
      have hb : (x &&& (x - 1)).testBit 0 = false := by rw [Nat.testBit_and, h1, Bool.false_and]
      rw [lst_pos h0, hk]
      show ofL (wth acc (k : Int)) (lst (x &&& (x - 1))) = acc ||| x
      rw [ih _ hlt2 _ (by omega) hb]
      unfold wth
      rw [if_pos (isg_iff.2 (by omega)), Int.toNat_natCast, Nat.or_assoc, hp, or_low, ← hx]
def allN : Nat := 4294967294
theorem all_same {x : Nat} (h : x < 4294967296) (h1 : x.testBit 0 = false) : x &&& allN = x := by
  apply Nat.eq_of_testBit_eq
  intro i
  rw [Nat.testBit_and]
  by_cases h0 : i = 0
  · subst h0; rw [h1, Bool.false_and]
  · by_cases h32 : i < 32
    · have key : ∀ i : Fin 31, allN.testBit (i.val + 1) = true := by decide +kernel
      have := key ⟨i - 1, by omega⟩
      rw [show i - 1 + 1 = i by omega] at this
      rw [this, Bool.and_true]
    · have : x.testBit i = false := Nat.testBit_lt_two_pow (Nat.lt_of_lt_of_le h (by
        have := Nat.pow_le_pow_right (n := 2) (by decide) (show 32 ≤ i by omega)
        simpa using this))
      rw [this, Bool.false_and]
theorem back (l : List Int) : ofL 0 (lst (ofL 0 l &&& allN)) = ofL 0 l := by
  have h := ofL_lt l 0 (by decide)
  have h1 := ofL_zero l 0 0 (Or.inl rfl) (by simp)
  rw [all_same h h1, lst_of _ 0 h h1, Nat.zero_or]
end Go.Proofs.YtbgodajbdbgdfaaDoor.Sig
