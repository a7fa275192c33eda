/- number: digits, their value, and what strings.Trim leaves of them: in plain words. -/
import Derived.Lib.Atoi
import Derived.Lib.ItoaNum
import Derived.Lib.SlTrimSet
namespace Go.Proofs.YtdglcnchdhojnaaDoor.Num
open Go.Lib
set_option linter.unusedVariables false
set_option linter.unusedSimpArgs false
def isD (b : UInt8) : Bool := decide (48 ≤ b.toNat) && decide (b.toNat ≤ 57)
/-- What is read: at least one digit, at most nine, and nothing else. -/
def okD (l : List UInt8) : Bool := !l.isEmpty && decide (l.length ≤ 9) && l.all isD
def valD (l : List UInt8) : Nat := (decFrom 0 l).getD 0
theorem digit_val {b : UInt8} (h : isD b = true) : digitVal b = some (b.toNat - 48) := by
  unfold isD at h
  simp only [Bool.and_eq_true, decide_eq_true_eq] at h
  unfold digitVal
  rw [if_pos h]
theorem dec_all : ∀ (l : List UInt8) (acc : Nat), l.all isD = true → ∃ n, decFrom acc l = some n ∧ n < (acc + 1) * 10 ^ l.length
  | [], acc, _ => ⟨acc, rfl, by simp⟩
  | b :: r, acc, h => by
    rw [List.all_cons, Bool.and_eq_true] at h
    obtain ⟨n, h1, h2⟩ := dec_all r (acc * 10 + (b.toNat - 48)) h.2
    refine ⟨n, ?_, ?_⟩
    · unfold decFrom
      rw [digit_val h.1]
      exact h1
    · have hb : b.toNat ≤ 57 := by
        have := h.1
        unfold isD at this
        simp only [Bool.and_eq_true, decide_eq_true_eq] at this
        exact this.2
      rw [List.length_cons, Nat.pow_succ]
      have : (acc * 10 + (b.toNat - 48) + 1) * 10 ^ r.length ≤ ((acc + 1) * 10) * 10 ^ r.length := Nat.mul_le_mul_right _ (by omega)
      have e : (acc + 1) * 10 * 10 ^ r.length = (acc + 1) * (10 ^ r.length * 10) := by rw [Nat.mul_assoc, Nat.mul_comm 10]
      omega
theorem val_lt {l : List UInt8} (h : okD l = true) : valD l < 1000000000 := by
  unfold okD at h
  simp only [Bool.and_eq_true, decide_eq_true_eq] at h
  obtain ⟨n, h1, h2⟩ := dec_all l 0 h.2
  unfold valD
  rw [h1]
  have : 10 ^ l.length ≤ 10 ^ 9 := Nat.pow_le_pow_right (by decide) h.1.2
  simp only [Option.getD_some]
  have e : (10 : Nat) ^ 9 = 1000000000 := by decide
  omega
theorem atoi_digits {l : List UInt8} (h : okD l = true) : atoi l = some (valD l : Int) := by
  have h' := h
  unfold okD at h'
  simp only [Bool.and_eq_true, decide_eq_true_eq] at h'
  obtain ⟨n, h1, h2⟩ := dec_all l 0 h'.2
  cases l with
  | nil => simp at h'
  | cons b r =>
    have hb := h'.2
    rw [List.all_cons, Bool.and_eq_true] at hb
    have hb1 := hb.1
    unfold isD at hb1
    simp only [Bool.and_eq_true, decide_eq_true_eq] at hb1
    have e45 : (b == 45) = false := by rw [beq_eq_false_iff_ne]; intro e; subst e; exact absurd hb1.1 (by decide)
    have e43 : (b == 43) = false := by rw [beq_eq_false_iff_ne]; intro e; subst e; exact absurd hb1.1 (by decide)
    unfold atoi
    simp only [e45, e43]
    unfold valD decNat
    rw [h1]
    simp
/-- The set of digits, as Go's text has it. -/
def setD : List UInt8 := [48, 49, 50, 51, 52, 53, 54, 55, 56, 57]
theorem set_isD (b : UInt8) : setD.contains b = isD b := by
  have key : ∀ n : Fin 256, setD.contains (UInt8.ofNat n.val) = isD (UInt8.ofNat n.val) := by decide +kernel
  have := key ⟨b.toNat, b.toNat_lt⟩
  simpa using this
theorem drop_all {α : Type} (p : α → Bool) : ∀ (l : List α), l.all p = true → l.dropWhile p = []
  | [], _ => rfl
  | x :: r, h => by
    rw [List.all_cons, Bool.and_eq_true] at h
    rw [List.dropWhile_cons, if_pos h.1]
    exact drop_all p r h.2
theorem drop_some {α : Type} (p : α → Bool) : ∀ (l : List α), l.all p = false → ∃ x r, l.dropWhile p = x :: r ∧ p x = false
  | [], h => by simp at h
  | x :: r, h => by
    cases hx : p x with
    | false => exact ⟨x, r, by rw [List.dropWhile_cons, if_neg (by rw [hx]; decide)], hx⟩
    | true =>
      rw [List.all_cons, hx, Bool.true_and] at h
      obtain ⟨y, q, e, hy⟩ := drop_some p r h
      exact ⟨y, q, by rw [List.dropWhile_cons, if_pos hx]; exact e, hy⟩
theorem trim_all {l : List UInt8} (h : l.all isD = true) : trimS l setD = [] := by
  have hp : (fun b => setD.contains b) = isD := funext set_isD
  unfold trimS trimRightS trimLeftS
  rw [hp, drop_all isD l.reverse (by rw [List.all_reverse]; exact h)]
  rfl
theorem trim_some {l : List UInt8} (h : l.all isD = false) : trimS l setD ≠ [] := by
  have hp : (fun b => setD.contains b) = isD := funext set_isD
  unfold trimS trimRightS trimLeftS
  rw [hp]
  obtain ⟨x, r, e, hx⟩ := drop_some isD l.reverse (by rw [List.all_reverse]; exact h)
  rw [e]
  obtain ⟨y, q, e2, _⟩ := drop_some isD (x :: r).reverse (by rw [List.all_reverse, List.all_cons, hx, Bool.false_and])
  rw [e2]
  simp
/-- A number's digits. -/
theorem dec_digits (u : Nat) : (decDigits u).all isD = true ∧ (decDigits u) ≠ [] ∧ (decDigits u).length = nDigits u ∧ ∀ acc, decFrom acc (decDigits u) = some (acc * 10 ^ nDigits u + u) := by
  induction u using Nat.strongRecOn with
  | _ u ih =>
    have dig : ∀ d : Nat, d < 10 → isD (UInt8.ofNat (48 + d)) = true ∧ (UInt8.ofNat (48 + d)).toNat = 48 + d := by
      intro d hd
      have key : ∀ d : Fin 10, isD (UInt8.ofNat (48 + d.val)) = true ∧ (UInt8.ofNat (48 + d.val)).toNat = 48 + d.val := by decide +kernel
      exact key ⟨d, hd⟩
    by_cases h : u < 10
    · rw [decDigits, dif_pos h, nDigits_small h]
      obtain ⟨d1, d2⟩ := dig u h
      refine ⟨by rw [List.all_cons, d1]; rfl, by simp, rfl, fun acc => ?_⟩
      unfold decFrom
      rw [digit_val d1, d2]
      unfold decFrom
      simp
    · obtain ⟨i1, i2, i3, i4⟩ := ih (u / 10) (by omega)
      obtain ⟨d1, d2⟩ := dig (u % 10) (by omega)
      rw [decDigits, dif_neg h, nDigits_big h]
      refine ⟨by rw [List.all_append, i1, List.all_cons, d1]; rfl, by simp, by simp [i3], fun acc => ?_⟩
      have app : ∀ (l : List UInt8) (acc n : Nat) (b : UInt8), decFrom acc l = some n → isD b = true → decFrom acc (l ++ [b]) = some (n * 10 + (b.toNat - 48)) := by
        intro l
        induction l with
        | nil =>
          intro acc n b hn hb
          have : acc = n := by simpa [decFrom] using hn
          subst this
          rw [List.nil_append]
          unfold decFrom
          rw [digit_val hb]
          rfl
        | cons a t iht =>
          intro acc n b hn hb
          rw [List.cons_append]
          unfold decFrom at hn ⊢
          cases ha : digitVal a with
          | none => rw [ha] at hn; cases hn
          | some e =>
            rw [ha] at hn
            exact iht _ n b hn hb
      rw [app _ acc _ _ (i4 acc) d1, d2, Nat.pow_succ]
      congr 1
      have : u = 10 * (u / 10) + u % 10 := (Nat.div_add_mod u 10).symm
      have e2 : 48 + u % 10 - 48 = u % 10 := by omega
      rw [e2, Nat.add_mul, Nat.mul_assoc]
      omega
theorem nd_le {u : Nat} (h : u < 1000000000) : nDigits u ≤ 9 := by
  by_cases h0 : nDigits u ≤ 9
  · exact h0
  · exfalso
    have key : ∀ k u : Nat, nDigits u = k + 1 → 1 ≤ k → 10 ^ k ≤ u := by
      intro k
      induction k with
      | zero => intro u _ h; omega
      | succ k ih =>
        intro u hu _
        by_cases h9 : u < 10
        · rw [nDigits_small h9] at hu; omega
        · rw [nDigits_big h9] at hu
          by_cases hk : 1 ≤ k
          · have := ih (u / 10) (by omega) hk
            rw [Nat.pow_succ]
            omega
          · obtain rfl : k = 0 := by omega
            simp; omega
    have h1 := key (nDigits u - 1) u (by omega) (by omega)
    have h2 : 10 ^ 9 ≤ 10 ^ (nDigits u - 1) := Nat.pow_le_pow_right (by decide) (by omega)
    have e : (10 : Nat) ^ 9 = 1000000000 := by decide
    omega
/-- A number that is written, and read. -/
theorem back_ok {u : Nat} (h : u < 1000000000) : okD (decDigits u) = true ∧ valD (decDigits u) = u := by
  obtain ⟨i1, i2, i3, i4⟩ := dec_digits u
  refine ⟨?_, ?_⟩
  · unfold okD
    rw [i1, i3, decide_eq_true (nd_le h)]
    cases hd : decDigits u with
    | nil => exact absurd hd i2
    | cons a t => rfl
  · unfold valD
    rw [i4 0]
    simp
theorem minus_no (u : Nat) : okD (45 :: decDigits u) = false := by
  unfold okD
  rw [List.all_cons, show isD 45 = false from by decide, Bool.false_and, Bool.and_false]
end Go.Proofs.YtdglcnchdhojnaaDoor.Num
