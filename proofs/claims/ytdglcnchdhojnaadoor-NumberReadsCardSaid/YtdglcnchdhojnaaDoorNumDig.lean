/- number: the document's digits are Itoa's. -/
import Derived.Test.YtdglcnchdhojnaaDoorNumRef
namespace Go.Proofs.YtdglcnchdhojnaaDoor.Num
open Go.RowKit Go.Proofs.YtdglcnchdhojnaaDoorW.PrintWords Go.Proofs.YtdglcnchdhojnaaDoorW.PrintLast Go.Proofs.YtdglcnchdhojnaaDoor.P
set_option linter.unusedVariables false
set_option linter.unusedSimpArgs false
abbrev D (n : Int) : Nat → Option ByteArray := fun k => deadfallref09_Digits.f k n
def txt (l : List UInt8) : ByteArray := ⟨l.toArray⟩
theorem txt_app (a b : List UInt8) : txt a ++ txt b = txt (a ++ b) := by
  apply ByteArray.ext
  rw [ByteArray.data_append]
  simp [txt]
theorem txt_size (a : List UInt8) : (txt a).size = a.length := by simp [txt, ByteArray.size]
theorem nd_le2 : ∀ k u : Nat, u < 10 ^ (k + 1) → Lib.nDigits u ≤ k + 1
  | 0, u, h => by rw [Lib.nDigits_small (by simpa using h)]; exact Nat.le_refl _
  | k + 1, u, h => by
    by_cases h9 : u < 10
    · rw [Lib.nDigits_small h9]; omega
    · rw [Lib.nDigits_big h9]
      have := nd_le2 k (u / 10) (by rw [Nat.pow_succ] at h; omega)
      omega
theorem dec_len {u : Nat} (h : u < 100000000000000000000) : (Lib.decDigits u).length ≤ 20 := by
  rw [(dec_digits u).2.2.1]
  exact nd_le2 19 u (by have e : (10 : Nat) ^ (19 + 1) = 100000000000000000000 := by decide
                        omega)
theorem one_digit (d : Nat) (h : d < 10) : strOfNums [(wrap64 (48 + (d : Int))) % 256] = txt [UInt8.ofNat (48 + d)] := by
  have key : ∀ d : Fin 10, strOfNums [(wrap64 (48 + (d.val : Int))) % 256] = txt [UInt8.ofNat (48 + d.val)] := by decide +kernel
  exact key ⟨d, h⟩
theorem itoa_nat (u : Nat) : Lib.itoa (u : Int) = Lib.decDigits u := by
  unfold Lib.itoa
  rw [if_neg (by omega)]
  simp
theorem itoa_neg {n : Int} (h : n < 0) : Lib.itoa n = 45 :: Lib.decDigits n.natAbs := by
  unfold Lib.itoa
  rw [if_pos h]
theorem nat_ev : ∀ (m u : Nat), u ≤ m → u ≤ 9223372036854775807 → Ev (D (u : Int)) (txt (Lib.decDigits u)) := by
  intro m
  induction m with
  | zero =>
    intro u hu _
    obtain rfl : u = 0 := by omega
    refine Ev.of (deadfallref09_Digits.mono _) (k := 3) ?_
    rw [Lib.decDigits, dif_pos (by decide)]
    decide +kernel
  | succ m ih =>
    intro u hu hmax
    refine Ev.step (f := fun k => deadfallref09_Digits.j0 k (u : Int) false) (fun k => ?_) ?_
    · show deadfallref09_Digits.f (k + 1) (u : Int) = _
      rw [deadfallref09_Digits.f, if_neg (by omega)]
    by_cases h9 : u < 10
    · refine Ev.step (f := fun _ => some (txt (Lib.decDigits u))) (fun k => ?_) (Ev.now _)
      show deadfallref09_Digits.j0 (k + 1) (u : Int) false = _
      rw [deadfallref09_Digits.j0, if_neg (by decide), if_neg (by omega), if_pos (by omega), one_digit u h9, Lib.decDigits, dif_pos h9]
    · have e1 : wrap64 (Int.tdiv (u : Int) 10) = ((u / 10 : Nat) : Int) := by
        rw [Int.tdiv_eq_ediv_of_nonneg (by omega), wr _ (by omega) (by omega)]; omega
      have e2 : Int.tmod (u : Int) 10 = ((u % 10 : Nat) : Int) := by rw [Int.tmod_eq_emod_of_nonneg (by omega)]; omega
      have i1 := ih (u / 10) (by omega) (by omega)
      have i2 := ih (u % 10) (by omega) (by omega)
      have hd : Lib.decDigits u = Lib.decDigits (u / 10) ++ Lib.decDigits (u % 10) := by
        conv => lhs; rw [Lib.decDigits, dif_neg h9]
        congr 1
        rw [Lib.decDigits, dif_pos (by omega)]
      have l1 := dec_len (u := u / 10) (by omega)
      have l2 := dec_len (u := u % 10) (by omega)
      obtain ⟨k1, h1⟩ := i1
      obtain ⟨k2, h2⟩ := i2
      refine ⟨max k1 k2 + 1, fun k hk => ?_⟩
      obtain ⟨j, rfl⟩ : ∃ j, k = j + 1 := ⟨k - 1, by omega⟩
      have g1 : deadfallref09_Digits.f j ((u / 10 : Nat) : Int) = some _ := h1 j (by omega)
      have g2 : deadfallref09_Digits.f j ((u % 10 : Nat) : Int) = some _ := h2 j (by omega)
      show deadfallref09_Digits.j0 (j + 1) (u : Int) false = _
      rw [deadfallref09_Digits.j0, if_neg (by decide), if_neg (by omega), if_neg (by omega), e1, e2, g1, g2, Option.bind_some, Option.bind_some, if_pos (by rw [txt_size, txt_size]; omega), txt_app, ← hd]
theorem neg_ev : ∀ (m u : Nat), u ≤ m → 1 ≤ u → u ≤ 9223372036854775808 → Ev (D (-(u : Int))) (txt (45 :: Lib.decDigits u)) := by
  intro m
  induction m with
  | zero => intro u hu h1; omega
  | succ m ih =>
    intro u hu h1 hmax
    by_cases h10 : u < 10
    · obtain ⟨k1, g1⟩ := nat_ev u u (Nat.le_refl _) (by omega)
      have e1 : wrap64 (- -(u : Int)) = (u : Int) := by rw [Int.neg_neg, wr _ (by omega) (by omega)]
      have l1 := dec_len (u := u) (by omega)
      refine ⟨k1 + 2, fun k hk => ?_⟩
      obtain ⟨j, rfl⟩ : ∃ j, k = j + 2 := ⟨k - 2, by omega⟩
      have g : deadfallref09_Digits.f j (u : Int) = some (txt (Lib.decDigits u)) := g1 j (by omega)
      show deadfallref09_Digits.f (j + 1 + 1) (-(u : Int)) = _
      rw [deadfallref09_Digits.f, if_pos (by omega), decide_eq_true (show -(u : Int) > -10 by omega), deadfallref09_Digits.j0, if_pos rfl, e1, g, Option.bind_some, if_pos (by rw [txt_size]; omega)]
      rw [show (⟨#[45]⟩ : ByteArray) = txt [45] from rfl, txt_app]
      rfl
    · obtain ⟨k1, g1⟩ := ih (u / 10) (by omega) (by omega) (by omega)
      obtain ⟨k2, g2⟩ := nat_ev (u % 10) (u % 10) (Nat.le_refl _) (by omega)
      have e1 : wrap64 (Int.tdiv (-(u : Int)) 10) = -((u / 10 : Nat) : Int) := by
        rw [Int.neg_tdiv, Int.tdiv_eq_ediv_of_nonneg (by omega), wr _ (by omega) (by omega)]
        omega
      have e2 : wrap64 (-(Int.tmod (-(u : Int)) 10)) = ((u % 10 : Nat) : Int) := by
        rw [Int.neg_tmod, Int.neg_neg, Int.tmod_eq_emod_of_nonneg (by omega), wr _ (by omega) (by omega)]
        omega
      have hd : Lib.decDigits u = Lib.decDigits (u / 10) ++ Lib.decDigits (u % 10) := by
        conv => lhs; rw [Lib.decDigits, dif_neg h10]
        congr 1
        rw [Lib.decDigits, dif_pos (by omega)]
      have l1 := dec_len (u := u / 10) (by omega)
      have l2 := dec_len (u := u % 10) (by omega)
      refine ⟨max k1 k2 + 2, fun k hk => ?_⟩
      obtain ⟨j, rfl⟩ : ∃ j, k = j + 2 := ⟨k - 2, by omega⟩
      have q1 : deadfallref09_Digits.f j (-((u / 10 : Nat) : Int)) = some (txt (45 :: Lib.decDigits (u / 10))) := g1 j (by omega)
      have q2 : deadfallref09_Digits.f j ((u % 10 : Nat) : Int) = some (txt (Lib.decDigits (u % 10))) := g2 j (by omega)
      show deadfallref09_Digits.f (j + 1 + 1) (-(u : Int)) = _
      rw [deadfallref09_Digits.f, if_pos (by omega), decide_eq_false (show ¬ -(u : Int) > -10 by omega), deadfallref09_Digits.j0, if_neg (by decide), if_pos (by omega), e1, e2, q1, q2, Option.bind_some, Option.bind_some, if_pos (by rw [txt_size, txt_size, List.length_cons]; omega), txt_app, hd]
      rfl
theorem dig_ev (n : Int) (h0 : -9223372036854775808 ≤ n) (h1 : n ≤ 9223372036854775807) : Ev (D n) (txt (Lib.itoa n)) := by
  by_cases hn : n < 0
  · rw [itoa_neg hn]
    have h := neg_ev n.natAbs n.natAbs (Nat.le_refl _) (by omega) (by omega)
    rw [show -(n.natAbs : Int) = n by omega] at h
    exact h
  · obtain ⟨u, rfl⟩ : ∃ u : Nat, n = (u : Int) := ⟨n.toNat, by omega⟩
    rw [itoa_nat]
    exact nat_ev u u (Nat.le_refl _) (by omega)
end Go.Proofs.YtdglcnchdhojnaaDoor.Num
