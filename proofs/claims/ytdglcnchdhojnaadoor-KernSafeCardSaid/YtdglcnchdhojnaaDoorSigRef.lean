/- sig: the document's answer, in plain words. -/
import Derived.Test.YtdglcnchdhojnaaDoorSigPure
import Derived.Test.YtdglcnchdhojnaaDoorR1
namespace Go.Proofs.YtdglcnchdhojnaaDoor.Sig
open Go.RowKit Go.Proofs.YtdglcnchdhojnaaDoorW.PrintWords Go.Proofs.YtdglcnchdhojnaaDoor.R
set_option linter.unusedVariables false
set_option linter.unusedSimpArgs false
theorem wr (x : Int) (h0 : -9223372036854775808 ≤ x) (h1 : x ≤ 9223372036854775807) : wrap64 x = x := by unfold wrap64; omega
/-- A signal's name. -/
def name (s : Int) : ByteArray := if 1 ≤ s ∧ s ≤ 31 then nm s.toNat else ⟨#[]⟩
theorem rname_f (s : Int) (h0 : -9223372036854775808 ≤ s) (h1 : s ≤ 9223372036854775807) : deadfallref01_Name.f s = some (name s) := by
  unfold deadfallref01_Name.f deadfallref01_Is.f name
  by_cases h : s ≥ 1
  · rw [if_pos h]
    by_cases h2 : s ≤ 31
    · rw [Option.bind_some, if_pos (decide_eq_true h2), if_pos ⟨h, h2⟩]
      have key : ∀ i : Fin 31, ((deadfallref01_Names.f).bind fun t105 => (if 0 ≤ (wrap64 (((i.val + 1 : Nat) : Int) - 1)) then (if (wrap64 (((i.val + 1 : Nat) : Int) - 1)) < (t105.length : Int) then (some (rdOf ByteArray.empty t105 (wrap64 (((i.val + 1 : Nat) : Int) - 1)))) else (none)) else (none))) = some (nm (i.val + 1)) := by decide +kernel
      have := key ⟨s.toNat - 1, by omega⟩
      rw [show ((s.toNat - 1 + 1 : Nat) : Int) = s by omega, show s.toNat - 1 + 1 = s.toNat by omega] at this
      exact this
    · rw [Option.bind_some, if_neg (by simpa using h2), if_neg (by omega)]
  · rw [if_neg h, Option.bind_some, if_neg (by decide), if_neg (by omega)]
theorem rdig_ev (s : Nat) (h1 : 1 ≤ s) (h2 : s ≤ 31) : Ev (fun k => deadfallref01_digits.f k (s : Int)) (dg s) := by
  rw [dg_tab s h1 h2]
  have key : ∀ i : Fin 31, deadfallref01_digits.f 5 ((i.val + 1 : Nat) : Int) = some (dgT.getD (i.val + 1) ByteArray.empty) := by decide +kernel
  have := key ⟨s - 1, by omega⟩
  rw [show s - 1 + 1 = s by omega] at this
  exact Ev.of (deadfallref01_digits.mono _) this
theorem eq_toList {a b : ByteArray} : a.toList = b.toList ↔ a = b := by
  constructor
  · intro h
    rw [ByteArray.toList_eq, ByteArray.toList_eq] at h
    apply ByteArray.ext
    exact Array.ext' h
  · intro h; rw [h]
theorem rnum_loop (t : ByteArray) : ∀ (d s : Nat), s + d = 32 → 1 ≤ s → Ev (fun k => deadfallref01_Number.l0 k t (s : Int)) (fnd t d s) := by
  intro d
  induction d with
  | zero =>
    intro s hs h1
    refine Ev.step (f := fun _ => some 0) (fun k => ?_) (Ev.now _)
    show deadfallref01_Number.l0 (k + 1) t (s : Int) = _
    rw [deadfallref01_Number.l0, if_neg (by omega)]
  | succ d ih =>
    intro s hs h1
    have hn : deadfallref01_Name.f (s : Int) = some (nm s) := by
      rw [rname_f _ (by omega) (by omega)]
      unfold name
      rw [if_pos (by omega), Int.toNat_natCast]
    show Ev _ (if t = nm s ∨ t = dg s then (s : Int) else fnd t d (s + 1))
    by_cases e1 : t = nm s
    · rw [if_pos (Or.inl e1)]
      refine Ev.step (f := fun _ => some (s : Int)) (fun k => ?_) (Ev.now _)
      show deadfallref01_Number.l0 (k + 1) t (s : Int) = _
      rw [deadfallref01_Number.l0, if_pos (by omega), hn, Option.bind_some, if_pos (eq_toList.2 e1)]
    · obtain ⟨k0, hk0⟩ := rdig_ev s h1 (by omega)
      by_cases e2 : t = dg s
      · rw [if_pos (Or.inr e2)]
        refine ⟨k0 + 1, fun k hk => ?_⟩
        obtain ⟨j, rfl⟩ : ∃ j, k = j + 1 := ⟨k - 1, by omega⟩
        have g : deadfallref01_digits.f j (s : Int) = some (dg s) := hk0 j (by omega)
        show deadfallref01_Number.l0 (j + 1) t (s : Int) = _
        rw [deadfallref01_Number.l0, if_pos (by omega), hn, Option.bind_some, if_neg (fun h => e1 (eq_toList.1 h)), g, Option.bind_some, if_pos (eq_toList.2 e2)]
      · rw [if_neg (by rintro (e | e); exact e1 e; exact e2 e)]
        obtain ⟨k1, hk1⟩ := ih (s + 1) (by omega) (by omega)
        refine ⟨max k0 k1 + 1, fun k hk => ?_⟩
        obtain ⟨j, rfl⟩ : ∃ j, k = j + 1 := ⟨k - 1, by omega⟩
        have g : deadfallref01_digits.f j (s : Int) = some (dg s) := hk0 j (by omega)
        have g2 : deadfallref01_Number.l0 j t ((s + 1 : Nat) : Int) = some (fnd t d (s + 1)) := hk1 j (by omega)
        show deadfallref01_Number.l0 (j + 1) t (s : Int) = _
        rw [deadfallref01_Number.l0, if_pos (by omega), hn, Option.bind_some, if_neg (fun h => e1 (eq_toList.1 h)), g, Option.bind_some, if_neg (fun h => e2 (eq_toList.1 h)), wr ((s : Int) + 1) (by omega) (by omega)]
        exact g2
theorem rnum_ev (t : ByteArray) : Ev (fun k => deadfallref01_Number.f k t) (num t) := rnum_loop t 31 1 rfl (Nat.le_refl _)
/-- A text's signal, or 0 for the end; -1: there is none. -/
def cond (t : ByteArray) : Int := if t.toList = ([48] : List UInt8) ∨ t.toList = ([69, 88, 73, 84] : List UInt8) then 0 else if num t = 0 then -1 else num t
theorem rcond_ev (t : ByteArray) : Ev (fun k => deadfallref01_Cond.f k t) (cond t) := by
  have zero : Ev (fun k => deadfallref01_Cond.j0 k t true) 0 := by
    refine Ev.step (f := fun _ => some 0) (fun k => ?_) (Ev.now _)
    show deadfallref01_Cond.j0 (k + 1) t true = _
    rw [deadfallref01_Cond.j0, if_pos rfl]
  unfold deadfallref01_Cond.f cond
  by_cases h1 : t.toList = ([48] : List UInt8)
  · rw [if_pos (Or.inl h1)]
    exact Ev.congr (fun k => if_pos h1) zero
  · by_cases h2 : t.toList = ([69, 88, 73, 84] : List UInt8)
    · rw [if_pos (Or.inr h2)]
      refine Ev.congr (fun k => by rw [if_neg h1, show (t.toList == ([69, 88, 73, 84] : List UInt8)) = true from by rw [h2]; rfl]) zero
    · rw [if_neg (by rintro (e | e); exact h1 e; exact h2 e)]
      obtain ⟨k0, hk0⟩ := rnum_ev t
      refine Ev.congr (f := fun k => deadfallref01_Cond.j0 k t false) (fun k => by rw [if_neg h1, show (t.toList == ([69, 88, 73, 84] : List UInt8)) = false from by rw [beq_eq_false_iff_ne]; exact h2]) ?_
      refine ⟨k0 + 1, fun k hk => ?_⟩
      obtain ⟨j, rfl⟩ : ∃ j, k = j + 1 := ⟨k - 1, by omega⟩
      have g : deadfallref01_Number.f j t = some (num t) := hk0 j (by omega)
      show deadfallref01_Cond.j0 (j + 1) t false = _
      rw [deadfallref01_Cond.j0, if_neg (by decide), g, Option.bind_some]
      by_cases h0 : num t = 0
      · rw [if_pos h0, if_pos h0]
      · rw [if_neg h0, if_neg h0, Option.bind_some]
end Go.Proofs.YtdglcnchdhojnaaDoor.Sig
