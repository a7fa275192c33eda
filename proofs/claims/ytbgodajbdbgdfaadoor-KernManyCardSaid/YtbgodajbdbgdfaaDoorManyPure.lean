/- kern: the tables of KernMany, round by round: plain laws. -/
import Derived.Test.YtbgodajbdbgdfaaDoorProcAlive
namespace Go.Proofs.YtbgodajbdbgdfaaDoor.Kern
open Go.RowKit
set_option linter.unusedVariables false
set_option linter.unusedSimpArgs false
/-- The first process, and n that have ended. -/
def manyT (n : Nat) : Tb := fun q => if q = 1 then some (p0 0) else if 2 ≤ q ∧ q ≤ (n : Int) + 1 then some ⟨1, false, q - 2, 0, 0, 0⟩ else none
theorem many_zero : manyT 0 = one 0 := by
  funext q
  unfold manyT one
  by_cases h : q = 1
  · rw [if_pos h, if_pos h]
  · rw [if_neg h, if_neg h, if_neg (by omega)]
theorem many_first (n : Nat) : manyT n 1 = some (p0 0) := if_pos rfl
theorem many_at {n : Nat} {q : Int} (h0 : 2 ≤ q) (h1 : q ≤ (n : Int) + 1) : manyT n q = some ⟨1, false, q - 2, 0, 0, 0⟩ := by
  unfold manyT
  rw [if_neg (by omega), if_pos ⟨h0, h1⟩]
theorem many_off {n : Nat} {q : Int} (h : q ≠ 1) (h1 : ¬ (2 ≤ q ∧ q ≤ (n : Int) + 1)) : manyT n q = none := by
  unfold manyT
  rw [if_neg h, if_neg h1]
/-- .. and one more, that is live. -/
def forkT (n : Nat) : Tb := upd (manyT n) ((n : Int) + 2) (some ⟨1, true, 0, 0, 0, 0⟩)
theorem fork_at (n : Nat) : forkT n ((n : Int) + 2) = some ⟨1, true, 0, 0, 0, 0⟩ := upd_same _ _ _
theorem fork_first (n : Nat) : forkT n 1 = some (p0 0) := (upd_other (by omega)).trans (many_first n)
theorem fork_exit (n : Nat) : endd (forkT n) ((n : Int) + 2) (n : Int) = manyT (n + 1) := by
  funext q
  by_cases h : q = (n : Int) + 2
  · subst h
    rw [endd_at (fork_at n) (by unfold liv; rw [fork_first]), many_at (by omega) (by omega)]
    simp
  · rw [endd_other (fork_at n) h]
    unfold forkT
    rw [upd_other h]
    by_cases h1 : q = 1
    · subst h1
      rw [many_first, many_first]
      show aft ((n : Int) + 2) 1 (p0 0) = _
      unfold aft
      rw [if_neg (by show ¬ (0 : Int) = (n : Int) + 2; omega)]
    · by_cases h2 : 2 ≤ q ∧ q ≤ (n : Int) + 1
      · rw [many_at h2.1 h2.2, many_at h2.1 (by omega)]
        show aft ((n : Int) + 2) q ⟨1, false, q - 2, 0, 0, 0⟩ = _
        unfold aft
        rw [if_neg (by show ¬ (1 : Int) = (n : Int) + 2; omega)]
      · rw [many_off h1 h2, many_off h1 (by omega)]
        rfl
/-- All that there are. -/
def manyL (n : Nat) : List Int := 1 :: (List.range n).map fun i : Nat => (i : Int) + 2
theorem manyL_len (n : Nat) : (manyL n).length = n + 1 := by simp [manyL]
theorem manyL_nodup (n : Nat) : (manyL n).Nodup := by
  unfold manyL
  rw [List.nodup_cons]
  constructor
  · intro h
    obtain ⟨i, _, e⟩ := List.mem_map.1 h
    omega
  · rw [List.nodup_iff_pairwise_ne, List.pairwise_map]
    refine (List.nodup_iff_pairwise_ne.1 List.nodup_range).imp ?_
    intro a b h e
    apply h
    omega
theorem manyL_mem (n : Nat) : ∀ q, q ∈ manyL n ↔ manyT n q ≠ none := by
  intro q
  unfold manyL
  rw [List.mem_cons, List.mem_map]
  by_cases h1 : q = 1
  · subst h1
    rw [many_first]
    simp
  · by_cases h2 : 2 ≤ q ∧ q ≤ (n : Int) + 1
    · rw [many_at h2.1 h2.2]
      constructor
      · intro _; simp
      · intro _
        exact .inr ⟨(q - 2).toNat, by rw [List.mem_range]; omega, by omega⟩
    · rw [many_off h1 h2]
      constructor
      · rintro (h | ⟨i, hi, e⟩)
        · exact absurd h h1
        · rw [List.mem_range] at hi
          omega
      · intro h; exact absurd rfl h
theorem many_ch (n : Nat) (q : Int) : chB (manyT n) 1 q = (decide (2 ≤ q) && decide (q ≤ (n : Int) + 1)) := by
  unfold chB
  by_cases h1 : q = 1
  · subst h1
    rw [many_first]
    rfl
  · by_cases h2 : 2 ≤ q ∧ q ≤ (n : Int) + 1
    · rw [many_at h2.1 h2.2, decide_eq_true h2.1, decide_eq_true h2.2]
      show ((1 : Int) == 1 && liv (manyT n) 1) = _
      unfold liv
      rw [many_first]
      rfl
    · rw [many_off h1 h2]
      by_cases h3 : 2 ≤ q
      · rw [decide_eq_true h3, decide_eq_false (show ¬ q ≤ (n : Int) + 1 by omega)]; rfl
      · rw [decide_eq_false h3]; rfl
theorem many_count (n : Nat) : ((manyL n).filter (chB (manyT n) 1)).length = n := by
  unfold manyL
  rw [List.filter_cons, if_neg (by rw [many_ch]; simp), List.filter_map, List.length_map, List.filter_eq_self.2, List.length_range]
  intro i hi
  rw [List.mem_range] at hi
  show chB (manyT n) 1 ((i : Int) + 2) = true
  rw [many_ch, decide_eq_true (by omega), decide_eq_true (by omega)]
  rfl
/-- Who is reaped leaves nothing. -/
def oneF (i : Int) : Tb := upd (one 0) (i + 2) (some ⟨1, true, 0, 0, 0, 0⟩)
theorem oneF_at (i : Int) : oneF i (i + 2) = some ⟨1, true, 0, 0, 0, 0⟩ := upd_same _ _ _
theorem oneF_first {i : Int} (h : 0 ≤ i) : oneF i 1 = some (p0 0) := (upd_other (by omega)).trans (if_pos rfl)
theorem oneF_exit {i : Int} (h : 0 ≤ i) : endd (oneF i) (i + 2) i (i + 2) = some ⟨1, false, i, 0, 0, 0⟩ := endd_at (oneF_at i) (by unfold liv; show (match oneF i 1 with | some r => r.live | none => false) = true; rw [oneF_first h])
theorem oneF_ch {i : Int} (h : 0 ≤ i) : chB (endd (oneF i) (i + 2) i) 1 (i + 2) = true := by
  unfold chB
  rw [oneF_exit h]
  show ((1 : Int) == 1 && liv (endd (oneF i) (i + 2) i) 1) = true
  unfold liv
  rw [endd_other (oneF_at i) (show (1 : Int) ≠ i + 2 by omega), oneF_first h]
  show ((1 : Int) == 1 && (match aft (i + 2) 1 (p0 0) with | some r => r.live | none => false)) = true
  unfold aft
  rw [if_neg (by show ¬ (0 : Int) = i + 2; omega)]
  rfl
theorem oneF_reap {i : Int} (h : 0 ≤ i) : upd (endd (oneF i) (i + 2) i) (i + 2) none = one 0 := by
  funext q
  by_cases e : q = i + 2
  · subst e
    rw [upd_same]
    unfold one
    rw [if_neg (show ¬ i + 2 = 1 by omega)]
  · rw [upd_other e, endd_other (oneF_at i) e]
    unfold oneF
    rw [upd_other e]
    unfold one
    by_cases h1 : q = 1
    · rw [if_pos h1]
      show aft (i + 2) q (p0 0) = _
      unfold aft
      rw [if_neg (by show ¬ (0 : Int) = i + 2; omega)]
    · rw [if_neg h1]; rfl
end Go.Proofs.YtbgodajbdbgdfaaDoor.Kern
