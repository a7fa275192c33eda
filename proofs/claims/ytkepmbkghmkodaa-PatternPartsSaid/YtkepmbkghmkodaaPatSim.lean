/- pattern: the program's answer is the document's. -/
import Derived.Test.YtkepmbkghmkodaaPatRef
namespace Go.Proofs.Ytkepmbkghmkodaa.Pat
open Go.RowKit Go.Proofs.YtkepmbkghmkodaaW.PrintWords Go.Proofs.YtkepmbkghmkodaaW.PrintLast Go.Proofs.Ytkepmbkghmkodaa.Base Go.Proofs.Ytkepmbkghmkodaa.P
set_option linter.unusedVariables false
/-! ### suffixes -/
theorem isC_drop (M : List Ch) (p k : Nat) (c : Int) : isC (M.drop p) k c = isC M (p + k) c := by
  by_cases h : p + k < M.length
  · rw [isC_lt h, isC_lt (by rw [List.length_drop]; omega), List.getElem_drop]
  · rw [isC_ge h, isC_ge (by rw [List.length_drop]; omega)]
theorem byteAt_drop (M : List Ch) (p k : Nat) : byteAt (M.drop p) k = byteAt M (p + k) := by
  by_cases h : p + k < M.length
  · rw [byteAt_lt h, byteAt_lt (by rw [List.length_drop]; omega), List.getElem_drop]
  · unfold byteAt
    rw [dif_neg h, dif_neg (by rw [List.length_drop]; omega)]
theorem memb_drop (M : List Ch) (p k : Nat) : memb (M.drop p) k = memb M (p + k) := by
  unfold memb
  rw [isC_drop, isC_drop, List.length_drop, show p + (k + 1) = p + k + 1 by omega, show p + (k + 2) = p + k + 2 by omega]
  have : decide (k + 2 < M.length - p) = decide (p + k + 2 < M.length) := by
    by_cases h : p + k + 2 < M.length
    · rw [decide_eq_true h, decide_eq_true (by omega)]
    · rw [decide_eq_false h, decide_eq_false (by omega)]
  rw [this]
theorem endF_drop (M : List Ch) (p f : Nat) : ∀ (n k : Nat), M.length - (p + k) ≤ n → endF (M.drop p) f k = (endF M (p + f) (p + k)).map (fun e => e - p) := by
  intro n
  induction n with
  | zero =>
    intro k hn
    rw [endF_none (by rw [List.length_drop]; omega), endF_none (by omega)]; rfl
  | succ n ih =>
    intro k hn
    by_cases h : p + k < M.length
    · have hd : k < (M.drop p).length := by rw [List.length_drop]; omega
      have hp := memb_pos M (p + k)
      have e1 : decide (f < k) = decide (p + f < p + k) := by
        by_cases h : f < k
        · rw [decide_eq_true h, decide_eq_true (by omega)]
        · rw [decide_eq_false h, decide_eq_false (by omega)]
      cases h1 : (decide (p + f < p + k) && isC M (p + k) 93) with
      | true =>
        rw [endF_at h h1, endF_at hd (by rw [isC_drop, e1, h1])]
        simp
      | false =>
        rw [endF_step h h1, endF_step hd (by rw [isC_drop, e1, h1]), memb_drop, show p + k + memb M (p + k) = p + (k + memb M (p + k)) by omega]
        exact ih _ (by omega)
    · rw [endF_none (by rw [List.length_drop]; omega), endF_none h]; rfl
theorem hasF_drop (M : List Ch) (p e : Nat) (c : Int) : ∀ (n k : Nat), e - k ≤ n → hasF (M.drop p) k e c = hasF M (p + k) (p + e) c := by
  intro n
  induction n with
  | zero => intro k hn; rw [hasF_end (by omega), hasF_end (by omega)]
  | succ n ih =>
    intro k hn
    by_cases h : k < e
    · have hp := memb_pos M (p + k)
      rw [hasF_step (l := M.drop p) h, hasF_step (l := M) (show p + k < p + e by omega), byteAt_drop, memb_drop, byteAt_drop, show p + (k + memb M (p + k) - 1) = p + k + memb M (p + k) - 1 by omega, ih _ (by omega), show p + (k + memb M (p + k)) = p + k + memb M (p + k) by omega]
    · rw [hasF_end h, hasF_end (by omega)]
/-! ### one place of the pattern, at a place of its bytes -/
def thAt (M : List Ch) (p : Nat) : Th := match M.drop p with
  | [] => default
  | x :: r => (nextT (x :: r) x).1
def lenAt (M : List Ch) (p : Nat) : Nat := match M.drop p with
  | [] => 1
  | x :: r => (nextT (x :: r) x).2
theorem drop_cons {M : List Ch} {p : Nat} (h : p < M.length) : M.drop p = M[p] :: M.drop (p + 1) := List.drop_eq_getElem_cons h
theorem at_eq {M : List Ch} {p : Nat} (h : p < M.length) : thAt M p = (nextT (M.drop p) M[p]).1 ∧ lenAt M p = (nextT (M.drop p) M[p]).2 := by
  unfold thAt lenAt
  rw [drop_cons h]
  exact ⟨rfl, rfl⟩
theorem isC_excl {M : List Ch} {p : Nat} {a b : Int} (h : isC M p a = true) (hne : a ≠ b) : isC M p b = false := by
  by_cases hp : p < M.length
  · rw [isC_lt hp] at h ⊢
    unfold isB at h ⊢
    simp only [Bool.and_eq_true, beq_iff_eq] at h
    rw [beq_eq_false_iff_ne.2 (by rw [h.1]; exact hne)]; rfl
  · rw [isC_ge hp] at h; cases h
structure Place (M : List Ch) (p : Nat) : Prop where
  star : (thAt M p).kind = 2 ↔ isC M p 42 = true
  has : ∀ c : Int, 0 ≤ c → c < 256 → isC M p 42 = false → (thAt M p).has c = (match endO M p with
    | some e => hasF M (p + fst M p) e c != isC M (p + 1) 33
    | none => isC M p 63 || byteAt M p == c)
  len : lenAt M p = (match endO M p with | some e => e + 1 - p | none => 1)
theorem place {M : List Ch} {p : Nat} (h : p < M.length) : Place M p := by
  obtain ⟨e1, e2⟩ := at_eq h
  have i63 : isB M[p] 63 = isC M p 63 := (isC_lt h).symm
  have i42 : isB M[p] 42 = isC M p 42 := (isC_lt h).symm
  have i91 : isB M[p] 91 = isC M p 91 := (isC_lt h).symm
  have hby : byteAt M p = M[p].f0 := byteAt_lt h
  have hfst : (if isC (M.drop p) 1 33 = true then 2 else 1) = fst M p := by rw [isC_drop]; rfl
  have hN : nextT (M.drop p) M[p] = if isC M p 63 then (⟨1, M[p].f0, zeroSet⟩, 1) else if isC M p 42 then (⟨2, M[p].f0, zeroSet⟩, 1) else if isC M p 91 then
      (match endF M (p + fst M p) (p + fst M p) with
      | some e => (TH 3 fun c => hasF M (p + fst M p) e (c : Int) != isC M (p + 1) 33, e + 1 - p)
      | none => (⟨0, M[p].f0, zeroSet⟩, 1)) else (⟨0, M[p].f0, zeroSet⟩, 1) := by
    unfold nextT
    rw [i63, i42, i91, hfst, endF_drop M p _ _ _ (Nat.le_refl _), isC_drop]
    congr 3
    cases he : endF M (p + fst M p) (p + fst M p) with
    | none => rfl
    | some e =>
      have hl := (endF_lt _ _ _ (Nat.le_refl _) he).1
      simp only [Option.map_some]
      have : (fun c : Nat => hasF (M.drop p) (fst M p) (e - p) (c : Int) != isC M (p + 1) 33) = fun c : Nat => hasF M (p + fst M p) e (c : Int) != isC M (p + 1) 33 := by
        funext c
        rw [hasF_drop M p _ _ _ _ (Nat.le_refl _), show p + (e - p) = e by omega]
      rw [this, show e - p + 1 = e + 1 - p by omega]
  rw [hN] at e1 e2
  cases h63 : isC M p 63 with
  | true =>
    have h42 : isC M p 42 = false := isC_excl h63 (by decide)
    have h91 : isC M p 91 = false := isC_excl h63 (by decide)
    rw [h63] at e1 e2
    have he : endO M p = none := by unfold endO; rw [h91]; rfl
    exact ⟨by rw [e1, h42]; simp, fun c _ _ _ => by rw [e1, he, h63]; simp [Th.has], by rw [e2, he]; rfl⟩
  | false =>
    rw [h63] at e1 e2
    cases h42 : isC M p 42 with
    | true =>
      have h91 : isC M p 91 = false := isC_excl h42 (by decide)
      have he : endO M p = none := by unfold endO; rw [h91]; rfl
      rw [h42] at e1 e2
      exact ⟨by rw [e1, h42]; simp, fun c _ _ h => absurd (h42.symm.trans h) (by decide), by rw [e2, he]; rfl⟩
    | false =>
      rw [h42] at e1 e2
      cases h91 : isC M p 91 with
      | false =>
        have he : endO M p = none := by unfold endO; rw [h91]; rfl
        rw [h91] at e1 e2
        exact ⟨by rw [e1, h42]; simp, fun c _ _ _ => by rw [e1, he, h63, hby]; simp [Th.has], by rw [e2, he]; rfl⟩
      | true =>
        rw [h91] at e1 e2
        have he : endO M p = endF M (p + fst M p) (p + fst M p) := by unfold endO; rw [h91]; rfl
        cases hE : endF M (p + fst M p) (p + fst M p) with
        | none =>
          rw [hE] at e1 e2 he
          exact ⟨by rw [e1, h42]; simp, fun c _ _ _ => by rw [e1, he, h63, hby]; simp [Th.has], by rw [e2, he]; rfl⟩
        | some e =>
          rw [hE] at e1 e2 he
          refine ⟨by rw [e1, h42]; simp [TH], fun c hc0 hc1 _ => ?_, by rw [e2, he]; rfl⟩
          rw [e1, he]
          simp only [if_true, Bool.false_eq_true, if_false, Th.has, TH]
          (try rw [if_neg (by decide), if_pos rfl])
          rw [bl_get _ (by omega), show ((c.toNat : Nat) : Int) = c by omega]
          (try rw [if_neg (by decide)])
theorem lenAt_pos (M : List Ch) (p : Nat) : 1 ≤ lenAt M p := by
  unfold lenAt
  split
  · exact Nat.le_refl _
  · exact nextT_pos _ _
theorem lenAt_le {M : List Ch} {p : Nat} (h : p < M.length) : p + lenAt M p ≤ M.length := by
  rw [(at_eq h).2]
  have := nextT_le (M.drop p) M[p] (by rw [List.length_drop]; omega)
  rw [List.length_drop] at this
  omega
theorem star_len {M : List Ch} {p : Nat} (h : p < M.length) (hs : isC M p 42 = true) : lenAt M p = 1 := by
  have h91 : isC M p 91 = false := isC_excl hs (by decide)
  rw [(place h).len]
  unfold endO
  rw [h91]; rfl
theorem contR_eq {M : List Ch} {p : Nat} (h : p < M.length) (l : List Bool) (c : Int) (h0 : 0 ≤ c) (h1 : c < 256) : contR M l c p = if l.getD p false = true then (if isC M p 42 = true then some p else if (thAt M p).has c = true then some (p + lenAt M p) else none) else none := by
  unfold contR
  cases l.getD p false with
  | false => rfl
  | true =>
    rw [if_pos rfl, if_pos rfl]
    cases hs : isC M p 42 with
    | true => rfl
    | false =>
      rw [if_neg (show ¬ (false = true) by decide), if_neg (show ¬ (false = true) by decide), (place h).has c h0 h1 hs, (place h).len]
      cases he : endO M p with
      | none => rfl
      | some e =>
        have hl : p ≤ e := by
          unfold endO at he
          split at he
          · have := (endF_lt _ _ _ (Nat.le_refl _) he).1; omega
          · cases he
        simp only
        rw [show p + (e + 1 - p) = e + 1 by omega]
/-! ### positions -/
def pos (M : List Ch) : Nat → Nat
  | 0 => 0
  | j + 1 => pos M j + lenAt M (pos M j)
theorem pos_mono (M : List Ch) {i j : Nat} (h : i < j) : pos M i < pos M j := by
  induction j with
  | zero => omega
  | succ j ih =>
    have := lenAt_pos M (pos M j)
    show pos M i < pos M j + lenAt M (pos M j)
    rcases Nat.lt_or_ge i j with h1 | h1
    · have := ih h1; omega
    · obtain rfl : i = j := by omega
      omega
theorem pos_inj (M : List Ch) {i j : Nat} (h : pos M i = pos M j) : i = j := by
  rcases Nat.lt_trichotomy i j with h1 | h1 | h1
  · have := pos_mono M h1; omega
  · exact h1
  · have := pos_mono M h1; omega
theorem things_drop (M : List Ch) : ∀ j, j ≤ (thingsL M).length → pos M j ≤ M.length ∧ thingsL (M.drop (pos M j)) = (thingsL M).drop j
  | 0, _ => ⟨Nat.zero_le _, by simp [pos]⟩
  | j + 1, h => by
    obtain ⟨h1, h2⟩ := things_drop M j (by omega)
    have hlt : pos M j < M.length := by
      rcases Nat.lt_or_ge (pos M j) M.length with h3 | h3
      · exact h3
      · rw [List.drop_of_length_le h3, thingsL_nil] at h2
        have := congrArg List.length h2
        rw [List.length_drop, List.length_nil] at this
        omega
    have hle := lenAt_le hlt
    refine ⟨hle, ?_⟩
    show thingsL (M.drop (pos M j + lenAt M (pos M j))) = _
    have hd := drop_cons hlt
    rw [hd, thingsL_cons, ← hd, ← (at_eq hlt).2, List.drop_drop] at h2
    have h3 : (thingsL M).drop (j + 1) = ((thingsL M).drop j).tail := by rw [List.tail_drop]
    rw [h3, ← h2]
    rfl
theorem things_get {M : List Ch} {j : Nat} (h : j < (thingsL M).length) : pos M j < M.length ∧ (thingsL M).getD j default = thAt M (pos M j) := by
  obtain ⟨h1, h2⟩ := things_drop M j (by omega)
  have hlt : pos M j < M.length := by
    rcases Nat.lt_or_ge (pos M j) M.length with h3 | h3
    · exact h3
    · rw [List.drop_of_length_le h3, thingsL_nil] at h2
      have := congrArg List.length h2
      rw [List.length_drop, List.length_nil] at this
      omega
  refine ⟨hlt, ?_⟩
  have hd := drop_cons hlt
  rw [hd, thingsL_cons, ← hd, ← (at_eq hlt).1] at h2
  have h3 : (thingsL M).drop j = (thingsL M)[j] :: (thingsL M).drop (j + 1) := List.drop_eq_getElem_cons h
  rw [h3] at h2
  injection h2 with h4 _
  rw [h4]
  simp [List.getD_eq_getElem?_getD, List.getElem?_eq_getElem h]
theorem pos_end (M : List Ch) : pos M (thingsL M).length = M.length := by
  obtain ⟨h1, h2⟩ := things_drop M _ (Nat.le_refl _)
  rw [List.drop_length] at h2
  rcases Nat.lt_or_ge (pos M (thingsL M).length) M.length with h | h
  · rw [drop_cons h, thingsL_cons] at h2; cases h2
  · omega
/-! ### folds and chains, place by place -/
theorem getD_set (l : List Bool) (i j : Nat) (b : Bool) : (l.set i b).getD j false = if i = j ∧ i < l.length then b else l.getD j false := by
  simp only [List.getD_eq_getElem?_getD, List.getElem?_set]
  by_cases h : i = j
  · subst h
    by_cases h2 : i < l.length
    · simp [h2]
    · simp [h2]
  · simp [h]
theorem fold_get (f : Nat → Option Nat) (len : Nat) : ∀ (k p : Nat), (foldC f len k).getD p false = true ↔ p < len ∧ ∃ i, i < k ∧ f i = some p
  | 0, p => by
    constructor
    · intro h
      simp only [foldC, List.getD_eq_getElem?_getD, List.getElem?_replicate] at h
      split at h <;> simp at h
    · rintro ⟨_, i, hi, _⟩; omega
  | k + 1, p => by
    have ih := fold_get f len k p
    have hl := foldC_len f len k
    show (putC (foldC f len k) (f k)).getD p false = true ↔ _
    cases hf : f k with
    | none =>
      show (foldC f len k).getD p false = true ↔ _
      rw [ih]
      constructor
      · rintro ⟨h1, i, hi, h2⟩; exact ⟨h1, i, by omega, h2⟩
      · rintro ⟨h1, i, hi, h2⟩
        refine ⟨h1, i, ?_, h2⟩
        rcases Nat.lt_or_ge i k with h3 | h3
        · exact h3
        · obtain rfl : i = k := by omega
          rw [hf] at h2; cases h2
    | some t =>
      show ((foldC f len k).set t true).getD p false = true ↔ _
      rw [getD_set, hl]
      by_cases ht : t = p ∧ t < len
      · rw [if_pos ht]
        obtain ⟨rfl, ht⟩ := ht
        exact ⟨fun _ => ⟨ht, k, by omega, hf⟩, fun _ => rfl⟩
      · rw [if_neg ht, ih]
        constructor
        · rintro ⟨h1, i, hi, h2⟩; exact ⟨h1, i, by omega, h2⟩
        · rintro ⟨h1, i, hi, h2⟩
          refine ⟨h1, i, ?_, h2⟩
          rcases Nat.lt_or_ge i k with h3 | h3
          · exact h3
          · obtain rfl : i = k := by omega
            rw [hf] at h2
            injection h2 with h2
            exact absurd ⟨h2, by omega⟩ ht
def cv (f : Nat → Bool) (l : List Bool) : Nat → Bool
  | 0 => l.getD 0 false
  | p + 1 => l.getD (p + 1) false || (cv f l p && f p)
theorem chain_get (f : Nat → Bool) (l : List Bool) : ∀ (k p : Nat), k < l.length → (chainN f l k).getD p false = if p ≤ k then cv f l p else l.getD p false
  | 0, p, h => by
    show l.getD p false = _
    by_cases hp : p ≤ 0
    · obtain rfl : p = 0 := by omega
      rfl
    · rw [if_neg hp]
  | k + 1, p, h => by
    have ih := fun q => chain_get f l k q (by omega)
    have hl := chainN_len f l k
    have hk : (chainN f l k).getD k false = cv f l k := by rw [ih k, if_pos (Nat.le_refl _)]
    have hk1 : (chainN f l k).getD (k + 1) false = l.getD (k + 1) false := by rw [ih (k + 1), if_neg (by omega)]
    show (chain1 f (chainN f l k) k).getD p false = _
    unfold chain1
    rw [hk]
    cases hc : cv f l k && f k with
    | true =>
      rw [if_pos rfl, getD_set, hl]
      by_cases hp : k + 1 = p
      · subst hp
        rw [if_pos ⟨rfl, h⟩, if_pos (Nat.le_refl _)]
        show true = (l.getD (k + 1) false || (cv f l k && f k))
        rw [hc, Bool.or_true]
      · rw [if_neg (fun h => hp h.1), ih p]
        by_cases h2 : p ≤ k
        · rw [if_pos h2, if_pos (by omega)]
        · rw [if_neg h2, if_neg (by omega)]
    | false =>
      rw [if_neg (by decide), ih p]
      by_cases h2 : p ≤ k
      · rw [if_pos h2, if_pos (by omega)]
      · rw [if_neg h2]
        by_cases hp : p = k + 1
        · subst hp
          rw [if_pos (Nat.le_refl _)]
          show _ = (l.getD (k + 1) false || (cv f l k && f k))
          rw [hc, Bool.or_false]
        · rw [if_neg (by omega)]
/-! ### the two rows of places tell the same -/
structure Rel (M : List Ch) (a b : List Bool) : Prop where
  la : a.length = (thingsL M).length + 1
  lb : b.length = M.length + 1
  eq : ∀ j, j ≤ (thingsL M).length → b.getD (pos M j) false = a.getD j false
  on : ∀ p, b.getD p false = true → ∃ j, j ≤ (thingsL M).length ∧ pos M j = p
theorem spread_chain (ts : List Th) (l : List Bool) : ∀ k, spreadN ts l k = chainN (fun i => kindAt ts i == 2) l k
  | 0 => rfl
  | k + 1 => by
    show spread1 ts (spreadN ts l k) k = chain1 _ (chainN _ l k) k
    rw [spread_chain ts l k]; rfl
theorem kind_star {M : List Ch} {j : Nat} (h : j < (thingsL M).length) : (kindAt (thingsL M) j == 2) = isC M (pos M j) 42 := by
  obtain ⟨h1, h2⟩ := things_get h
  unfold kindAt
  rw [h2]
  have := (place h1).star
  cases hs : isC M (pos M j) 42 with
  | true => exact beq_iff_eq.2 (this.2 hs)
  | false =>
    refine beq_eq_false_iff_ne.2 fun e => ?_
    rw [this.1 e] at hs
    cases hs
theorem rel_chain {M : List Ch} {a b : List Bool} (h : Rel M a b) : Rel M (spread (thingsL M) a) (reachL M b) := by
  have hpe := pos_end M
  have hle : ∀ j, j ≤ (thingsL M).length → pos M j ≤ M.length := fun j hj => (things_drop M j hj).1
  have key : ∀ j, j ≤ (thingsL M).length → (∀ p, p ≤ pos M j → cv (star M) b p = true → ∃ i, i ≤ j ∧ pos M i = p) ∧ cv (star M) b (pos M j) = cv (fun i => kindAt (thingsL M) i == 2) a j := by
    intro j
    induction j with
    | zero =>
      intro hj
      refine ⟨fun p hp _ => ⟨0, Nat.le_refl _, ?_⟩, ?_⟩
      · have : p ≤ 0 := hp
        show 0 = p
        omega
      · show b.getD 0 false = a.getD 0 false
        exact h.eq 0 (Nat.zero_le _)
    | succ j ih =>
      intro hj
      obtain ⟨ih1, ih2⟩ := ih (by omega)
      have hlt := (things_get (show j < (thingsL M).length by omega)).1
      have hks := kind_star (show j < (thingsL M).length by omega)
      have hlp := lenAt_pos M (pos M j)
      have hps : pos M (j + 1) = pos M j + lenAt M (pos M j) := rfl
      have off : ∀ t, 1 ≤ t → t < lenAt M (pos M j) → cv (star M) b (pos M j + t) = false := by
        intro t
        induction t with
        | zero => intro h1; omega
        | succ t iht =>
          intro h1 h2
          show (b.getD (pos M j + t + 1) false || (cv (star M) b (pos M j + t) && star M (pos M j + t))) = false
          have hb : b.getD (pos M j + t + 1) false = false := by
            cases hb : b.getD (pos M j + t + 1) false with
            | false => rfl
            | true =>
              obtain ⟨i, hi, he⟩ := h.on _ hb
              rcases Nat.lt_or_ge j i with h3 | h3
              · rcases Nat.eq_or_lt_of_le (show j + 1 ≤ i from h3) with h4 | h4
                · subst h4; omega
                · have := pos_mono M h4; omega
              · rcases Nat.eq_or_lt_of_le h3 with h4 | h4
                · subst h4; omega
                · have := pos_mono M h4; omega
          rw [hb, Bool.false_or]
          rcases Nat.eq_zero_or_pos t with rfl | ht
          · rw [Nat.add_zero]
            have : star M (pos M j) = false := by
              cases hs : star M (pos M j) with
              | false => rfl
              | true => have := star_len hlt hs; omega
            rw [this, Bool.and_false]
          · rw [iht ht (by omega), Bool.false_and]
      have hval : cv (star M) b (pos M (j + 1)) = cv (fun i => kindAt (thingsL M) i == 2) a (j + 1) := by
        show _ = (a.getD (j + 1) false || (cv (fun i => kindAt (thingsL M) i == 2) a j && (kindAt (thingsL M) j == 2)))
        rw [← h.eq (j + 1) hj, ← ih2, hks]
        obtain ⟨t, ht⟩ : ∃ t, lenAt M (pos M j) = t + 1 := ⟨lenAt M (pos M j) - 1, by omega⟩
        have e1 : pos M (j + 1) = pos M j + t + 1 := by omega
        rw [e1]
        show (b.getD (pos M j + t + 1) false || (cv (star M) b (pos M j + t) && star M (pos M j + t))) = _
        rcases Nat.eq_zero_or_pos t with rfl | htp
        · rfl
        · rw [off t htp (by omega)]
          have : isC M (pos M j) 42 = false := by
            cases hs : isC M (pos M j) 42 with
            | false => rfl
            | true => have := star_len hlt hs; omega
          rw [this, Bool.and_false, Bool.false_and]
      refine ⟨fun p hp hc => ?_, hval⟩
      rcases Nat.lt_or_ge (pos M j) p with h3 | h3
      · rcases Nat.eq_or_lt_of_le hp with h4 | h4
        · exact ⟨j + 1, Nat.le_refl _, h4.symm⟩
        · have := off (p - pos M j) (by omega) (by omega)
          rw [show pos M j + (p - pos M j) = p by omega, hc] at this
          cases this
      · obtain ⟨i, hi, he⟩ := ih1 p h3 hc
        exact ⟨i, by omega, he⟩
  have ga : ∀ j, j ≤ (thingsL M).length → (spread (thingsL M) a).getD j false = cv (fun i => kindAt (thingsL M) i == 2) a j := fun j hj => by
    unfold spread
    rw [spread_chain, chain_get _ _ _ _ (by rw [h.la]; omega), if_pos hj]
  have gb : ∀ p, p ≤ M.length → (reachL M b).getD p false = cv (star M) b p := fun p hp => by
    unfold reachL
    rw [chain_get _ _ _ _ (by rw [h.lb]; omega), if_pos hp]
  refine ⟨by rw [spread_len, h.la], by unfold reachL; rw [chainN_len, h.lb], fun j hj => ?_, fun p hp => ?_⟩
  · rw [ga j hj, gb _ (hle j hj), (key j hj).2]
  · rcases Nat.lt_or_ge M.length p with h1 | h1
    · unfold reachL at hp
      rw [List.getD_eq_getElem?_getD, List.getElem?_eq_none (by rw [chainN_len, h.lb]; omega)] at hp
      cases hp
    · rw [gb p h1] at hp
      obtain ⟨i, hi, he⟩ := (key _ (Nat.le_refl _)).1 p (by omega) hp
      exact ⟨i, hi, he⟩
def contP (ts : List Th) (l : List Bool) (c : Int) (k : Nat) : Option Nat := if (l.getD k false && (ts.getD k default).has c) = true then (if (kindAt ts k == 2) = true then some k else some (k + 1)) else none
theorem stepN_fold (ts : List Th) (l : List Bool) (c : Int) : ∀ k, stepN ts l c k = foldC (contP ts l c) (ts.length + 1) k
  | 0 => rfl
  | k + 1 => by
    show step1 ts l c (stepN ts l c k) k = putC (foldC (contP ts l c) (ts.length + 1) k) (contP ts l c k)
    rw [stepN_fold ts l c k]
    unfold step1 contP
    split
    · split <;> rfl
    · rfl
theorem rel_step {M : List Ch} {a b : List Bool} (h : Rel M a b) (c : Int) (h0 : 0 ≤ c) (h1 : c < 256) : Rel M (stepN (thingsL M) a c (thingsL M).length) (foldC (contR M b c) (M.length + 1) M.length) := by
  have hpe := pos_end M
  -- what a place of the pattern gives
  have back : ∀ i p, i < M.length → contR M b c i = some p → ∃ j t, j < (thingsL M).length ∧ pos M j = i ∧ contP (thingsL M) a c j = some t ∧ t ≤ (thingsL M).length ∧ pos M t = p := by
    intro i p hi hc
    rw [contR_eq hi b c h0 h1] at hc
    cases hb : b.getD i false with
    | false => rw [hb, if_neg (by decide)] at hc; cases hc
    | true =>
      obtain ⟨j, hj, rfl⟩ := h.on i hb
      have hjl : j < (thingsL M).length := by
        rcases Nat.eq_or_lt_of_le hj with h3 | h3
        · subst h3; omega
        · exact h3
      have ha : a.getD j false = true := by rw [← h.eq j hj]; exact hb
      have ht := (things_get hjl).2
      have hks := kind_star hjl
      rw [hb, if_pos rfl] at hc
      have hcp : contP (thingsL M) a c j = if (thAt M (pos M j)).has c = true then (if isC M (pos M j) 42 = true then some j else some (j + 1)) else none := by
        unfold contP
        rw [ha, Bool.true_and, hks, ht]
      cases hs : isC M (pos M j) 42 with
      | true =>
        rw [hs, if_pos rfl] at hc
        injection hc with hc
        have hk2 := (place hi).star.2 hs
        have hh : (thAt M (pos M j)).has c = true := by simp [Th.has, hk2]
        exact ⟨j, j, hjl, rfl, by rw [hcp, hh, hs]; rfl, by omega, hc⟩
      | false =>
        rw [hs, if_neg (by decide)] at hc
        cases hh : (thAt M (pos M j)).has c with
        | false => rw [hh, if_neg (by decide)] at hc; cases hc
        | true =>
          rw [hh, if_pos rfl] at hc
          injection hc with hc
          exact ⟨j, j + 1, hjl, rfl, by rw [hcp, hh, hs]; rfl, by omega, hc⟩
  have forth : ∀ j t, j < (thingsL M).length → contP (thingsL M) a c j = some t → contR M b c (pos M j) = some (pos M t) := by
    intro j t hj hc
    obtain ⟨hlt, ht⟩ := things_get hj
    have hks := kind_star hj
    unfold contP at hc
    rw [hks, ht, ← h.eq j (by omega)] at hc
    rw [contR_eq hlt b c h0 h1]
    cases hb : b.getD (pos M j) false with
    | false => rw [hb, Bool.false_and, if_neg (by decide)] at hc; cases hc
    | true =>
      rw [hb, Bool.true_and] at hc
      rw [if_pos rfl]
      cases hh : (thAt M (pos M j)).has c with
      | false => rw [hh, if_neg (by decide)] at hc; cases hc
      | true =>
        rw [hh, if_pos rfl] at hc
        cases hs : isC M (pos M j) 42 with
        | true =>
          rw [hs, if_pos rfl] at hc
          injection hc with hc
          rw [if_pos rfl, hc]
        | false =>
          rw [hs, if_neg (by decide)] at hc
          injection hc with hc
          rw [if_neg (by decide), if_pos rfl, ← hc]
          rfl
  refine ⟨stepN_len _ _ _ _, foldC_len _ _ _, fun j hj => ?_, fun p hp => ?_⟩
  · rw [Bool.eq_iff_iff, stepN_fold, fold_get, fold_get]
    constructor
    · rintro ⟨hlt, i, hi, hc⟩
      obtain ⟨j0, t, hj0, _, hcp, htl, he⟩ := back i _ hi hc
      rw [pos_inj M he] at hcp
      exact ⟨by omega, j0, hj0, hcp⟩
    · rintro ⟨_, i, hi, hc⟩
      have hpl := (things_drop M j hj).1
      exact ⟨by omega, pos M i, (things_get hi).1, forth i j hi hc⟩
  · obtain ⟨hlt, i, hi, hc⟩ := (fold_get _ _ _ _).1 hp
    obtain ⟨_, t, _, _, _, htl, he⟩ := back i _ hi hc
    exact ⟨t, htl, he⟩
theorem rel_first (M : List Ch) : Rel M ((List.replicate ((thingsL M).length + 1) false).set 0 true) ((List.replicate (M.length + 1) false).set 0 true) := by
  have hz : ∀ n p, ((List.replicate (n + 1) false).set 0 true).getD p false = decide (p = 0) := by
    intro n p
    rw [getD_set, List.length_replicate]
    by_cases h : p = 0
    · subst h; simp
    · rw [if_neg (fun e => h e.1.symm), decide_eq_false h, List.getD_eq_getElem?_getD, List.getElem?_replicate]
      split <;> rfl
  refine ⟨by simp, by simp, fun j hj => ?_, fun p hp => ?_⟩
  · rw [hz, hz]
    by_cases h : j = 0
    · subst h; rfl
    · have : pos M 0 < pos M j := pos_mono M (by omega)
      have : 0 < pos M j := this
      rw [decide_eq_false h, decide_eq_false (by omega)]
  · rw [hz] at hp
    exact ⟨0, Nat.zero_le _, (of_decide_eq_true hp).symm⟩
def runR (M : List Ch) (s : ByteArray) : Nat → List Bool
  | 0 => reachL M ((List.replicate (M.length + 1) false).set 0 true)
  | k + 1 => reachL M (foldC (contR M (runR M s k) (bt s k)) (M.length + 1) M.length)
def matchR (M : List Ch) (s : ByteArray) : Bool := (runR M s s.size).getD M.length false
theorem rel_run (M : List Ch) (s : ByteArray) : ∀ k, Rel M (runB (thingsL M) s k) (runR M s k)
  | 0 => rel_chain (rel_first M)
  | k + 1 => rel_chain (rel_step (rel_run M s k) _ (bt_range s k).1 (by have := (bt_range s k).2; omega))
theorem match_eq (M : List Ch) (s : ByteArray) : matchB (thingsL M) s = matchR M s := by
  unfold matchB matchR
  rw [← (rel_run M s s.size).eq _ (Nat.le_refl _), pos_end]
end Go.Proofs.Ytkepmbkghmkodaa.Pat
