/- PatternParts: the plain law. -/
import Derived.Test.YtkepmbkghmkodaaPatLaw
import Derived.Test.YtkepmbkghmkodaaP10
namespace Go.Proofs.Ytkepmbkghmkodaa.Pat
open Go.RowKit Go.Proofs.YtkepmbkghmkodaaW.PrintWords Go.Proofs.YtkepmbkghmkodaaW.PrintLast Go.Proofs.Ytkepmbkghmkodaa.Base Go.Proofs.Ytkepmbkghmkodaa.P
set_option linter.unusedVariables false
def any2 (ts : List Th) (j : Nat) : Bool := kindAt ts j == 2
def hasAt (ts : List Th) (j : Nat) (c : Int) : Bool := (ts.getD j default).has c
/-- k bytes lead to place j. -/
inductive Re (ts : List Th) (s : ByteArray) : Nat → Nat → Prop
  | start : Re ts s 0 0
  | skip {k j : Nat} : Re ts s k j → j < ts.length → any2 ts j = true → Re ts s k (j + 1)
  | star {k j : Nat} : Re ts s k j → j < ts.length → any2 ts j = true → Re ts s (k + 1) j
  | one {k j : Nat} : Re ts s k j → j < ts.length → any2 ts j = false → hasAt ts j (bt s k) = true → Re ts s (k + 1) (j + 1)
theorem any_has {ts : List Th} {j : Nat} (h : any2 ts j = true) (c : Int) : hasAt ts j c = true := by
  unfold any2 kindAt at h
  unfold hasAt Th.has
  rw [beq_iff_eq] at h
  rw [h]
  rfl
theorem re_cv (ts : List Th) (s : ByteArray) (k : Nat) (l : List Bool) (h0 : l.getD 0 false = true ↔ Re ts s k 0) (h1 : ∀ j, j < ts.length → ((l.getD (j + 1) false = true ∨ (Re ts s k j ∧ any2 ts j = true)) ↔ Re ts s k (j + 1))) : ∀ j, j ≤ ts.length → (cv (any2 ts) l j = true ↔ Re ts s k j)
  | 0, _ => h0
  | j + 1, hj => by
    have ih := re_cv ts s k l h0 h1 j (by omega)
    show (l.getD (j + 1) false || (cv (any2 ts) l j && any2 ts j)) = true ↔ _
    rw [Bool.or_eq_true, Bool.and_eq_true, ih]
    exact h1 j (by omega)
theorem spread_get (ts : List Th) (l : List Bool) (hl : l.length = ts.length + 1) (j : Nat) (hj : j ≤ ts.length) : (spread ts l).getD j false = cv (any2 ts) l j := by
  unfold spread
  rw [spread_chain, chain_get _ _ _ _ (by omega), if_pos hj]
  rfl
theorem re_run (ts : List Th) (s : ByteArray) : ∀ (k j : Nat), j ≤ ts.length → ((runB ts s k).getD j false = true ↔ Re ts s k j)
  | 0, j, hj => by
    have hz : ∀ p, ((List.replicate (ts.length + 1) false).set 0 true).getD p false = decide (p = 0) := by
      intro p
      rw [getD_set, List.length_replicate]
      by_cases h : p = 0
      · subst h; simp
      · rw [if_neg (fun e => h e.1.symm), decide_eq_false h, List.getD_eq_getElem?_getD, List.getElem?_replicate]
        split <;> rfl
    show (spread ts ((List.replicate (ts.length + 1) false).set 0 true)).getD j false = true ↔ _
    rw [spread_get ts _ (by simp) j hj]
    refine re_cv ts s 0 _ ?_ ?_ j hj
    · rw [hz]; exact ⟨fun _ => Re.start, fun _ => rfl⟩
    · intro j hj
      rw [hz, decide_eq_false (by omega)]
      constructor
      · rintro (h | ⟨h, ha⟩)
        · cases h
        · exact Re.skip h hj ha
      · intro h
        cases h with
        | skip h _ ha => exact .inr ⟨h, ha⟩
  | k + 1, j, hj => by
    have ih := fun i hi => re_run ts s k i hi
    have hcp : ∀ i p, i < ts.length → (contP ts (runB ts s k) (bt s k) i = some p ↔ Re ts s k i ∧ ((any2 ts i = true ∧ p = i) ∨ (any2 ts i = false ∧ hasAt ts i (bt s k) = true ∧ p = i + 1))) := by
      intro i p hi
      rw [← ih i (by omega)]
      unfold contP
      show (if ((runB ts s k).getD i false && hasAt ts i (bt s k)) = true then (if any2 ts i = true then some i else some (i + 1)) else none) = some p ↔ _
      cases (runB ts s k).getD i false with
      | false => simp
      | true =>
        cases ha : any2 ts i with
        | true => rw [any_has ha]; simp [eq_comm]
        | false =>
          cases hasAt ts i (bt s k) <;> simp [eq_comm]
    show (spread ts (stepN ts (runB ts s k) (bt s k) ts.length)).getD j false = true ↔ _
    rw [spread_get ts _ (stepN_len _ _ _ _) j hj, stepN_fold]
    refine re_cv ts s (k + 1) _ ?_ ?_ j hj
    · rw [fold_get]
      constructor
      · rintro ⟨_, i, hi, hc⟩
        obtain ⟨hr, ⟨ha, he⟩ | ⟨_, _, he⟩⟩ := (hcp i 0 hi).1 hc
        · subst he; exact Re.star hr hi ha
        · omega
      · intro h
        cases h with
        | star h hi ha => exact ⟨by omega, 0, hi, (hcp 0 0 hi).2 ⟨h, .inl ⟨ha, rfl⟩⟩⟩
    · intro j hj
      rw [fold_get]
      constructor
      · rintro (⟨_, i, hi, hc⟩ | ⟨h, ha⟩)
        · obtain ⟨hr, ⟨ha, he⟩ | ⟨ha, hh, he⟩⟩ := (hcp i _ hi).1 hc
          · rw [he]; exact Re.star hr hi ha
          · rw [he]; exact Re.one hr hi ha hh
        · exact Re.skip h hj ha
      · intro h
        cases h with
        | skip h _ ha => exact .inr ⟨h, ha⟩
        | star h hi ha => exact .inl ⟨by omega, j + 1, hi, (hcp _ _ hi).2 ⟨h, .inl ⟨ha, rfl⟩⟩⟩
        | one h hi ha hh => exact .inl ⟨by omega, j, hi, (hcp _ _ hi).2 ⟨h, .inr ⟨ha, hh, rfl⟩⟩⟩
theorem match_re (ts : List Th) (s : ByteArray) : matchB ts s = true ↔ Re ts s s.size ts.length := re_run ts s s.size ts.length (Nat.le_refl _)
/-! ### patterns without stars -/
theorem re_plain {ts : List Th} {s : ByteArray} (h : ∀ j, j < ts.length → any2 ts j = false) {k j : Nat} (hr : Re ts s k j) : k = j ∧ ∀ i, i < k → hasAt ts i (bt s i) = true := by
  induction hr with
  | start => exact ⟨rfl, fun i hi => by omega⟩
  | skip _ hj ha => rw [h _ hj] at ha; cases ha
  | star _ hj ha => rw [h _ hj] at ha; cases ha
  | @one k j _ hj _ hh ih =>
    obtain ⟨e, ih⟩ := ih
    subst e
    refine ⟨rfl, fun i hi => ?_⟩
    rcases Nat.lt_or_ge i k with h1 | h1
    · exact ih i h1
    · obtain rfl : i = k := by omega
      exact hh
theorem plain_re {ts : List Th} {s : ByteArray} (h : ∀ j, j < ts.length → any2 ts j = false) : ∀ j, j ≤ ts.length → (∀ i, i < j → hasAt ts i (bt s i) = true) → Re ts s j j
  | 0, _, _ => Re.start
  | j + 1, hj, hh => Re.one (plain_re h j (by omega) (fun i hi => hh i (by omega))) (by omega) (h j (by omega)) (hh j (by omega))
theorem match_plain {ts : List Th} {s : ByteArray} (h : ∀ j, j < ts.length → any2 ts j = false) : matchB ts s = true ↔ ts.length = s.size ∧ ∀ i, i < s.size → hasAt ts i (bt s i) = true := by
  rw [match_re]
  constructor
  · intro hr
    obtain ⟨h1, h2⟩ := re_plain h hr
    exact ⟨h1.symm, h2⟩
  · rintro ⟨h1, h2⟩
    rw [← h1]
    exact plain_re h _ (Nat.le_refl _) (by rw [h1]; exact h2)
/-! ### patterns without sets -/
def oneT (x : Ch) : Th := if isB x 63 then ⟨1, x.f0, zeroSet⟩ else if isB x 42 then ⟨2, x.f0, zeroSet⟩ else ⟨0, x.f0, zeroSet⟩
theorem things_one : ∀ l : List Ch, (∀ x ∈ l, isB x 91 = false) → thingsL l = l.map oneT
  | [], _ => thingsL_nil
  | x :: r, h => by
    have hx := h x (by simp)
    have hn : nextT (x :: r) x = (oneT x, 1) := by
      unfold nextT oneT
      rw [hx]
      cases isB x 63 <;> cases isB x 42 <;> rfl
    rw [thingsL_cons, hn]
    show oneT x :: thingsL r = _
    rw [things_one r (fun y hy => h y (by simp [hy]))]
    rfl
theorem quoted_one (b c : Int) : isB ⟨b, true⟩ c = false := by simp [isB]
theorem oneT_quoted (b : Int) : oneT ⟨b, true⟩ = ⟨0, b, zeroSet⟩ := by simp [oneT, isB]
def lits (a : ByteArray) : List Th := (bytesOf a).map fun b => ⟨0, b, zeroSet⟩
theorem lits_len (a : ByteArray) : (lits a).length = a.size := by rw [lits, List.length_map, bytesOf_length]
theorem bytesOf_get (a : ByteArray) (i : Nat) (h : i < a.size) : (bytesOf a)[i]? = some (bt a i) := by
  have hl : i < (bytesOf a).length := by rw [bytesOf_length]; exact h
  have := rd_bytesOf a (i : Int)
  rw [← this, List.getElem?_eq_getElem hl]
  simp [rd, List.getD_eq_getElem?_getD, List.getElem?_eq_getElem hl]
theorem lits_get (a : ByteArray) (i : Nat) (h : i < a.size) : (lits a)[i]? = some ⟨0, bt a i, zeroSet⟩ := by
  unfold lits
  rw [List.getElem?_map, bytesOf_get a i h]; rfl
theorem chars_quoted (a : ByteArray) : charsL [⟨a, true, false⟩] = (bytesOf a).map fun b => ⟨b, true⟩ := by
  simp [charsL, charsP]
theorem things_lit (a : ByteArray) : thingsL (charsL [⟨a, true, false⟩]) = lits a := by
  rw [chars_quoted, things_one _ (fun x hx => by
    rw [List.mem_map] at hx
    obtain ⟨b, _, rfl⟩ := hx
    exact quoted_one b 91), List.map_map]
  exact List.map_congr_left fun b _ => oneT_quoted b
theorem bt_eq {a b : ByteArray} : (a.size = b.size ∧ ∀ i, i < b.size → bt a i = bt b i) ↔ a.toList = b.toList := by
  rw [ByteArray.toList_eq, ByteArray.toList_eq]
  have hlen : ∀ x : ByteArray, x.data.toList.length = x.size := fun x => data_length x
  have hget : ∀ (x : ByteArray) (i : Nat) (h : i < x.data.toList.length), bt x i = ((x.data.toList[i]).toNat : Int) := by
    intro x i h
    have hs : i < x.size := by rw [← hlen]; exact h
    have := bt_nat x i hs
    rw [← this]
    rfl
  constructor
  · rintro ⟨h1, h2⟩
    apply List.ext_getElem
    · rw [hlen, hlen, h1]
    · intro i ha hb
      have := h2 i (by rw [← hlen]; exact hb)
      rw [hget a i ha, hget b i hb] at this
      exact UInt8.toNat_inj.1 (by omega)
  · intro h
    refine ⟨by rw [← hlen, ← hlen, h], fun i hi => ?_⟩
    have hb : i < b.data.toList.length := by rw [hlen]; exact hi
    have ha : i < a.data.toList.length := by rw [h]; exact hb
    rw [hget a i ha, hget b i hb]
    simp only [h]
theorem bool_iff {b : Bool} {p q : List UInt8} (h : b = true ↔ p = q) : b = (p == q) := by
  rw [Bool.eq_iff_iff, h, beq_iff_eq]
theorem lits_plain (a : ByteArray) : ∀ j, j < (lits a).length → any2 (lits a) j = false := by
  intro j hj
  rw [lits_len] at hj
  unfold any2 kindAt
  rw [List.getD_eq_getElem?_getD, lits_get a j hj]
  rfl
theorem match_lit (a b : ByteArray) : matchB (lits a) b = (a.toList == b.toList) := by
  refine bool_iff ?_
  rw [match_plain (lits_plain a), ← bt_eq, lits_len]
  constructor
  · rintro ⟨h1, h2⟩
    refine ⟨h1, fun i hi => ?_⟩
    have := h2 i hi
    unfold hasAt Th.has at this
    rw [List.getD_eq_getElem?_getD, lits_get a i (by omega)] at this
    simpa using this
  · rintro ⟨h1, h2⟩
    refine ⟨h1, fun i hi => ?_⟩
    unfold hasAt Th.has
    rw [List.getD_eq_getElem?_getD, lits_get a i (by omega)]
    simpa using h2 i hi
theorem plain_lit (a : ByteArray) : plainB (lits a) = true := by
  unfold plainB lits
  rw [List.all_map, List.all_eq_true]
  intro x _
  rfl
/-! ### stars around -/
def starT : Th := ⟨2, 42, zeroSet⟩
theorem re_stars {ts : List Th} {s : ByteArray} {k j : Nat} (h : Re ts s k j) (hj : j < ts.length) (ha : any2 ts j = true) : ∀ n, Re ts s (k + n) j
  | 0 => h
  | n + 1 => Re.star (re_stars h hj ha n) hj ha
theorem things_around (b : ByteArray) : thingsL (charsL [⟨⟨#[42]⟩, false, false⟩, ⟨b, true, false⟩, ⟨⟨#[42]⟩, false, false⟩]) = starT :: (lits b ++ [starT]) := by
  have h : charsL [⟨⟨#[42]⟩, false, false⟩, ⟨b, true, false⟩, ⟨⟨#[42]⟩, false, false⟩] = (⟨42, false⟩ : Ch) :: (((bytesOf b).map fun b => ⟨b, true⟩) ++ [⟨42, false⟩]) := by
    simp [charsL, charsP, bytesOf]
  rw [h, things_one _ (fun x hx => by
    rw [List.mem_cons, List.mem_append, List.mem_map, List.mem_singleton] at hx
    rcases hx with rfl | ⟨b, _, rfl⟩ | rfl
    · rfl
    · exact quoted_one b 91
    · rfl), List.map_cons, List.map_append, List.map_map]
  have e : ((bytesOf b).map (oneT ∘ fun b => (⟨b, true⟩ : Ch))) = lits b := List.map_congr_left fun b _ => oneT_quoted b
  rw [e]
  rfl
theorem bt_app (x y : ByteArray) (i : Nat) : bt (x ++ y) i = if i < x.size then bt x i else bt y ((i - x.size : Nat) : Int) := by
  have hs : (x ++ y).size = x.size + y.size := ByteArray.size_append
  unfold bt
  simp only [Int.toNat_natCast]
  by_cases h : i < x.size
  · rw [if_pos h, dif_pos (by omega), dif_pos h, ByteArray.getElem_append_left h]
  · rw [if_neg h]
    by_cases h2 : i < (x ++ y).size
    · rw [dif_pos h2, dif_pos (by omega), ByteArray.getElem_append_right (by omega)]
    · rw [dif_neg h2, dif_neg (by omega)]
theorem match_around (a b c : ByteArray) : matchB (starT :: (lits b ++ [starT])) (a ++ b ++ c) = true := by
  rw [match_re]
  have hsz : (a ++ b ++ c).size = a.size + b.size + c.size := by rw [ByteArray.size_append, ByteArray.size_append]
  have hlen : (starT :: (lits b ++ [starT])).length = b.size + 2 := by simp [lits_len]
  rw [hsz, hlen]
  have g : ∀ i, i < b.size → (starT :: (lits b ++ [starT])).getD (i + 1) default = ⟨0, bt b i, zeroSet⟩ := by
    intro i hi
    rw [List.getD_eq_getElem?_getD, List.getElem?_cons_succ, List.getElem?_append_left (by rw [lits_len]; exact hi), lits_get b i hi]; rfl
  have g2 : (starT :: (lits b ++ [starT])).getD (b.size + 1) default = starT := by
    rw [List.getD_eq_getElem?_getD, List.getElem?_cons_succ, List.getElem?_append_right (by rw [lits_len]; exact Nat.le_refl _), lits_len, Nat.sub_self]; rfl
  have h1 : Re (starT :: (lits b ++ [starT])) (a ++ b ++ c) a.size 1 := by
    have := re_stars (ts := starT :: (lits b ++ [starT])) (s := a ++ b ++ c) Re.start (by omega) (by rfl) a.size
    rw [Nat.zero_add] at this
    exact Re.skip this (by omega) (by rfl)
  have h2 : ∀ i, i ≤ b.size → Re (starT :: (lits b ++ [starT])) (a ++ b ++ c) (a.size + i) (1 + i) := by
    intro i
    induction i with
    | zero => intro _; exact h1
    | succ i ih =>
      intro hi
      have hr := ih (by omega)
      refine Re.one (k := a.size + i) (j := 1 + i) hr (by omega) ?_ ?_
      · unfold any2 kindAt
        rw [Nat.add_comm 1 i, g i (by omega)]; rfl
      · unfold hasAt Th.has
        rw [Nat.add_comm 1 i, g i (by omega)]
        show (bt b i == bt (a ++ b ++ c) ((a.size + i : Nat) : Int)) = true
        rw [bt_app (a ++ b) c (a.size + i), if_pos (by rw [ByteArray.size_append]; omega), bt_app a b (a.size + i), if_neg (by omega), show a.size + i - a.size = i by omega]
        simp
  have h3 := h2 b.size (Nat.le_refl _)
  have ha : any2 (starT :: (lits b ++ [starT])) (1 + b.size) = true := by
    unfold any2 kindAt
    rw [Nat.add_comm, g2]; rfl
  have h4 := re_stars h3 (by omega) ha c.size
  have h5 := Re.skip h4 (by omega) ha
  rwa [show 1 + b.size + 1 = b.size + 2 by omega] at h5
theorem things_two : thingsL (charsL [⟨⟨#[42]⟩, false, false⟩, ⟨⟨#[120]⟩, false, true⟩, ⟨⟨#[42]⟩, false, false⟩]) = [starT, starT] := by
  have h : charsL [⟨⟨#[42]⟩, false, false⟩, ⟨⟨#[120]⟩, false, true⟩, ⟨⟨#[42]⟩, false, false⟩] = [(⟨42, false⟩ : Ch), ⟨42, false⟩] := by rfl
  rw [h, things_one _ (fun x hx => by
    simp only [List.mem_cons, List.not_mem_nil, or_false, or_self] at hx
    subst hx; rfl)]
  rfl
theorem match_two (a : ByteArray) : matchB [starT, starT] a = true := by
  rw [match_re]
  have := re_stars (ts := [starT, starT]) (s := a) Re.start (by decide) (by rfl) a.size
  rw [Nat.zero_add] at this
  exact Re.skip (Re.skip this (by decide) (by rfl)) (by decide) (by rfl)
/-! ### a plain pattern -/
theorem match_loose (a b : ByteArray) (h : plainB (thingsL (charsL [⟨a, false, false⟩])) = true) : matchB (thingsL (charsL [⟨a, false, false⟩])) b = (a.toList == b.toList) := by
  have hM : charsL [⟨a, false, false⟩] = (bytesOf a).map fun b => (⟨b, false⟩ : Ch) := by simp [charsL, charsP]
  generalize hMM : charsL [⟨a, false, false⟩] = M at *
  have hml : M.length = a.size := by rw [hM, List.length_map, bytesOf_length]
  have hmb : ∀ p, p < M.length → byteAt M p = bt a p := by
    intro p hp
    rw [byteAt_lt hp]
    have h1 : M[p]? = some ⟨bt a p, false⟩ := by rw [hM, List.getElem?_map, bytesOf_get a p (by omega)]; rfl
    rw [List.getElem?_eq_getElem hp] at h1
    rw [Option.some.inj h1]
  have hk : ∀ j, j < (thingsL M).length → (thAt M (pos M j)).kind = 0 := by
    intro j hj
    unfold plainB at h
    rw [List.all_eq_true] at h
    have h1 := h _ (List.getElem_mem hj)
    have h2 := (things_get hj).2
    have h3 : (thingsL M).getD j default = (thingsL M)[j] := by simp [List.getD_eq_getElem?_getD, List.getElem?_eq_getElem hj]
    rw [← h2, h3]
    exact beq_iff_eq.1 h1
  have hlen : ∀ j, j < (thingsL M).length → lenAt M (pos M j) = 1 := by
    intro j hj
    have hlt := (things_get hj).1
    have hpl := (plainAt_eq hlt).1 (hk j hj)
    unfold plainAt at hpl
    simp only [Bool.and_eq_true, Option.isNone_iff_eq_none] at hpl
    rw [(place hlt).len, hpl.2]
  have hpos : ∀ j, j ≤ (thingsL M).length → pos M j = j := by
    intro j
    induction j with
    | zero => intro _; rfl
    | succ j ih =>
      intro hj
      show pos M j + lenAt M (pos M j) = j + 1
      rw [hlen j (by omega), ih (by omega)]
  have hn : (thingsL M).length = a.size := by rw [← hml, ← pos_end M, hpos _ (Nat.le_refl _)]
  have hhas : ∀ j, j < (thingsL M).length → ∀ c : Int, 0 ≤ c → c < 256 → hasAt (thingsL M) j c = (bt a j == c) := by
    intro j hj c h0 h1
    have hlt := (things_get hj).1
    have hp := hpos j (by omega)
    have hpl := (plainAt_eq hlt).1 (hk j hj)
    unfold plainAt at hpl
    simp only [Bool.and_eq_true, Option.isNone_iff_eq_none, Bool.not_eq_true'] at hpl
    unfold hasAt
    rw [(things_get hj).2, (place hlt).has c h0 h1 hpl.1.1, hpl.2]
    simp only
    rw [hpl.1.2, Bool.false_or, hp, hmb j (by omega)]
  have hany : ∀ j, j < (thingsL M).length → any2 (thingsL M) j = false := by
    intro j hj
    unfold any2 kindAt
    rw [(things_get hj).2, hk j hj]; rfl
  refine bool_iff ?_
  rw [match_plain hany, ← bt_eq, hn]
  constructor
  · rintro ⟨h1, h2⟩
    refine ⟨h1, fun i hi => ?_⟩
    have := h2 i hi
    rw [hhas i (by omega) _ (bt_range b i).1 (by have := (bt_range b i).2; omega)] at this
    exact beq_iff_eq.1 this
  · rintro ⟨h1, h2⟩
    refine ⟨h1, fun i hi => ?_⟩
    rw [hhas i (by omega) _ (bt_range b i).1 (by have := (bt_range b i).2; omega)]
    exact beq_iff_eq.2 (h2 i hi)
/-! ### ones -/
def ones (n : Nat) : ByteArray := ⟨(List.replicate n 63).toArray⟩
theorem ones_succ (n : Nat) : ones n ++ ⟨#[63]⟩ = ones (n + 1) := by
  unfold ones
  rw [str_app]
  simp [List.replicate_succ']
theorem ones_size (n : Nat) : (ones n).size = n := by simp [ones, ByteArray.size]
theorem match_ones (n : Nat) (b : ByteArray) : matchB (thingsL (charsL [⟨ones n, false, false⟩])) b = ((n : Int) == (b.size : Int)) := by
  have hM : charsL [⟨ones n, false, false⟩] = List.replicate n (⟨63, false⟩ : Ch) := by
    simp [charsL, charsP, ones, bytesOf]
  have ht : thingsL (charsL [⟨ones n, false, false⟩]) = List.replicate n ⟨1, 63, zeroSet⟩ := by
    rw [hM, things_one _ (fun x hx => by rw [(List.mem_replicate.1 hx).2]; rfl), List.map_replicate]
    rfl
  rw [ht]
  have hg : ∀ j, j < n → (List.replicate n (⟨1, 63, zeroSet⟩ : Th)).getD j default = ⟨1, 63, zeroSet⟩ := by
    intro j hj
    rw [List.getD_eq_getElem?_getD, List.getElem?_replicate, if_pos hj]; rfl
  rw [Bool.eq_iff_iff, match_plain (fun j hj => by
    rw [List.length_replicate] at hj
    unfold any2 kindAt
    rw [hg j hj]; rfl), List.length_replicate, beq_iff_eq]
  constructor
  · rintro ⟨h1, _⟩; omega
  · intro h
    refine ⟨by omega, fun i hi => ?_⟩
    unfold hasAt
    rw [hg i (by omega)]; rfl
theorem same_f (a : ByteArray) : Ev (fun k => deadfallref08_Same.f k [⟨a, true, false⟩] [⟨a, true, false⟩]) true := by
  refine Ev.congr (f := fun k => deadfallref08_Same.l0 k [⟨a, true, false⟩] [⟨a, true, false⟩] 1 0) (fun k => ?_) ?_
  · unfold deadfallref08_Same.f
    rw [if_pos rfl]; rfl
  refine Ev.step (f := fun k => deadfallref08_Same.l0 k [⟨a, true, false⟩] [⟨a, true, false⟩] 1 1) (fun k => ?_) ?_
  · rw [deadfallref08_Same.l0]
    have h : rd_T26 [(⟨a, true, false⟩ : S26)] 0 = ⟨a, true, false⟩ := rfl
    rw [if_pos (by omega), if_pos (by omega), if_pos (by simp), if_pos (by simp), h, if_neg (by simp), wrap_ok (by omega) (by omega)]
    rfl
  · refine Ev.step (f := fun _ => some true) (fun k => ?_) (Ev.now _)
    rw [deadfallref08_Same.l0]
    rw [if_neg (by omega)]
theorem Lit_f (a : ByteArray) : pattern_Literal.f a = some [⟨a, true, false⟩] := rfl
theorem Match_f (l : List S26) (s : ByteArray) (h1 : psz l ≤ 1000000) (h2 : s.size ≤ 1000000) : pattern_Match.f l s = some (matchB (thingsL (charsL l)) s) := by
  unfold pattern_Match.f; rw [if_pos h1, if_pos h2]
theorem Plain_f (l : List S26) (h1 : psz l ≤ 1000000) : pattern_Plain.f l = some (plainB (thingsL (charsL l))) := by
  unfold pattern_Plain.f; rw [if_pos h1]
theorem parts_l0 (a b : ByteArray) (ha : a.size ≤ 100) (hb : b.size ≤ 100) : ∀ (d i : Nat), i + d = a.size → Ev (fun k => deadfalllaw08_PatternParts.l0 k a b (ones i) (a.size : Int) (i : Int)) true := by
  intro d
  induction d with
  | zero =>
    intro i hi
    obtain rfl : i = a.size := by omega
    refine Ev.step (f := fun _ => some true) (fun k => ?_) (Ev.now _)
    rw [deadfalllaw08_PatternParts.l0]
    rw [if_neg (by omega), Match_f _ _ (by simp [psz, ones_size]; omega) (by omega), match_ones, Option.bind_some, if_pos (by simp), Lit_f, Option.bind_some, Plain_f _ (by simp [psz]; omega), things_lit, plain_lit, Option.bind_some]
  | succ d ih =>
    intro i hi
    refine Ev.step (fun k => ?_) (ih (i + 1) (by omega))
    rw [deadfalllaw08_PatternParts.l0]
    rw [if_pos (by omega), if_pos (by rw [ones_size]; omega), ones_succ, wrap_ok (by omega) (by omega)]
    rfl
theorem parts_j2 (a b : ByteArray) (ha : a.size ≤ 100) (hb : b.size ≤ 100) : Ev (fun k => deadfalllaw08_PatternParts.j2 k a b false) true := by
  refine Ev.step (fun k => ?_) (parts_l0 a b ha hb a.size 0 (by omega))
  rw [deadfalllaw08_PatternParts.j2]
  rw [if_neg (by decide)]
  rfl
theorem parts_j1 (a b : ByteArray) (ha : a.size ≤ 100) (hb : b.size ≤ 100) : Ev (fun k => deadfalllaw08_PatternParts.j1 k a b false) true := by
  refine Ev.step (fun k => ?_) (parts_j2 a b ha hb)
  rw [deadfalllaw08_PatternParts.j1]
  rw [if_neg (by decide), Option.bind_some, Plain_f _ (by simp [psz]; omega), Option.bind_some]
  cases hp : plainB (thingsL (charsL [⟨a, false, false⟩])) with
  | false => rw [if_neg (by decide)]
  | true =>
    rw [if_pos rfl, Match_f _ _ (by simp [psz]; omega) (by omega), Option.bind_some, match_loose a b hp]
    cases (a.toList == b.toList) <;> rfl
theorem PatternParts_f : deadfalllaw08_PatternParts.Pure := by
  intro a b c _ _ _
  have yes : Ev (fun k => deadfalllaw08_PatternParts.j0 k a b c true) true := by
    refine Ev.step (f := fun _ => some true) (fun k => ?_) (Ev.now _)
    rw [deadfalllaw08_PatternParts.j0]
    rw [if_pos rfl]
  have key : Ev (fun k => deadfalllaw08_PatternParts.f k a b c) true := by
    unfold deadfalllaw08_PatternParts.f
    rw [alive_f]
    simp only [Option.bind_some, if_true]
    by_cases ha : (a.size : Int) > 100
    · refine Ev.congr (fun k => if_pos ha) yes
    · refine Ev.congr (fun k => if_neg ha) ?_
      by_cases hb : (b.size : Int) > 100
      · refine Ev.congr (fun k => if_pos hb) yes
      · refine Ev.congr (fun k => if_neg hb) ?_
        by_cases hc : (c.size : Int) > 100
        · rw [decide_eq_true hc]; exact yes
        · rw [decide_eq_false hc]
          refine Ev.step (f := fun k => (deadfallref08_Same.f k [⟨a, true, false⟩] [⟨a, true, false⟩]).bind fun t => deadfalllaw08_PatternParts.j1 k a b (!t)) (fun k => ?_) (Ev.bind (same_f a) (parts_j1 a b (by omega) (by omega)))
          have hp3 : psz [(⟨⟨#[42]⟩, false, false⟩ : S26), ⟨b, true, false⟩, ⟨⟨#[42]⟩, false, false⟩] = 1 + 1 + (b.size + 1 + (1 + 1 + 0)) := rfl
          have hs1 : (a ++ b).size = a.size + b.size := ByteArray.size_append
          have hs2 : (a ++ b ++ c).size = a.size + b.size + c.size := by rw [ByteArray.size_append, hs1]
          rw [deadfalllaw08_PatternParts.j0]
          rw [if_neg (by decide), Lit_f, Option.bind_some, Match_f _ _ (by simp [psz]; omega) (by omega), Option.bind_some, things_lit, match_lit, if_neg (by cases (a.toList == b.toList) <;> decide), if_pos (by omega), if_pos (by omega), Match_f _ _ (by rw [hp3]; omega) (by omega), things_around, match_around, Option.bind_some, if_pos rfl, Match_f _ _ (by decide) (by omega), things_two, match_two, Option.bind_some, if_pos rfl, Option.bind_some]
  exact key.rounds
end Go.Proofs.Ytkepmbkghmkodaa.Pat
