/- PatternMatches: the plain law. -/
import Derived.Test.YtkepmbkghmkodaaPatSim
namespace Go.Proofs.Ytkepmbkghmkodaa.Pat
open Go.RowKit Go.Proofs.YtkepmbkghmkodaaW.PrintWords Go.Proofs.YtkepmbkghmkodaaW.PrintLast Go.Proofs.Ytkepmbkghmkodaa.Base Go.Proofs.Ytkepmbkghmkodaa.P
set_option linter.unusedVariables false
theorem rl1_ev (x8 : List S26) (x9 x10 : Int) (s : ByteArray) (q : Bool) (r : List Rh) : ∀ (d j : Nat) (x3 : List Rh), j + d = s.size → x3.length + d ≤ 1000000 → s.size ≤ 1000000 →
    Ev (fun k => deadfallref08_Chars.l0 k (x3 ++ ((bytesOf s).drop j).map fun b => ⟨b, q⟩) x8 x9 (wrap64 (x10 + 1))) r → Ev (fun k => deadfallref08_Chars.l1 k x3 (j : Int) x8 x9 x10 s q false) r := by
  intro d
  induction d with
  | zero =>
    intro j x3 hj hl hs h
    rw [List.drop_of_length_le (by rw [bytesOf_length]; omega), List.map_nil, List.append_nil] at h
    refine Ev.step (fun k => ?_) h
    rw [deadfallref08_Chars.l1]
    rw [if_neg (by omega)]
  | succ d ih =>
    intro j x3 hj hl hs h
    rw [bytes_at s j (by omega)] at h
    refine Ev.step (f := fun k => deadfallref08_Chars.l1 k (x3 ++ [⟨bt s j, q⟩]) ((j + 1 : Nat) : Int) x8 x9 x10 s q false) (fun k => ?_) (ih (j + 1) _ (by omega) (by simp; omega) hs (by simpa using h))
    rw [deadfallref08_Chars.l1]
    rw [if_pos (by omega), if_neg (by decide), if_pos (by omega), if_pos (by omega), wrap_ok (by omega) (by omega)]
    rfl
theorem rl1_cut (x8 : List S26) (x9 x10 : Int) (s : ByteArray) (q : Bool) (x3 r : List Rh) (h : Ev (fun k => deadfallref08_Chars.l0 k x3 x8 x9 (wrap64 (x10 + 1))) r) : Ev (fun k => deadfallref08_Chars.l1 k x3 0 x8 x9 x10 s q true) r := by
  refine Ev.step (fun k => ?_) h
  rw [deadfallref08_Chars.l1]
  by_cases h0 : (0 : Int) < (s.size : Int)
  · rw [if_pos h0, if_pos rfl]
  · rw [if_neg h0]
theorem rl0_ev (l : List S26) : ∀ (d i : Nat) (x3 : List Rh), i + d = l.length → x3.length + psz (l.drop i) ≤ 1000000 → l.length ≤ 1000000 →
    Ev (fun k => deadfallref08_Chars.l0 k x3 l (l.length : Int) (i : Int)) (x3 ++ (charsL (l.drop i)).map bk) := by
  intro d
  induction d with
  | zero =>
    intro i x3 hi hl hs
    rw [List.drop_of_length_le (by omega)]
    refine Ev.step (f := fun k => some x3) (fun k => ?_) (by simpa [charsL] using Ev.now x3)
    rw [deadfallref08_Chars.l0]
    rw [if_neg (by omega)]
  | succ d ih =>
    intro i x3 hi hl hs
    have hlt : i < l.length := by omega
    have hd : l.drop i = l[i] :: l.drop (i + 1) := List.drop_eq_getElem_cons hlt
    have hr : rd_T26 l (i : Int) = l[i] := by simp [rd_T26, List.getD_eq_getElem?_getD, List.getElem?_eq_getElem hlt]
    rw [hd] at hl ⊢
    have hp : psz (l[i] :: l.drop (i + 1)) = l[i].f0.size + 1 + psz (l.drop (i + 1)) := by unfold psz; rw [List.map_cons, List.sum_cons]
    rw [hp] at hl
    have hc : charsL (l[i] :: l.drop (i + 1)) = charsP l[i] ++ charsL (l.drop (i + 1)) := by unfold charsL; rw [List.flatMap_cons]
    rw [hc, List.map_append]
    refine Ev.step (f := fun k => deadfallref08_Chars.l1 k x3 0 l (l.length : Int) (i : Int) l[i].f0 l[i].f1 l[i].f2) (fun k => ?_) ?_
    · rw [deadfallref08_Chars.l0]
      rw [if_pos (by omega), if_pos (by omega), if_pos (by omega), hr]
    · cases h2 : l[i].f2 with
      | true =>
        have hcp : charsP l[i] = [] := by unfold charsP; rw [h2]; rfl
        rw [hcp, List.map_nil, List.nil_append]
        refine rl1_cut _ _ _ _ _ _ _ ?_
        rw [wrap_ok (by omega) (by omega)]
        exact ih (i + 1) x3 (by omega) (by omega) hs
      | false =>
        have hcp : (charsP l[i]).map bk = (bytesOf l[i].f0).map fun b => (⟨b, l[i].f1⟩ : Rh) := by unfold charsP; rw [h2, if_neg (by decide), List.map_map]; rfl
        rw [hcp, ← List.append_assoc]
        refine rl1_ev l (l.length : Int) (i : Int) l[i].f0 l[i].f1 _ l[i].f0.size 0 x3 (by omega) (by omega) (by omega) ?_
        rw [wrap_ok (by omega) (by omega)]
        exact ih (i + 1) _ (by omega) (by simp [bytesOf_length]; omega) hs
theorem psz_len (l : List S26) : l.length ≤ psz l := by
  induction l with
  | nil => simp
  | cons p l ih => simp only [psz, List.length_cons, List.map_cons, List.sum_cons] at *; omega
theorem rchars_f (l : List S26) (h : psz l ≤ 1000000) : Ev (fun k => deadfallref08_Chars.f k l) ((charsL l).map bk) := by
  have := rl0_ev l l.length 0 [] (by omega) (by simpa using h) (by have := psz_len l; omega)
  exact this
theorem rmatch_l0 (M : List Ch) (hM : M.length ≤ 10000000) (s : ByteArray) (hs : s.size ≤ 1000000) : ∀ (d i : Nat), i + d = s.size → Ev (fun k => deadfallref08_Match.l0 k s (M.map bk) (runR M s i) (i : Int)) (matchR M s) := by
  intro d
  induction d with
  | zero =>
    intro i hi
    obtain rfl : i = s.size := by omega
    have hl := (rel_run M s s.size).lb
    refine Ev.step (f := fun _ => some (matchR M s)) (fun n => ?_) (Ev.now _)
    rw [deadfallref08_Match.l0]
    rw [if_neg (by omega), bk_len, if_pos (by omega), if_pos (by omega), rdOf_nat]
    rfl
  | succ d ih =>
    intro i hi
    have hl := (rel_run M s i).lb
    refine Ev.step (fun n => ?_) (Ev.bind (f := fun n t => deadfallref08_Match.l0 n s (M.map bk) t ((i + 1 : Nat) : Int)) (step_f M hM (runR M s i) hl (bt s i)) (ih (i + 1) (by omega)))
    rw [deadfallref08_Match.l0]
    rw [if_pos (by omega), if_pos (by omega), wrap_ok (by omega) (by omega)]
    rfl
theorem rmatch_f (l : List S26) (h : psz l ≤ 1000000) (s : ByteArray) (hs : s.size ≤ 1000000) : Ev (fun k => deadfallref08_Match.f k l s) (matchR (charsL l) s) := by
  have hM := chars_len l
  have hr := reach_f (charsL l) (by omega) ((List.replicate ((charsL l).length + 1) false).set 0 true) (by simp)
  unfold deadfallref08_Match.f
  refine Ev.bind (rchars_f l h) ?_
  refine Ev.congr (fun n => ?_) (Ev.bind (f := fun n t => deadfallref08_Match.l0 n s ((charsL l).map bk) t 0) hr (rmatch_l0 (charsL l) (by omega) s hs s.size 0 (by omega)))
  rw [bk_len, wrap_ok (by omega) (by omega), if_pos (by omega), if_pos (by omega), show (((charsL l).length : Int) + 1).toNat = (charsL l).length + 1 by omega, Option.bind_some, if_pos (by rw [List.length_replicate]; omega)]
  rfl
def plainAt (M : List Ch) (i : Nat) : Bool := !isC M i 42 && !isC M i 63 && (endO M i).isNone
def plainR (M : List Ch) : Bool := (List.range M.length).all (plainAt M)
theorem rplain_l0 (M : List Ch) (hM : M.length ≤ 10000000) : ∀ (d i : Nat), i + d = M.length → Ev (fun k => deadfallref08_Plain.l0 k (M.map bk) (M.length : Int) (i : Int)) ((List.range' i d).all (plainAt M)) := by
  intro d
  induction d with
  | zero =>
    intro i hi
    refine Ev.step (f := fun _ => some true) (fun n => ?_) (Ev.now _)
    rw [deadfallref08_Plain.l0]
    rw [if_neg (by omega)]
  | succ d ih =>
    intro i hi
    have hrec := ih (i + 1) (by omega)
    rw [List.range'_succ, List.all_cons]
    unfold plainAt
    cases h42 : isC M i 42 with
    | true =>
      refine Ev.step (f := fun _ => some false) (fun n => ?_) (Ev.now _)
      rw [deadfallref08_Plain.l0]
      rw [if_pos (by omega), is_f, h42]; rfl
    | false =>
      cases h63 : isC M i 63 with
      | true =>
        refine Ev.step (f := fun _ => some false) (fun n => ?_) (Ev.now _)
        rw [deadfallref08_Plain.l0]
        rw [if_pos (by omega), is_f, h42, is_f, h63]; rfl
      | false =>
        have hE := end_f M hM i (by omega)
        cases he : endO M i with
        | some e =>
          rw [he] at hE
          refine Ev.step (fun n => ?_) (Ev.bind (f := fun n t => if t ≥ 0 then some false else deadfallref08_Plain.l0 n (M.map bk) (M.length : Int) (wrap64 ((i : Int) + 1))) hE ?_)
          · rw [deadfallref08_Plain.l0]
            rw [if_pos (by omega), is_f, h42, is_f, h63]; rfl
          · refine Ev.congr (fun n => ?_) (Ev.now false)
            rw [if_pos (by show (e : Int) ≥ 0; omega)]
        | none =>
          rw [he] at hE
          refine Ev.step (fun n => ?_) (Ev.bind (f := fun n t => if t ≥ 0 then some false else deadfallref08_Plain.l0 n (M.map bk) (M.length : Int) (wrap64 ((i : Int) + 1))) hE ?_)
          · rw [deadfallref08_Plain.l0]
            rw [if_pos (by omega), is_f, h42, is_f, h63]; rfl
          · refine Ev.congr (fun n => ?_) (show Ev _ ((!false && !false && (none : Option Nat).isNone) && (List.range' (i + 1) d).all (plainAt M)) by simpa using hrec)
            rw [if_neg (by show ¬ ((-1 : Int) ≥ 0); omega), wrap_ok (by omega) (by omega)]
theorem rplain_f (l : List S26) (h : psz l ≤ 1000000) : Ev (fun k => deadfallref08_Plain.f k l) (plainR (charsL l)) := by
  have hM := chars_len l
  have hp := rplain_l0 (charsL l) (by omega) (charsL l).length 0 (by omega)
  rw [← List.range_eq_range'] at hp
  refine Ev.congr (fun n => rfl) (Ev.bind (f := fun n t => deadfallref08_Plain.l0 n t (t.length : Int) 0) (rchars_f l h) ?_)
  refine Ev.congr (fun n => ?_) hp
  rw [bk_len]; rfl
theorem plainAt_eq {M : List Ch} {p : Nat} (h : p < M.length) : (thAt M p).kind = 0 ↔ plainAt M p = true := by
  have hp := place h
  obtain ⟨e1, e2⟩ := at_eq h
  have i63 : isB M[p] 63 = isC M p 63 := (isC_lt h).symm
  have i42 : isB M[p] 42 = isC M p 42 := (isC_lt h).symm
  have i91 : isB M[p] 91 = isC M p 91 := (isC_lt h).symm
  have hfst : (if isC (M.drop p) 1 33 = true then 2 else 1) = fst M p := by rw [isC_drop]; rfl
  unfold nextT at e1
  rw [i63, i42, i91, hfst, endF_drop M p _ _ _ (Nat.le_refl _)] at e1
  unfold plainAt endO
  cases h63 : isC M p 63 with
  | true => rw [h63] at e1; rw [e1]; simp
  | false =>
    rw [h63] at e1
    cases h42 : isC M p 42 with
    | true => rw [h42] at e1; rw [e1]; simp
    | false =>
      rw [h42] at e1
      cases h91 : isC M p 91 with
      | false => rw [h91] at e1; rw [e1]; simp
      | true =>
        rw [h91] at e1
        cases he : endF M (p + fst M p) (p + fst M p) with
        | none => rw [he] at e1; rw [e1]; simp
        | some e => rw [he] at e1; rw [e1]; simp [TH]
theorem plain_eq (M : List Ch) : plainB (thingsL M) = plainR M := by
  have hpe := pos_end M
  rw [Bool.eq_iff_iff]
  unfold plainB plainR
  rw [List.all_eq_true, List.all_eq_true]
  constructor
  · intro h
    have hk : ∀ j, j < (thingsL M).length → (thAt M (pos M j)).kind = 0 := by
      intro j hj
      have h1 := h _ (List.getElem_mem hj)
      have h2 := (things_get hj).2
      have h3 : (thingsL M).getD j default = (thingsL M)[j] := by simp [List.getD_eq_getElem?_getD, List.getElem?_eq_getElem hj]
      rw [← h2, h3]
      exact beq_iff_eq.1 h1
    have hlen : ∀ j, j < (thingsL M).length → lenAt M (pos M j) = 1 := by
      intro j hj
      have hlt := (things_get hj).1
      have hpl := (plainAt_eq hlt).1 (hk j hj)
      unfold plainAt at hpl
      simp only [Bool.and_eq_true, Option.isNone_iff_eq_none] at hpl
      rw [(place hlt).len, hpl.2]
    have hpos : ∀ j, j ≤ (thingsL M).length → pos M j = j := by
      intro j
      induction j with
      | zero => intro _; rfl
      | succ j ih =>
        intro hj
        show pos M j + lenAt M (pos M j) = j + 1
        rw [hlen j (by omega), ih (by omega)]
    intro p hp
    have hpl : p < (thingsL M).length := by
      have := hpos _ (Nat.le_refl _)
      have := List.mem_range.1 hp
      omega
    have := (plainAt_eq (things_get hpl).1).1 (hk p hpl)
    rwa [hpos p (by omega)] at this
  · intro h x hx
    obtain ⟨j, hj, rfl⟩ := List.getElem_of_mem hx
    obtain ⟨hlt, h2⟩ := things_get hj
    have h3 : (thingsL M).getD j default = (thingsL M)[j] := by simp [List.getD_eq_getElem?_getD, List.getElem?_eq_getElem hj]
    rw [← h3, h2]
    exact beq_iff_eq.2 ((plainAt_eq hlt).2 (h _ (List.mem_range.2 hlt)))
theorem great_l0 (l : List S26) (hz : ∀ p ∈ l, p.f0.size ≤ 140737488355328) (hlen : l.length ≤ 140737488355328) : ∀ (d i n : Nat), i + d = l.length → n ≤ 200 → n + psz (l.drop i) = psz l → Ev (fun k => deadfalllaw08_great.l0 k (n : Int) l (l.length : Int) (i : Int)) (decide (200 < psz l)) := by
  intro d
  induction d with
  | zero =>
    intro i n hi hn hp
    rw [List.drop_of_length_le (by omega), show psz [] = 0 from rfl] at hp
    rw [decide_eq_false (by omega)]
    refine Ev.step (f := fun _ => some false) (fun k => ?_) (Ev.now _)
    rw [deadfalllaw08_great.l0]
    rw [if_neg (by omega)]
  | succ d ih =>
    intro i n hi hn hp
    have hlt : i < l.length := by omega
    have hd : l.drop i = l[i] :: l.drop (i + 1) := List.drop_eq_getElem_cons hlt
    have hr : rd_T26 l (i : Int) = l[i] := by simp [rd_T26, List.getD_eq_getElem?_getD, List.getElem?_eq_getElem hlt]
    have hps : psz (l[i] :: l.drop (i + 1)) = l[i].f0.size + 1 + psz (l.drop (i + 1)) := by unfold psz; rw [List.map_cons, List.sum_cons]
    rw [hd, hps] at hp
    have hsz := hz l[i] (List.getElem_mem hlt)
    have hw : wrap64 ((n : Int) + wrap64 ((l[i].f0.size : Int) + 1)) = ((n + (l[i].f0.size + 1) : Nat) : Int) := by
      have h1 : wrap64 ((l[i].f0.size : Int) + 1) = (l[i].f0.size : Int) + 1 := by unfold wrap64; omega
      rw [h1]
      unfold wrap64; omega
    by_cases hg : 200 < n + (l[i].f0.size + 1)
    · rw [decide_eq_true (by omega)]
      refine Ev.step (f := fun _ => some true) (fun k => ?_) (Ev.now _)
      rw [deadfalllaw08_great.l0]
      rw [if_pos (by omega), if_pos (by omega), if_pos (by omega), hr, hw, if_pos (by omega)]
    · refine Ev.step (fun k => ?_) (ih (i + 1) (n + (l[i].f0.size + 1)) (by omega) (by omega) (by omega))
      rw [deadfalllaw08_great.l0]
      have hw2 : wrap64 ((i : Int) + 1) = ((i + 1 : Nat) : Int) := by unfold wrap64; omega
      rw [if_pos (by omega), if_pos (by omega), if_pos (by omega), hr, hw, if_neg (by omega), hw2]
theorem great_f (l : List S26) (hz : ∀ p ∈ l, p.f0.size ≤ 140737488355328) (hlen : l.length ≤ 140737488355328) : Ev (fun k => deadfalllaw08_great.f k l) (decide (200 < psz l)) :=
  great_l0 l hz hlen l.length 0 0 (by omega) (by omega) (by simp)
theorem matches_f (h : deadfalllaw08_patternAlive.f = some true) (l : List S26) (s : ByteArray) (hz : ∀ p ∈ l, p.f0.size ≤ 140737488355328) (hlen : l.length ≤ 140737488355328) : ∃ k, deadfalllaw08_PatternMatches.f k l s = some true := by
  have key : Ev (fun k => deadfalllaw08_PatternMatches.f k l s) true := by
    unfold deadfalllaw08_PatternMatches.f
    rw [h]
    simp only [Option.bind_some, if_true]
    refine Ev.bind (great_f l hz hlen) ?_
    have yes : Ev (fun k => deadfalllaw08_PatternMatches.j0 k l s true) true := by
      refine Ev.step (f := fun _ => some true) (fun k => ?_) (Ev.now _)
      rw [deadfalllaw08_PatternMatches.j0]
      rw [if_pos rfl]
    by_cases hg : 200 < psz l
    · rw [decide_eq_true hg]; exact yes
    · rw [decide_eq_false hg]
      simp only [Bool.false_eq_true, if_false]
      by_cases hs : (s.size : Int) > 200
      · rw [decide_eq_true hs]; exact yes
      · rw [decide_eq_false hs]
        have e1 : pattern_Match.f l s = some (matchB (thingsL (charsL l)) s) := by unfold pattern_Match.f; rw [if_pos (by omega), if_pos (by omega)]
        have e2 : pattern_Plain.f l = some (plainB (thingsL (charsL l))) := by unfold pattern_Plain.f; rw [if_pos (by omega)]
        refine Ev.step (fun k => ?_) (Ev.bind (f := fun k t => if (matchB (thingsL (charsL l)) s == t) = true then (deadfallref08_Plain.f k l).bind fun t2 => some (plainB (thingsL (charsL l)) == t2) else some false) (rmatch_f l (by omega) s (by omega)) ?_)
        · rw [deadfalllaw08_PatternMatches.j0]
          rw [if_neg (by decide), e1, e2]; rfl
        · rw [match_eq]
          simp only [beq_self_eq_true, if_true]
          refine Ev.bind (rplain_f l (by omega)) ?_
          rw [plain_eq]
          simp only [beq_self_eq_true]
          exact Ev.now true
  exact key.rounds
/-! ### reckoned -/
def endG (l : List Ch) (first : Nat) : Nat → Nat → Option Nat
  | 0, _ => none
  | n + 1, k => if k < l.length then (if (decide (first < k) && isC l k 93) = true then some k else endG l first n (k + memb l k)) else none
theorem endF_G (l : List Ch) (first : Nat) : ∀ (n k : Nat), l.length - k < n → endF l first k = endG l first n k := by
  intro n
  induction n with
  | zero => intro k h; omega
  | succ n ih =>
    intro k h
    unfold endG
    by_cases hk : k < l.length
    · rw [if_pos hk]
      cases h1 : decide (first < k) && isC l k 93 with
      | true => rw [endF_at hk h1]; rfl
      | false =>
        rw [endF_step hk h1]
        have := memb_pos l k
        exact ih _ (by omega)
    · rw [if_neg hk, endF_none hk]
def hasG (l : List Ch) (e : Nat) (c : Int) : Nat → Nat → Bool
  | 0, _ => false
  | n + 1, k => if k < e then (decide (byteAt l k ≤ c) && decide (c ≤ byteAt l (k + memb l k - 1))) || hasG l e c n (k + memb l k) else false
theorem hasF_G (l : List Ch) (e : Nat) (c : Int) : ∀ (n k : Nat), e - k < n → hasF l k e c = hasG l e c n k := by
  intro n
  induction n with
  | zero => intro k h; omega
  | succ n ih =>
    intro k h
    unfold hasG
    by_cases hk : k < e
    · rw [if_pos hk, hasF_step hk]
      have := memb_pos l k
      rw [ih _ (by omega)]
    · rw [if_neg hk, hasF_end hk]
def contG (M : List Ch) (l : List Bool) (c : Int) (i : Nat) : Option Nat :=
  if l.getD i false = true then
    (if isC M i 42 = true then some i
    else match (if isC M i 91 = true then endG M (i + fst M i) (M.length + 1) (i + fst M i) else none) with
      | some e => if (hasG M e c (e + 1) (i + fst M i) != isC M (i + 1) 33) = true then some (e + 1) else none
      | none => if (isC M i 63 || byteAt M i == c) = true then some (i + 1) else none)
  else none
theorem contR_G (M : List Ch) (l : List Bool) (c : Int) : contR M l c = contG M l c := by
  funext i
  unfold contR contG endO
  rw [endF_G M _ (M.length + 1) _ (by omega)]
  congr 2
  generalize (if isC M i 91 = true then endG M (i + fst M i) (M.length + 1) (i + fst M i) else none) = o
  cases o with
  | none => rfl
  | some e => simp only; rw [hasF_G M e c (e + 1) _ (by omega)]
def runG (M : List Ch) (s : ByteArray) : Nat → List Bool
  | 0 => reachL M ((List.replicate (M.length + 1) false).set 0 true)
  | k + 1 => reachL M (foldC (contG M (runG M s k) (bt s k)) (M.length + 1) M.length)
theorem runR_G (M : List Ch) (s : ByteArray) : ∀ k, runR M s k = runG M s k
  | 0 => rfl
  | k + 1 => by
    unfold runR runG
    rw [runR_G M s k, contR_G]
def matchG (M : List Ch) (s : ByteArray) : Bool := (runG M s s.size).getD M.length false
theorem Match_G (l : List S26) (s : ByteArray) (h1 : psz l ≤ 1000000) (h2 : s.size ≤ 1000000) : pattern_Match.f l s = some (matchG (charsL l) s) := by
  unfold pattern_Match.f
  rw [if_pos h1, if_pos h2, match_eq]
  unfold matchR matchG
  rw [runR_G]
theorem alive_f : deadfalllaw08_patternAlive.f = some true := by
  unfold deadfalllaw08_patternAlive.f
  have m1 : pattern_Match.f [⟨⟨#[91, 97, 45, 99, 93, 42]⟩, false, false⟩] ⟨#[98]⟩ = some true := by rw [Match_G _ _ (by decide) (by decide)]; kernel_rfl
  have m2 : pattern_Match.f [⟨⟨#[91, 97, 45, 99, 93, 42]⟩, false, false⟩] ⟨#[98, 120]⟩ = some true := by rw [Match_G _ _ (by decide) (by decide)]; kernel_rfl
  have m3 : pattern_Match.f [⟨⟨#[91, 97, 45, 99, 93, 42]⟩, false, false⟩] ⟨#[100]⟩ = some false := by rw [Match_G _ _ (by decide) (by decide)]; kernel_rfl
  have m4 : pattern_Match.f [⟨⟨#[91, 93]⟩, false, false⟩] ⟨#[91, 93]⟩ = some true := by rw [Match_G _ _ (by decide) (by decide)]; kernel_rfl
  simp only [Option.bind_some, m1, m2, m3, m4, if_true, Bool.false_eq_true, if_false]
end Go.Proofs.Ytkepmbkghmkodaa.Pat
