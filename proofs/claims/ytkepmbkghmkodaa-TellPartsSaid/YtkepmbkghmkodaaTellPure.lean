/- tell: accounts, in plain words: those of all processes together are the account of all. -/
import Derived.Test.YtkepmbkghmkodaaMapSum
namespace Go.Proofs.Ytkepmbkghmkodaa.Tell
open Go.Maps Go.WideShapes Go.Proofs.Ytkepmbkghmkodaa.MapSum
set_option linter.unusedVariables false
set_option linter.unusedSimpArgs false
/-- An event: its kind, the tick, the process, the signal. -/
structure Evt where
  k : Int
  a : Int
  p : Int
  s : Int
/-- Is it one of a process's? (0: all.) -/
def sel (p : Int) (e : Evt) : Bool := p == 0 || e.p == p
def opn (e : Evt) : Bool := e.k == 1 || e.k == 2
/-- Is a thread open? (The last event first.) -/
def st : List Evt → Int → Int → Bool
  | [], _, _ => false
  | e :: r, p, s => if e.p = p ∧ e.s = s then opn e else st r p s
/-- Added up over a process's events. -/
def add (g : Evt → List Evt → Int) : List Evt → Int → Int
  | [], _ => 0
  | e :: r, p => add g r p + if sel p e = true then g e r else 0
def gk (j : Int) (e : Evt) (_ : List Evt) : Int := if e.k = j then 1 else 0
def b2i (b : Bool) : Int := if b = true then 1 else 0
def go (e : Evt) (r : List Evt) : Int := b2i (opn e) - b2i (st r e.p e.s)
theorem hits (q c : Int) (h0 : q ≠ 0) : ∀ P : List Int, P.Pairwise (· ≠ ·) → 0 ∉ P → (P.map fun p => if sel p ⟨0, 0, q, 0⟩ = true then c else 0).sum = if q ∈ P then c else 0
  | [], _, _ => rfl
  | x :: P, hd, hz => by
    have hd' := List.pairwise_cons.1 hd
    have hx : x ≠ 0 := fun e => hz (by rw [e]; exact List.mem_cons_self)
    have ih := hits q c h0 P hd'.2 (fun h => hz (List.mem_cons_of_mem _ h))
    rw [List.map_cons, List.sum_cons, ih]
    have es : sel x ⟨0, 0, q, 0⟩ = (q == x) := by
      show (x == 0 || q == x) = (q == x)
      rw [beq_eq_false_iff_ne.2 hx, Bool.false_or]
    rw [es]
    by_cases e : q = x
    · subst e
      rw [if_pos (beq_self_eq_true _), if_neg (fun h => hd'.1 q h rfl), if_pos List.mem_cons_self]
      omega
    · rw [if_neg (by rw [beq_eq_false_iff_ne.2 e]; decide)]
      by_cases h : q ∈ P
      · rw [if_pos h, if_pos (List.mem_cons_of_mem _ h)]; omega
      · rw [if_neg h, if_neg (fun h2 => by rcases List.mem_cons.1 h2 with h2 | h2; exact e h2; exact h h2)]; omega
theorem sum_add (a b : Int → Int) : ∀ P : List Int, (P.map fun p => a p + b p).sum = (P.map a).sum + (P.map b).sum
  | [] => rfl
  | x :: P => by rw [List.map_cons, List.sum_cons, List.map_cons, List.sum_cons, List.map_cons, List.sum_cons, sum_add a b P]; omega
theorem sum_zero : ∀ P : List Int, (P.map fun _ => (0 : Int)).sum = 0
  | [] => rfl
  | x :: P => by rw [List.map_cons, List.sum_cons, sum_zero P]; rfl
theorem add_sum (g : Evt → List Evt → Int) (P : List Int) (hd : P.Pairwise (· ≠ ·)) (hz : 0 ∉ P) : ∀ R : List Evt, (∀ e ∈ R, e.p ∈ P) → (P.map (add g R)).sum = add g R 0
  | [], _ => sum_zero P
  | e :: r, h => by
    have ih := add_sum g P hd hz r (fun x hx => h x (List.mem_cons_of_mem _ hx))
    have he : e.p ∈ P := h e List.mem_cons_self
    have h0 : e.p ≠ 0 := fun e2 => hz (by rw [← e2]; exact he)
    have h1 := hits e.p (g e r) h0 P hd hz
    rw [if_pos he] at h1
    show (P.map fun p => add g r p + if sel p e = true then g e r else 0).sum = add g r 0 + if sel 0 e = true then g e r else 0
    rw [sum_add, ih, if_pos (show sel 0 e = true from rfl)]
    exact congrArg (add g r 0 + ·) h1
theorem gk_01 (j : Int) (e : Evt) (r : List Evt) : 0 ≤ gk j e r ∧ gk j e r ≤ 1 := by unfold gk; split <;> omega
theorem add_gk (j : Int) : ∀ (R : List Evt) (p : Int), 0 ≤ add (gk j) R p ∧ add (gk j) R p ≤ R.length
  | [], p => ⟨Int.le_refl 0, Int.le_refl 0⟩
  | e :: r, p => by
    have ih := add_gk j r p
    have h := gk_01 j e r
    show 0 ≤ add (gk j) r p + (if sel p e = true then gk j e r else 0) ∧ add (gk j) r p + (if sel p e = true then gk j e r else 0) ≤ ((e :: r).length : Int)
    rw [List.length_cons]
    split <;> omega
section
variable (W : Int → Prop) (ky : Int → Int → Lit) (hky : ∀ p s, WideAt.IsKeyLit (ky p s)) (inj : ∀ p s p' s', W p → W s → W p' → W s' → ky p s = ky p' s' → p = p' ∧ s = s')
/-- What the map of threads holds behind some events. -/
def DD : List Evt → Int → Dm
  | [], _ => .map []
  | e :: r, p => if sel p e = true then (DD r p).put (ky e.p e.s) (.lit (.bool (opn e))) else DD r p
include hky in
theorem DD_tidy : ∀ (R : List Evt) (p : Int), Tidy (DD ky R p)
  | [], p => tidy_empty
  | e :: r, p => by
    show Tidy (if sel p e = true then _ else _)
    split
    · exact (DD_tidy r p).put (hky _ _) _
    · exact DD_tidy r p
include hky inj in
theorem DD_at : ∀ (R : List Evt) (p : Int) (e : Evt), (∀ x ∈ R, W x.p ∧ W x.s) → W e.p → W e.s → sel p e = true → (DD ky R p).atKey (ky e.p e.s) (.lit (.bool false)) = .lit (.bool (st R e.p e.s))
  | [], p, e, _, _, _, _ => rfl
  | x :: r, p, e, hR, hw1, hw2, hs => by
    have ih := DD_at r p e (fun y hy => hR y (List.mem_cons_of_mem _ hy)) hw1 hw2 hs
    have hx := hR x List.mem_cons_self
    show (if sel p x = true then (DD ky r p).put (ky x.p x.s) (.lit (.bool (opn x))) else DD ky r p).atKey (ky e.p e.s) (.lit (.bool false)) = .lit (.bool (if x.p = e.p ∧ x.s = e.s then opn x else st r e.p e.s))
    by_cases he : x.p = e.p ∧ x.s = e.s
    · have hx' : sel p x = true := by
        unfold sel at hs ⊢
        rw [he.1]; exact hs
      rw [if_pos hx', if_pos he, he.1, he.2]
      exact atKey_put_same (DD_tidy ky hky r p).isMap (hky _ _) _ _
    · rw [if_neg he]
      split
      · rw [atKey_put_other (fun h => he (by have := inj _ _ _ _ hw1 hw2 hx.1 hx.2 h; exact ⟨this.1.symm, this.2.symm⟩))]
        exact ih
      · exact ih
/-- 1 at an entry that holds true. -/
def isT (_ : Lit) (d : Dm) : Int := match d with
  | .lit (.bool b) => b2i b
  | _ => 0
include hky inj in
theorem DD_sum : ∀ (R : List Evt) (p : Int), (∀ x ∈ R, W x.p ∧ W x.s) → sumD isT (DD ky R p) = add go R p
  | [], p, _ => rfl
  | e :: r, p, hR => by
    have hr := fun y hy => hR y (List.mem_cons_of_mem _ hy)
    have he := hR e List.mem_cons_self
    have ih := DD_sum r p hr
    show sumD isT (if sel p e = true then (DD ky r p).put (ky e.p e.s) (.lit (.bool (opn e))) else DD ky r p) = add go r p + if sel p e = true then go e r else 0
    by_cases h : sel p e = true
    · rw [if_pos h, if_pos h, sumD_put isT (DD_tidy ky hky r p) _ _ (.lit (.bool false)) rfl (hky _ _), DD_at W ky hky inj r p e hr he.1 he.2 h, ih]
      show add go r p - b2i (st r e.p e.s) + b2i (opn e) = add go r p + (b2i (opn e) - b2i (st r e.p e.s))
      omega
    · rw [if_neg h, if_neg h, ih]; omega
theorem isT_nn (k : Lit) (d : Dm) : 0 ≤ isT k d := by
  unfold isT b2i
  split
  · split <;> omega
  · omega
end
theorem sumE_nn {f : Lit → Dm → Int} (h : ∀ k d, 0 ≤ f k d) : ∀ es : Es, 0 ≤ sumE f es
  | [] => Int.le_refl 0
  | q :: es => by rw [sumE_cons]; have := sumE_nn h es; have := h q.1 q.2; omega
theorem tl_le {f : Lit → Dm → Int} (h : ∀ k d, 0 ≤ f k d) (left : Lit → Bool) : ∀ es : Es, 0 ≤ tl f es left ∧ tl f es left ≤ sumE f es
  | [] => ⟨Int.le_refl 0, Int.le_refl 0⟩
  | q :: es => by
    have ih := tl_le h left es
    have hq := h q.1 q.2
    unfold tl at ih ⊢
    rw [sumE_cons, sumE_cons]
    split <;> omega
theorem add_go_le : ∀ (R : List Evt) (p : Int), add go R p ≤ R.length
  | [], p => Int.le_refl 0
  | e :: r, p => by
    have ih := add_go_le r p
    show add go r p + (if sel p e = true then go e r else 0) ≤ ((e :: r).length : Int)
    rw [List.length_cons]
    have : go e r ≤ 1 := by unfold go b2i; split <;> split <;> omega
    split <;> omega
theorem add_go_nn (W : Int → Prop) (ky : Int → Int → Lit) (hky : ∀ p s, WideAt.IsKeyLit (ky p s)) (inj : ∀ p s p' s', W p → W s → W p' → W s' → ky p s = ky p' s' → p = p' ∧ s = s') (R : List Evt) (p : Int) (hR : ∀ x ∈ R, W x.p ∧ W x.s) : 0 ≤ add go R p := by
  rw [← DD_sum W ky hky inj R p hR]
  obtain ⟨es, h, _⟩ := DD_tidy ky hky R p
  rw [h]
  exact sumE_nn isT_nn es
/-- The set of all processes. -/
def DP : List Evt → Dm
  | [] => .map []
  | e :: r => (DP r).put (.int .i64 e.p) (.lit (.bool true))
theorem DP_tidy : ∀ R : List Evt, Tidy (DP R)
  | [] => tidy_empty
  | e :: r => (DP_tidy r).put (by trivial) _
theorem DP_has : ∀ (R : List Evt) (e : Evt), e ∈ R → Maps.has (DP R) (.int .i64 e.p) = true
  | [], e, h => absurd h List.not_mem_nil
  | x :: r, e, h => by
    show Maps.has ((DP r).put (.int .i64 x.p) (.lit (.bool true))) (.int .i64 e.p) = true
    by_cases hx : e.p = x.p
    · rw [hx]; exact has_put_same (DP_tidy r).isMap (by trivial) _
    · rw [has_put_other (by simp only [ne_eq, Lit.int.injEq, not_and]; exact fun _ => hx)]
      rcases List.mem_cons.1 h with h | h
      · exact absurd (by rw [h]) hx
      · exact DP_has r e h
theorem mem_insert {x q : Lit × Dm} : ∀ {es : Es}, q ∈ DataW.insert x es → q = x ∨ q ∈ es
  | [], h => by
    unfold DataW.insert at h
    exact Or.inl (List.mem_singleton.1 h)
  | y :: r, h => by
    unfold DataW.insert at h
    split at h
    · exact List.mem_cons.1 h
    · rcases List.mem_cons.1 h with h | h
      · exact Or.inr (by rw [h]; exact List.mem_cons_self)
      · rcases mem_insert h with h | h
        · exact Or.inl h
        · exact Or.inr (List.mem_cons_of_mem _ h)
theorem DP_keys : ∀ (R : List Evt) (es : Es), DP R = .map es → ∀ q ∈ es, ∃ e ∈ R, q.1 = .int .i64 e.p
  | [], es, h, q, hq => by
    cases h
    exact absurd hq List.not_mem_nil
  | x :: r, es, h, q, hq => by
    obtain ⟨es0, h0, _⟩ := DP_tidy r
    have hp : DP (x :: r) = .map (DataW.insert (.int .i64 x.p, .lit (.bool true)) (es0.filter fun p => !p.1.sameKey (.int .i64 x.p))) := by
      show (DP r).put _ _ = _
      rw [h0]; rfl
    rw [hp] at h
    cases h
    rcases mem_insert hq with h1 | h1
    · exact ⟨x, List.mem_cons_self, by rw [h1]⟩
    · obtain ⟨e, he, h2⟩ := DP_keys r es0 h0 q (List.mem_filter.1 h1).1
      exact ⟨e, List.mem_cons_of_mem _ he, h2⟩
/-- A key's number. -/
def kint : Lit → Int
  | .int _ x => x
  | _ => 0
theorem sumE_map (F : Int → Int) : ∀ es : Es, sumE (fun k _ => F (kint k)) es = ((es.map fun q => kint q.1).map F).sum
  | [] => rfl
  | q :: es => by rw [sumE_cons, sumE_map F es, List.map_cons, List.map_cons, List.sum_cons]
theorem parts (R : List Evt) (h0 : ∀ e ∈ R, e.p ≠ 0) (es : Es) (hD : DP R = .map es) (g : Evt → List Evt → Int) : sumE (fun k _ => add g R (kint k)) es = add g R 0 := by
  have hk := DP_keys R es hD
  obtain ⟨es', h', hap⟩ := DP_tidy R
  rw [hD] at h'
  cases h'
  rw [sumE_map]
  refine add_sum g _ ?_ ?_ R ?_
  · rw [List.pairwise_map]
    refine hap.imp_of_mem ?_
    intro a b ha hb hne e
    obtain ⟨x, _, hx⟩ := hk a ha
    obtain ⟨y, _, hy⟩ := hk b hb
    apply hne
    rw [hx, hy] at e ⊢
    rw [show x.p = y.p from e]
  · intro hz
    obtain ⟨q, hq, e⟩ := List.mem_map.1 hz
    obtain ⟨x, hx, h1⟩ := hk q hq
    rw [h1] at e
    exact h0 x hx e
  · intro e he
    have := DP_has R e he
    rw [hD, has_eq, List.any_eq_true] at this
    obtain ⟨q, hq, hs⟩ := this
    refine List.mem_map.2 ⟨q, hq, ?_⟩
    rw [WideAt.sameKey_eq hs]
    rfl
end Go.Proofs.Ytkepmbkghmkodaa.Tell
