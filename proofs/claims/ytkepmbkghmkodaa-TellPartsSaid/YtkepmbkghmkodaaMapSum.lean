/- What is added up over a map's entries, in whatever order they come. -/
import Derived.Maps.RangeWalk
namespace Go.Proofs.Ytkepmbkghmkodaa.MapSum
open Go.Maps Go.WideShapes
set_option linter.unusedVariables false
set_option linter.unusedSimpArgs false
abbrev Dm := DataW Unit
abbrev Es := List (Lit × Dm)
abbrev Apart (es : Es) : Prop := es.Pairwise (fun p q => p.1 ≠ q.1)
abbrev Keyy (es : Es) : Prop := ∀ p ∈ es, WideAt.IsKeyLit p.1
theorem entry_of_at {es : Es} (hap : Apart es) (hk : Keyy es) {kl : Lit} {y : Dm} (hat : ∀ zd, (DataW.map es).atKey kl zd = y) : (kl, y) ∈ es := by
  have h1 : Maps.has (DataW.map es) kl = true := has_true_of_atKey hat
  rw [has_eq, List.any_eq_true] at h1
  obtain ⟨p, hp, hs⟩ := h1
  have e := WideAt.sameKey_eq hs
  subst e
  have := WideAt.atKey_mem .nil (hk p hp) hap (show (p.1, p.2) ∈ es from hp)
  rw [hat .nil] at this
  rw [this]
  exact hp
/-- The sum over all entries. -/
def sumE (f : Lit → Dm → Int) (es : Es) : Int := (es.map fun q => f q.1 q.2).sum
/-- The sum over those that have come. -/
def tl (f : Lit → Dm → Int) (es : Es) (left : Lit → Bool) : Int := sumE (fun k d => if left k = true then 0 else f k d) es
theorem sumE_cons (f : Lit → Dm → Int) (q : Lit × Dm) (es : Es) : sumE f (q :: es) = f q.1 q.2 + sumE f es := by
  unfold sumE; rw [List.map_cons, List.sum_cons]
theorem sumE_congr {f g : Lit → Dm → Int} : ∀ {es : Es}, (∀ p ∈ es, f p.1 p.2 = g p.1 p.2) → sumE f es = sumE g es
  | [], _ => rfl
  | q :: es, h => by rw [sumE_cons, sumE_cons, h q (by simp), sumE_congr (es := es) (fun p hp => h p (by simp [hp]))]
theorem sumE_zero : ∀ (es : Es), sumE (fun _ _ => 0) es = 0
  | [] => rfl
  | q :: es => by rw [sumE_cons, sumE_zero es]; rfl
theorem tl_start {f : Lit → Dm → Int} {es : Es} (hk : Keyy es) : tl f es (Maps.has (.map es)) = 0 := by
  unfold tl
  rw [sumE_congr (g := fun _ _ => 0) (fun p hp => by
    have : Maps.has (DataW.map es) p.1 = true := List.any_eq_true.2 ⟨p, hp, WideAt.sameKey_self (hk p hp)⟩
    rw [if_pos this])]
  exact sumE_zero es
theorem tl_end {f : Lit → Dm → Int} {es : Es} {left : Lit → Bool} (hl : ∀ kl, left kl = false) : tl f es left = sumE f es :=
  sumE_congr (fun p hp => by rw [hl, if_neg (by decide)])
theorem tl_step {f : Lit → Dm → Int} {left : Lit → Bool} {kl : Lit} {y : Dm} (hl : left kl = true) (hkl : WideAt.IsKeyLit kl) : ∀ {es : Es}, Apart es → (kl, y) ∈ es → tl f es (fun z => left z && !z.sameKey kl) = tl f es left + f kl y
  | [], _, h => absurd h List.not_mem_nil
  | q :: es, hap, h => by
    have hap' := List.pairwise_cons.1 hap
    unfold tl
    rw [sumE_cons, sumE_cons]
    by_cases e : q.1 = kl
    · have hq : q = (kl, y) := by
        rcases List.mem_cons.1 h with h | h
        · exact h.symm
        · exact absurd e (hap'.1 _ h)
      subst hq
      have h1 : ∀ p ∈ es, (fun (k : Lit) (d : Dm) => if (left k && !k.sameKey kl) = true then (0 : Int) else f k d) p.1 p.2 = (fun (k : Lit) (d : Dm) => if left k = true then (0 : Int) else f k d) p.1 p.2 := fun p hp => by
        have hne : p.1 ≠ kl := fun e2 => hap'.1 p hp e2.symm
        show (if (left p.1 && !p.1.sameKey kl) = true then (0 : Int) else f p.1 p.2) = if left p.1 = true then (0 : Int) else f p.1 p.2
        rw [sameKey_ne hne, Bool.not_false, Bool.and_true]
      rw [sumE_congr (f := fun (k : Lit) (d : Dm) => if (fun z => left z && !z.sameKey kl) k = true then (0 : Int) else f k d) (g := fun (k : Lit) (d : Dm) => if left k = true then (0 : Int) else f k d) h1]
      show (if (left kl && !kl.sameKey kl) = true then (0 : Int) else f kl y) + _ = (if left kl = true then (0 : Int) else f kl y) + _ + _
      rw [WideAt.sameKey_self hkl, hl, if_neg (by decide), if_pos rfl]
      omega
    · have hm : (kl, y) ∈ es := by
        rcases List.mem_cons.1 h with h | h
        · exact absurd (by rw [← h]) e
        · exact h
      have ih := tl_step (f := f) (y := y) hl hkl hap'.2 hm
      unfold tl at ih
      rw [ih]
      show (if (left q.1 && !q.1.sameKey kl) = true then (0 : Int) else f q.1 q.2) + _ = _
      rw [sameKey_ne e, Bool.not_false, Bool.and_true]
      omega
theorem sumE_insert (f : Lit → Dm → Int) (x : Lit × Dm) : ∀ es : Es, sumE f (DataW.insert x es) = f x.1 x.2 + sumE f es
  | [] => sumE_cons f x []
  | y :: r => by
    unfold DataW.insert
    split
    · rw [sumE_cons]
    · rw [sumE_cons, sumE_cons, sumE_insert f x r]; omega
theorem sumE_strike (f : Lit → Dm → Int) (k : Lit) (z : Dm) (hz : f k z = 0) (hk : WideAt.IsKeyLit k) : ∀ es : Es, Apart es → sumE f (es.filter fun p => !p.1.sameKey k) = sumE f es - f k ((DataW.map es).atKey k z)
  | [], _ => by
    show sumE f [] = sumE f [] - f k z
    rw [hz]; rfl
  | q :: es, hap => by
    have hap' := List.pairwise_cons.1 hap
    by_cases e : q.1 = k
    · subst e
      have h1 : (es.filter fun p => !p.1.sameKey q.1) = es := List.filter_eq_self.2 fun p hp => by
        rw [sameKey_ne (fun e2 => hap'.1 p hp e2.symm)]; rfl
      have h2 : (DataW.map (q :: es)).atKey q.1 z = q.2 := WideAt.atKey_mem z hk hap (List.mem_cons_self)
      rw [List.filter_cons_of_neg (by rw [WideAt.sameKey_self hk]; decide), h1, h2, sumE_cons]
      omega
    · have hs := sameKey_ne e
      have h2 : (DataW.map (q :: es)).atKey k z = (DataW.map es).atKey k z := by
        unfold DataW.atKey
        simp only [List.find?_cons_of_neg (p := fun p : Lit × Dm => p.1.sameKey k) (a := q) (l := es) (by rw [hs]; decide)]
      rw [List.filter_cons_of_pos (by rw [hs]; decide), sumE_cons, sumE_cons, sumE_strike f k z hz hk es hap'.2, h2]
      omega
/-- .. of a map as read. -/
def sumD (f : Lit → Dm → Int) : Dm → Int
  | .map es => sumE f es
  | _ => 0
theorem sumD_put (f : Lit → Dm → Int) {D : Dm} (h : Tidy D) (k : Lit) (d z : Dm) (hz : f k z = 0) (hk : WideAt.IsKeyLit k) : sumD f (D.put k d) = sumD f D - f k (D.atKey k z) + f k d := by
  obtain ⟨es, rfl, hap⟩ := h
  show sumE f (DataW.insert (k, d) (es.filter fun p => !p.1.sameKey k)) = sumE f es - f k ((DataW.map es).atKey k z) + f k d
  rw [sumE_insert, sumE_strike f k z hz hk es hap]
  show f k d + _ = _
  omega
end Go.Proofs.Ytkepmbkghmkodaa.MapSum
