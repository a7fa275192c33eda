/- kern: what turns in memory. -/
import Derived.Test.YtbgodajbdbgdfaaDoorProcWalk
namespace Go.Proofs.YtbgodajbdbgdfaaDoor.Kern
open Go.RowKit Go.Proofs.YtbgodajbdbgdfaaDoorW.PrintWords Go.Proofs.YtbgodajbdbgdfaaDoorW.PrintLast Go.Proofs.YtbgodajbdbgdfaaDoor.Sig Go.Proofs.YtbgodajbdbgdfaaDoor.Base Go.Maps
set_option linter.unusedVariables false
set_option linter.unusedSimpArgs false
section
variable {w : World} {base g m n : Nat} {D : Dm} {B : Int → Nat} {v : Value} {f : Tb} {last : Int} {ends : List (Int × Int)}
theorem TV.neM (h : TV w base g m n D B v f last ends) {k t : Nat} {cs : Array Value} (hk : w.heap[k]? = some (.cells cs t (0, 0))) : k ≠ m := by
  rintro rfl
  obtain ⟨es, clock, hb, _⟩ := h.own
  rw [hk] at hb
  cases hb
theorem TV.neT (h : TV w base g m n D B v f last ends) {q : Int} {r : Pr} (hf : f q = some r) : g ≠ B q := blk_ne h.hg (h.yes q r hf).blk (by decide)
theorem TV.rowM (h : TV w base g m n D B v f last ends) : some m ≠ v.ownBlock := by
  intro e
  obtain ⟨cells, hc⟩ := Kd.R_typed h.row m e.symm
  exact h.neM hc rfl
theorem TV.ltM (h : TV w base g m n D B v f last ends) : m < w.heap.size := h.own.lt
theorem upd_ne {q q' : Int} {r r' : Pr} (hf : f q = some r) : upd f q (some r') q' ≠ none ↔ f q' ≠ none := by
  by_cases e : q' = q
  · subst e; rw [upd_same, hf]; simp
  · rw [upd_other e]
theorem kEnd_E {t : Nat} (h1 : 73 ≠ t) : ∀ q, q ∈ 73 :: kEnd.E → q ≠ t := by
  intro q hq
  have : q = 73 := by
    rcases List.mem_cons.1 hq with h | h
    · exact h
    · exact absurd h (by show ¬ q ∈ ([] : List Nat); exact List.not_mem_nil)
  rw [this]; exact h1
/-- A cell of a process. -/
theorem TV.put (h : TV w base g m n D B v f last ends) {q : Int} {r r' : Pr} {j : Nat} {u : Value} (hf : f q = some r) (e : (pcell r).setIfInBounds j u = pcell r') (hp : 0 ≤ r'.par ∧ r'.par < q) (h1 : r'.ign < 4294967296) (h2 : r'.ca < 4294967296) (h3 : r'.pen < 4294967296) :
    TV (w.setCell ⟨B q, j, none⟩ u) base g m n D B v (upd f q (some r')) last ends where
  hg := blk_far h.hg (show g ≠ (⟨B q, j, none⟩ : Addr).block from h.neT hf) u
  bg := h.bg
  bm := h.bm
  own := h.own.setCell (a := ⟨B q, j, none⟩) (h.neM (h.yes q r hf).blk).symm u
  cnt := h.cnt
  lmt := h.lmt
  top := fun q' hq' => h.top q' ((upd_ne hf).1 hq')
  no := fun q' hq' => by
    have e1 : q' ≠ q := by rintro rfl; rw [upd_same] at hq'; cases hq'
    rw [upd_other e1] at hq'
    exact h.no q' hq'
  yes := fun q' r'' hq' => by
    by_cases e2 : q' = q
    · subst e2
      rw [upd_same] at hq'
      cases hq'
      have p := h.yes q' r hf
      exact ⟨p.key, p.low, blk_put p.blk j u e, hp, h1, h2, h3⟩
    · rw [upd_other e2] at hq'
      have p := h.yes q' r'' hq'
      exact ⟨p.key, p.low, blk_far p.blk (show B q' ≠ B q from fun e3 => e2 (h.inj q' q (by rw [hq']; simp) (by rw [hf]; simp) e3)) u, p.par, p.ign, p.ca, p.pen⟩
  inj := fun q1 q2 h4 h5 => h.inj q1 q2 ((upd_ne hf).1 h4) ((upd_ne hf).1 h5)
  row := Kd.R_set h.row (h.yes q r hf).blk (kEnd_E (by decide)) j u
/-- The greatest pid. -/
theorem TV.setLast (h : TV w base g m n D B v f last ends) {l' : Int} (h1 : last ≤ l') (h2 : l' ≤ 1000000) : TV (w.setCell ⟨g, 1, none⟩ (.int .i64 l')) base g m n D B v f l' ends where
  hg := blk_put h.hg 1 _ rfl
  bg := h.bg
  bm := h.bm
  own := h.own.setCell (a := ⟨g, 1, none⟩) (h.neM h.hg).symm _
  cnt := Int.le_trans h.cnt h1
  lmt := h2
  top := fun q hq => ⟨(h.top q hq).1, Int.le_trans (h.top q hq).2 h1⟩
  no := h.no
  yes := fun q r hq => by
    have p := h.yes q r hq
    exact ⟨p.key, p.low, blk_far p.blk (h.neT hq).symm _, p.par, p.ign, p.ca, p.pen⟩
  inj := h.inj
  row := Kd.R_set h.row h.hg (kEnd_E (by decide)) 1 _
/-- How processes ended. -/
theorem TV.setEnds (h : TV w base g m n D B v f last ends) {v' : Value} {ends' : List (Int × Int)} (hr : kEnd.R 73 w base ok0 v' ends') : TV (w.setCell ⟨g, 2, none⟩ v') base g m n D B v' f last ends' where
  hg := blk_put h.hg 2 _ rfl
  bg := h.bg
  bm := h.bm
  own := h.own.setCell (a := ⟨g, 2, none⟩) (h.neM h.hg).symm _
  cnt := h.cnt
  lmt := h.lmt
  top := h.top
  no := h.no
  yes := fun q r hq => by
    have p := h.yes q r hq
    exact ⟨p.key, p.low, blk_far p.blk (h.neT hq).symm _, p.par, p.ign, p.ca, p.pen⟩
  inj := h.inj
  row := Kd.R_set hr h.hg (kEnd_E (by decide)) 2 _
/-- One more process. -/
theorem TV.new (h : TV w base g m n D B v f last ends) {w' : World} {q0 : Int} {b0 : Nat} {r0 : Pr} (hq : f q0 = none) (hq1 : 1 ≤ q0) (hq2 : q0 ≤ last) (hn : (n : Int) + 1 ≤ last) (hb : w.heap[b0]? = some (.cells (pcell r0) 65 (0, 0))) (hb0 : base ≤ b0) (hbn : ∀ q, f q ≠ none → B q ≠ b0)
    (hp : 0 ≤ r0.par ∧ r0.par < q0) (h1 : r0.ign < 4294967296) (h2 : r0.ca < 4294967296) (h3 : r0.pen < 4294967296) (own1 : w'.ownsMap Tryd.prog 3 Rp m (n + 1) (D.put (.int .i64 q0) (.lit (.int .i64 (b0 : Int))))) (hgr : w.grownBy w' (some m)) :
    TV w' base g m (n + 1) (D.put (.int .i64 q0) (.lit (.int .i64 (b0 : Int)))) (fun q => if q = q0 then b0 else B q) v (upd f q0 (some r0)) last ends where
  hg := blk_grown h.hg hgr (fun e => h.neM h.hg (Option.some.inj e))
  bg := h.bg
  bm := h.bm
  own := own1
  cnt := by omega
  lmt := h.lmt
  top := fun q hq' => by
    by_cases e : q = q0
    · subst e; exact ⟨hq1, hq2⟩
    · rw [upd_other e] at hq'; exact h.top q hq'
  no := fun q hq' => by
    have e1 : q ≠ q0 := by rintro rfl; rw [upd_same] at hq'; cases hq'
    rw [upd_other e1] at hq'
    rw [has_put_other (by simp only [ne_eq, Lit.int.injEq, not_and]; exact fun _ => e1)]
    exact h.no q hq'
  yes := fun q r hq' => by
    by_cases e : q = q0
    · subst e
      rw [upd_same] at hq'
      cases hq'
      refine ⟨fun z => ?_, by rw [if_pos rfl]; exact hb0, by rw [if_pos rfl]; exact blk_grown hb hgr (fun e => h.neM hb (Option.some.inj e)), hp, h1, h2, h3⟩
      rw [if_pos rfl]
      exact atKey_put_same (h.own.isMap) (by trivial) _ _
    · rw [upd_other e] at hq'
      have p := h.yes q r hq'
      refine ⟨fun z => ?_, by rw [if_neg e]; exact p.low, by rw [if_neg e]; exact blk_grown p.blk hgr (fun e => h.neM p.blk (Option.some.inj e)), p.par, p.ign, p.ca, p.pen⟩
      rw [if_neg e, atKey_put_other (by simp only [ne_eq, Lit.int.injEq, not_and]; exact fun _ => e)]
      exact p.key z
  inj := fun q1 q2 h4 h5 h6 => by
    by_cases e1 : q1 = q0
    · by_cases e2 : q2 = q0
      · rw [e1, e2]
      · rw [if_pos e1, if_neg e2] at h6
        rw [upd_other e2] at h5
        exact absurd h6.symm (hbn q2 h5)
    · by_cases e2 : q2 = q0
      · rw [if_neg e1, if_pos e2] at h6
        rw [upd_other e1] at h4
        exact absurd h6 (hbn q1 h4)
      · rw [if_neg e1, if_neg e2] at h6
        rw [upd_other e1] at h4
        rw [upd_other e2] at h5
        exact h.inj q1 q2 h4 h5 h6
  row := Kd.R_grown1 h.row rfl hgr h.rowM
/-- One less. -/
theorem TV.del (h : TV w base g m n D B v f last ends) {w' : World} {q0 : Int} (own1 : w'.ownsMap Tryd.prog 3 Rp m n (D.del (.int .i64 q0))) (hgr : w.grownBy w' (some m)) :
    TV w' base g m n (D.del (.int .i64 q0)) B v (upd f q0 none) last ends where
  hg := blk_grown h.hg hgr (fun e => h.neM h.hg (Option.some.inj e))
  bg := h.bg
  bm := h.bm
  own := own1
  cnt := h.cnt
  lmt := h.lmt
  top := fun q hq' => by
    by_cases e : q = q0
    · subst e; rw [upd_same] at hq'; exact absurd rfl hq'
    · rw [upd_other e] at hq'; exact h.top q hq'
  no := fun q hq' => by
    by_cases e : q = q0
    · subst e; exact has_del_same
    · rw [upd_other e] at hq'
      rw [has_del_other (by simp only [ne_eq, Lit.int.injEq, not_and]; exact fun _ => e)]
      exact h.no q hq'
  yes := fun q r hq' => by
    have e : q ≠ q0 := by rintro rfl; rw [upd_same] at hq'; cases hq'
    rw [upd_other e] at hq'
    have p := h.yes q r hq'
    exact ⟨fun z => by rw [atKey_del_other (by simp only [ne_eq, Lit.int.injEq, not_and]; exact fun _ => e)]; exact p.key z, p.low, blk_grown p.blk hgr (fun e => h.neM p.blk (Option.some.inj e)), p.par, p.ign, p.ca, p.pen⟩
  inj := fun q1 q2 h4 h5 h6 => by
    have e1 : q1 ≠ q0 := by rintro rfl; rw [upd_same] at h4; exact h4 rfl
    have e2 : q2 ≠ q0 := by rintro rfl; rw [upd_same] at h5; exact h5 rfl
    rw [upd_other e1] at h4
    rw [upd_other e2] at h5
    exact h.inj q1 q2 h4 h5 h6
  row := Kd.R_grown1 h.row rfl hgr h.rowM
/-- The keys are numbers. -/
theorem keys_int (h : TV w base g m n D B v f last ends) : ∃ es, D = .map es ∧ es.Pairwise (fun p q => p.1 ≠ q.1) ∧ ∀ p ∈ es, ∃ x, p.1 = .int .i64 x := by
  obtain ⟨es, e, hap, _⟩ := h.own.entries keyI
  refine ⟨es, e, hap, fun p hp => ?_⟩
  obtain ⟨es', clock, hb, F, hs, hD⟩ := h.own
  rw [e] at hD
  have e2 : es = (es'.toList.map (WideElems.rg Tryd.prog 3 Rp)).foldr DataW.insert [] := DataW.map.inj hD
  rw [e2, mem_sorted] at hp
  obtain ⟨k, hk⟩ := fit_keys F p hp
  obtain ⟨x, _, e3, _⟩ := Maps.keyOf_int_inv Tryd.underlying3 hk
  exact ⟨x, e3⟩
def kint : Lit → Int
  | .int _ x => x
  | _ => 0
theorem size_of (h : TV w base g m n D B v f last ends) (L : List Int) (hnd : L.Nodup) (hL : ∀ q, q ∈ L ↔ f q ≠ none) : Maps.size D = L.length := by
  obtain ⟨es, e, hap, hk⟩ := keys_int h
  have hmem : ∀ q, q ∈ es.map (fun p => kint p.1) ↔ f q ≠ none := by
    intro q
    have hhas : Maps.has D (.int .i64 q) = true ↔ f q ≠ none := by
      constructor
      · intro h1 h2
        rw [h.no q h2] at h1
        cases h1
      · intro h1
        cases hf : f q with
        | none => exact absurd hf h1
        | some r => exact has_true_of_atKey (h.yes q r hf).key
    rw [← hhas, e, has_eq, List.any_eq_true]
    constructor
    · intro hq
      obtain ⟨p, hp, e2⟩ := List.mem_map.1 hq
      obtain ⟨x, hx⟩ := hk p hp
      refine ⟨p, hp, ?_⟩
      rw [hx] at e2 ⊢
      rw [show x = q from e2]
      exact WideAt.sameKey_self (by trivial)
    · rintro ⟨p, hp, hs⟩
      refine List.mem_map.2 ⟨p, hp, ?_⟩
      rw [WideAt.sameKey_eq hs]
      rfl
  have hnd2 : (es.map fun p => kint p.1).Nodup := by
    rw [List.nodup_iff_pairwise_ne, List.pairwise_map]
    refine hap.imp_of_mem ?_
    intro a b ha hb hne e2
    obtain ⟨x, hx⟩ := hk a ha
    obtain ⟨y, hy⟩ := hk b hb
    apply hne
    rw [hx, hy] at e2 ⊢
    rw [show x = y from e2]
  have hp : (es.map fun p => kint p.1).Perm L := (List.perm_ext_iff_of_nodup hnd2 hnd).2 (fun q => by rw [hmem, hL])
  have := hp.length_eq
  rw [List.length_map] at this
  rw [e, size_eq, this]
end
end Go.Proofs.YtbgodajbdbgdfaaDoor.Kern
