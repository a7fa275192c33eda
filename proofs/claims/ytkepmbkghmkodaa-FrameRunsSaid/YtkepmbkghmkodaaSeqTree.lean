/- A region that draws its order, where two operations that make memory are ready at once: a tree of kinds. -/
import Derived.Test.YtkepmbkghmkodaaSeqMore
namespace Go.Proofs.Ytkepmbkghmkodaa.Seq
open Go.RowKit Go.Proofs.YtkepmbkghmkodaaW.PrintWords Go.Proofs.YtkepmbkghmkodaaW.PrintLast Go.Proofs.Ytkepmbkghmkodaa.Base
set_option linter.unusedVariables false
inductive T where
  | fin
  | pure (i : Nat) (N : Option Tmp) (r : T)
  | held (i : Nat) (N : Option Tmp) (r : T)
  | one (i : Nat) (N : Option Tmp) (r : T)
  | two (i : Nat) (N : Option Tmp) (s : T) (j : Nat) (M : Option Tmp) (t : T)
def T.size : T → Nat
  | .fin => 0
  | .pure _ _ r => r.size + 1
  | .held _ _ r => r.size + 1
  | .one _ _ r => r.size + 1
  | .two _ _ s _ _ _ => s.size + 1
section
variable {P : Program} {ops : Array Oper} {Q : Exit → Act → World → Prop} {md : Region.Mode} {S : World → Prop}
def wpT (P : Program) (ops : Array Oper) (Q : Exit → Act → World → Prop) (S : World → Prop) : T → Act → World → Prop
  | .fin, a, w => Q .normal a w
  | .pure i N r, a, w => ∃ o v, ops[i]? = some o ∧ (∀ c a w, Q (.panic c) (a.put N v) w → Q (.panic c) a w) ∧ Yields P ops o v a ∧ wpT P ops Q S r (a.put N v) w
  | .held i N r, a, w => ∃ o v, ops[i]? = some o ∧ (∀ c a w, Q (.panic c) (a.put N v) w → Q (.panic c) a w) ∧ YieldsIf P ops S o v a ∧ S w ∧ wpT P ops Q S r (a.put N v) w
  | .one i _ r, a, w => wpOp P ops Q i (fun a' w' => (S w → S w') ∧ wpT P ops Q S r a' w') a w
  | .two i _ s j _ t, a, w => wpOp P ops Q i (fun a' w' => (S w → S w') ∧ wpT P ops Q S s a' w') a w ∧ wpOp P ops Q j (fun a' w' => (S w → S w') ∧ wpT P ops Q S t a' w') a w
def checkT (md : Region.Mode) (ops : Array Oper) : Array Bool → T → Bool
  | l, .fin => Region.ready md ops l == []
  | l, .pure i N r => anyB md ops l (l.setIfInBounds i true) i && dstB ops i N && checkT md ops (l.setIfInBounds i true) r
  | l, .held i N r => takeB md ops [] l (l.setIfInBounds i true) i && dstB ops i N && checkT md ops (l.setIfInBounds i true) r
  | l, .one i _ r => Region.ready md ops l == [i] && checkT md ops (l.setIfInBounds i true) r
  | l, .two i _ s j _ t => Region.ready md ops l == [i, j] && s.size == t.size && checkT md ops (l.setIfInBounds i true) s && checkT md ops (l.setIfInBounds j true) t
theorem tree_sound : ∀ (t : T) (l : Array Bool) (a : Act) (w : World), checkT md ops l t = true → wpT P ops Q S t a w → wpAnyLast P md ops Q S [] t.size l a w
  | .fin, l, a, w, hc, h => wpAnyLast_done (by simpa [checkT] using hc) h 0
  | .pure i N r, l, a, w, hc, h => by
    simp only [checkT, Bool.and_eq_true] at hc
    obtain ⟨o, v, ho, hQ, hy, h⟩ := h
    have hN := dst_of hc.1.2 ho
    exact pure_ (l.setIfInBounds i true) ho hN hc.1.1 (by rw [hN]; exact hQ) hy rfl (tree_sound r _ _ _ hc.2 h)
  | .held i N r, l, a, w, hc, h => by
    simp only [checkT, Bool.and_eq_true] at hc
    obtain ⟨o, v, ho, hQ, hy, hS, h⟩ := h
    have hN := dst_of hc.1.2 ho
    exact take_ (l.setIfInBounds i true) ho hN hc.1.1 (by rw [hN]; exact hQ) hy hS rfl (tree_sound r _ _ _ hc.2 h)
  | .one i _ r, l, a, w, hc, h => by
    simp only [checkT, Bool.and_eq_true, beq_iff_eq] at hc
    obtain ⟨h1, h3⟩ := hc
    refine wpAnyLast_all h1 (by simp) fun j hj => ?_
    obtain rfl : j = i := by simpa using hj
    exact wpOp_mono (fun a' w' h' => ⟨fun _ => h'.1, tree_sound r _ _ _ h3 h'.2⟩) h
  | .two i _ s j _ t, l, a, w, hc, h => by
    simp only [checkT, Bool.and_eq_true, beq_iff_eq] at hc
    obtain ⟨⟨⟨h1, h2⟩, h3⟩, h4⟩ := hc
    refine wpAnyLast_all h1 (by simp) fun q hq => ?_
    simp only [List.mem_cons, List.not_mem_nil, or_false] at hq
    rcases hq with rfl | rfl
    · exact wpOp_mono (fun a' w' h' => ⟨fun _ => h'.1, tree_sound s _ _ _ h3 h'.2⟩) h.1
    · exact wpOp_mono (fun a' w' h' => ⟨fun _ => h'.1, by rw [h2]; exact tree_sound t _ _ _ h4 h'.2⟩) h.2
/-- The region by a tree of kinds. -/
theorem region_tree {id : Nat} {a : Act} {w : World} (S : World → Prop) (t : T) (hm : P.follows .mixedOrders = true)
    (hc : (t.size == ops.size && checkT .any ops (Array.replicate ops.size false) t) = true) (h : wpT P ops Q S t a w.drew) : (Code.region id ops true).wp P Q a w := by
  rw [Bool.and_eq_true] at hc
  refine wp_region_last (S := S) (ds := []) hm ?_
  have := tree_sound (P := P) (Q := Q) (S := S) t _ _ _ hc.2 h
  rw [beq_iff_eq.1 hc.1] at this
  exact this
theorem t_fin {a : Act} {w : World} (h : wpList P ops Q [] a w) : wpT P ops Q S .fin a w := h
theorem t_two {i j : Nat} {N M : Option Tmp} {s t : T} {a : Act} {w : World} (h1 : wpT P ops Q S (.one i N s) a w) (h2 : wpT P ops Q S (.one j M t) a w) : wpT P ops Q S (.two i N s j M t) a w := ⟨h1, h2⟩
theorem t_pure {i : Nat} {N : Option Tmp} {r : T} {o : Oper} {v : Value} {a a' : Act} {w : World} (ho : ops[i]? = some o) (hQ : ∀ c a w, Q (.panic c) (a.put N v) w → Q (.panic c) a w)
    (hw : Region.wanted o (yielded ops a.tmps) = true) (hy : ∀ w, (execOp a.eval o).run P w = .ok (.value v) w) (ha : a.put N v = a') (h : wpT P ops Q S r a' w) : wpT P ops Q S (.pure i N r) a w := by
  subst ha; exact ⟨o, v, ho, hQ, .inl ⟨hw, hy⟩, h⟩
theorem t_held {i : Nat} {N : Option Tmp} {r : T} {o : Oper} {v : Value} {a a' : Act} {w : World} (hS : S w) (ho : ops[i]? = some o) (hQ : ∀ c a w, Q (.panic c) (a.put N v) w → Q (.panic c) a w)
    (hw : Region.wanted o (yielded ops a.tmps) = true) (hy : ∀ w, S w → (execOp a.eval o).run P w = .ok (.value v) w) (ha : a.put N v = a') (h : wpT P ops Q S r a' w) : wpT P ops Q S (.held i N r) a w := by
  subst ha; exact ⟨o, v, ho, hQ, .inl ⟨hw, hy⟩, hS, h⟩
theorem t_one {i : Nat} {N : Option Tmp} {r : T} {o : Oper} {a : Act} {w : World} (ho : ops[i]? = some o) (hw : Region.wanted o (yielded ops a.tmps) = true)
    (h : ∀ K : Act → World → Prop, Shut (∀ a' w', S w' → wpT P ops Q S r a' w' → K a' w') → o.wp P a w K Q) : wpT P ops Q S (.one i N r) a w := by
  unfold wpT wpOp
  simp only [ho, hw, if_true]
  exact .inl (h _ (fun a' w' hS hk => ⟨fun _ => hS, hk⟩))
theorem t_new {i : Nat} {N : Option Tmp} {r : T} {o : Oper} {v : Value} {a a' : Act} {w w1 : World} (ho : ops[i]? = some o) (hN : o.dst = N) (hw : Region.wanted o (yielded ops a.tmps) = true)
    (hrun : (execOp a.eval o).run P w = .ok (.value v) w1) (ha : a.put N v = a') (hS : S w1) (h : wpT P ops Q S r a' w1) : wpT P ops Q S (.one i N r) a w := by
  subst ha
  subst hN
  refine t_one ho hw fun K hK => ?_
  unfold Oper.wp
  rw [hrun]
  exact hK _ _ hS h
theorem t_oneL {i : Nat} {N : Option Tmp} {r : T} {o : Oper} {a : Act} {w : World} (ho : ops[i]? = some o)
    (h : ∀ K : Act → World → Prop, Shut (∀ a' w', S w' → wpT P ops Q S r a' w' → K a' w') → wpList P ops (Exit.then K Q) [o] a w) (hw : Region.wanted o (yielded ops a.tmps) = true) : wpT P ops Q S (.one i N r) a w := by
  unfold wpT wpOp
  simp only [ho, hw, if_true]
  have hK : Shut (∀ a' w', S w' → wpT P ops Q S r a' w' → (fun a' w' => (S w → S w') ∧ wpT P ops Q S r a' w') a' w') := fun a' w' hS hk => ⟨fun _ => hS, hk⟩
  have h1 := h _ hK
  unfold wpList at h1
  simp only [hw, if_true] at h1
  exact h1
end
end Go.Proofs.Ytkepmbkghmkodaa.Seq
