/- A region that draws its order, walked in one order of the prover's choice: what may be taken first is told in a list of kinds, checked by one closed fact; the tail is an ordinary row of operations. -/
import Derived.Test.YtbgodajbdbgdfaaDoorWLast
import Derived.Test.YtbgodajbdbgdfaaDoorWTab
import Derived.WalkKit
import Derived.KernelRfl
namespace Go.Proofs.YtbgodajbdbgdfaaDoor.Seq
open Go Go.RowKit Go.Proofs.YtbgodajbdbgdfaaDoorW.PrintLast

/-- pure: yields whatever the world; held: yields in every world that meets S; one: alone ready, S is shown behind it; last: alone ready, nothing is shown behind it. -/
inductive K where
  | pure | held | one | last

section
variable {P : Program} {ops : Array Oper} {Q : Exit → Act → World → Prop} {md : Region.Mode} {S : World → Prop} {ds : List Nat}

/-- i: the operation's number; N: its destination. -/
def wpSeq (P : Program) (ops : Array Oper) (Q : Exit → Act → World → Prop) (S : World → Prop) : List (Nat × Option Tmp × K) → Act → World → Prop
  | [], a, w => Q .normal a w
  | (i, N, .pure) :: r, a, w => ∃ o v, ops[i]? = some o ∧ (∀ c a w, Q (.panic c) (a.put N v) w → Q (.panic c) a w) ∧ Yields P ops o v a ∧ wpSeq P ops Q S r (a.put N v) w
  | (i, N, .held) :: r, a, w => ∃ o v, ops[i]? = some o ∧ (∀ c a w, Q (.panic c) (a.put N v) w → Q (.panic c) a w) ∧ YieldsIf P ops S o v a ∧ S w ∧ wpSeq P ops Q S r (a.put N v) w
  | (i, _, .one) :: r, a, w => wpOp P ops Q i (fun a' w' => (S w → S w') ∧ wpSeq P ops Q S r a' w') a w
  | (i, _, .last) :: r, a, w => wpOp P ops Q i (fun a' w' => wpSeq P ops Q S r a' w') a w

def dstB (ops : Array Oper) (i : Nat) (N : Option Tmp) : Bool := match ops[i]? with
  | some o => o.dst == N
  | none => false
theorem dst_of {i : Nat} {N : Option Tmp} {o : Oper} (h : dstB ops i N = true) (ho : ops[i]? = some o) : o.dst = N := by
  unfold dstB at h
  rw [ho] at h
  simpa using h
def checkB (md : Region.Mode) (ops : Array Oper) (ds : List Nat) : Array Bool → List (Nat × Option Tmp × K) → Bool
  | l, [] => Region.ready md ops l == []
  | l, (i, N, .pure) :: r => anyB md ops l (l.setIfInBounds i true) i && dstB ops i N && checkB md ops ds (l.setIfInBounds i true) r
  | l, (i, N, .held) :: r => takeB md ops ds l (l.setIfInBounds i true) i && dstB ops i N && checkB md ops ds (l.setIfInBounds i true) r
  | l, (i, N, .one) :: r => Region.ready md ops l == [i] && !ds.contains i && dstB ops i N && checkB md ops ds (l.setIfInBounds i true) r
  | l, (i, N, .last) :: r => Region.ready md ops l == [i] && ds.contains i && dstB ops i N && checkB md ops ds (l.setIfInBounds i true) r

theorem seq_sound : ∀ (ks : List (Nat × Option Tmp × K)) (l : Array Bool) (a : Act) (w : World), checkB md ops ds l ks = true → wpSeq P ops Q S ks a w → wpAnyLast P md ops Q S ds ks.length l a w
  | [], l, a, w, hc, h => wpAnyLast_done (by simpa [checkB] using hc) h 0
  | (i, N, .pure) :: r, l, a, w, hc, h => by
    simp only [checkB, Bool.and_eq_true] at hc
    obtain ⟨o, v, ho, hQ, hy, h⟩ := h
    have hN := dst_of hc.1.2 ho
    exact pure_ (l.setIfInBounds i true) ho hN hc.1.1 (by rw [hN]; exact hQ) hy rfl (seq_sound r _ _ _ hc.2 h)
  | (i, N, .held) :: r, l, a, w, hc, h => by
    simp only [checkB, Bool.and_eq_true] at hc
    obtain ⟨o, v, ho, hQ, hy, hS, h⟩ := h
    have hN := dst_of hc.1.2 ho
    exact take_ (l.setIfInBounds i true) ho hN hc.1.1 (by rw [hN]; exact hQ) hy hS rfl (seq_sound r _ _ _ hc.2 h)
  | (i, N, .one) :: r, l, a, w, hc, h => by
    simp only [checkB, Bool.and_eq_true, beq_iff_eq] at hc
    obtain ⟨⟨⟨h1, h2⟩, _⟩, h3⟩ := hc
    refine wpAnyLast_all h1 (by simp) fun j hj => ?_
    obtain rfl : j = i := by simpa using hj
    exact wpOp_mono (fun a' w' h' => ⟨fun _ => h'.1, seq_sound r _ _ _ h3 h'.2⟩) h
  | (i, N, .last) :: r, l, a, w, hc, h => by
    simp only [checkB, Bool.and_eq_true, beq_iff_eq] at hc
    obtain ⟨⟨⟨h1, h2⟩, _⟩, h3⟩ := hc
    refine wpAnyLast_all h1 (by simp) fun j hj => ?_
    obtain rfl : j = i := by simpa using hj
    exact wpOp_mono (fun a' w' h' => ⟨fun hn => absurd (by simpa using h2) hn, seq_sound r _ _ _ h3 h'⟩) h

/-- The region by a list of kinds. -/
theorem region_seq {id : Nat} {a : Act} {w : World} (S : World → Prop) (ds : List Nat) (ks : List (Nat × Option Tmp × K)) (hm : P.follows .mixedOrders = true)
    (hc : (ks.length == ops.size && checkB .any ops ds (Array.replicate ops.size false) ks) = true) (h : wpSeq P ops Q S ks a w.drew) : (Code.region id ops true).wp P Q a w := by
  rw [Bool.and_eq_true] at hc
  refine wp_region_last (S := S) (ds := ds) hm ?_
  have := seq_sound (P := P) (Q := Q) (S := S) ks _ _ _ hc.2 h
  rw [beq_iff_eq.1 hc.1] at this
  exact this

theorem s_pure {i : Nat} {N : Option Tmp} {r : List (Nat × Option Tmp × K)} {o : Oper} {v : Value} {a a' : Act} {w : World} (ho : ops[i]? = some o) (hQ : ∀ c a w, Q (.panic c) (a.put N v) w → Q (.panic c) a w)
    (hw : Region.wanted o (yielded ops a.tmps) = true) (hy : ∀ w, (execOp a.eval o).run P w = .ok (.value v) w) (ha : a.put N v = a') (h : wpSeq P ops Q S r a' w) : wpSeq P ops Q S ((i, N, .pure) :: r) a w := by
  subst ha; exact ⟨o, v, ho, hQ, .inl ⟨hw, hy⟩, h⟩
theorem s_held {i : Nat} {N : Option Tmp} {r : List (Nat × Option Tmp × K)} {o : Oper} {v : Value} {a a' : Act} {w : World} (hS : S w) (ho : ops[i]? = some o) (hQ : ∀ c a w, Q (.panic c) (a.put N v) w → Q (.panic c) a w)
    (hw : Region.wanted o (yielded ops a.tmps) = true) (hy : ∀ w, S w → (execOp a.eval o).run P w = .ok (.value v) w) (ha : a.put N v = a') (h : wpSeq P ops Q S r a' w) : wpSeq P ops Q S ((i, N, .held) :: r) a w := by
  subst ha; exact ⟨o, v, ho, hQ, .inl ⟨hw, hy⟩, hS, h⟩
/-- The guard is off. -/
theorem s_off {i : Nat} {N : Option Tmp} {r : List (Nat × Option Tmp × K)} {o : Oper} {a a' : Act} {w : World} (ho : ops[i]? = some o) (hQ : ∀ c a w, Q (.panic c) (a.put N undef) w → Q (.panic c) a w)
    (hw : Region.wanted o (yielded ops a.tmps) = false) (ha : a.put N undef = a') (h : wpSeq P ops Q S r a' w) : wpSeq P ops Q S ((i, N, .pure) :: r) a w := by
  subst ha; exact ⟨o, undef, ho, hQ, .inr ⟨hw, rfl⟩, h⟩
theorem s_offHeld {i : Nat} {N : Option Tmp} {r : List (Nat × Option Tmp × K)} {o : Oper} {a a' : Act} {w : World} (hS : S w) (ho : ops[i]? = some o) (hQ : ∀ c a w, Q (.panic c) (a.put N undef) w → Q (.panic c) a w)
    (hw : Region.wanted o (yielded ops a.tmps) = false) (ha : a.put N undef = a') (h : wpSeq P ops Q S r a' w) : wpSeq P ops Q S ((i, N, .held) :: r) a w := by
  subst ha; exact ⟨o, undef, ho, hQ, .inr ⟨hw, rfl⟩, hS, h⟩
theorem s_one {i : Nat} {N : Option Tmp} {r : List (Nat × Option Tmp × K)} {o : Oper} {a : Act} {w : World} (ho : ops[i]? = some o) (hw : Region.wanted o (yielded ops a.tmps) = true)
    (h : ∀ K : Act → World → Prop, Shut (∀ a' w', S w' → wpSeq P ops Q S r a' w' → K a' w') → o.wp P a w K Q) : wpSeq P ops Q S ((i, N, .one) :: r) a w := by
  unfold wpSeq wpOp
  simp only [ho, hw, if_true]
  exact .inl (h _ (fun a' w' hS hk => ⟨fun _ => hS, hk⟩))
theorem s_new {i : Nat} {N : Option Tmp} {r : List (Nat × Option Tmp × K)} {o : Oper} {v : Value} {a a' : Act} {w w1 : World} (ho : ops[i]? = some o) (hN : o.dst = N) (hw : Region.wanted o (yielded ops a.tmps) = true)
    (hrun : (execOp a.eval o).run P w = .ok (.value v) w1) (ha : a.put N v = a') (hS : S w1) (h : wpSeq P ops Q S r a' w1) : wpSeq P ops Q S ((i, N, .one) :: r) a w := by
  subst ha
  subst hN
  refine s_one ho hw fun K hK => ?_
  unfold Oper.wp
  rw [hrun]
  exact hK _ _ hS h
/-- The tail: an ordinary row. -/
def tailB (ops : Array Oper) : Nat → List (Nat × Option Tmp × K) → Bool
  | n, [] => decide (ops.size ≤ n)
  | n, (i, _, .last) :: r => i == n && n < ops.size && tailB ops (n + 1) r
  | _, _ => false
theorem s_tail : ∀ (n : Nat) (r : List (Nat × Option Tmp × K)) {a : Act} {w : World}, tailB ops n r = true → wpList P ops Q (ops.toList.drop n) a w → wpSeq P ops Q S r a w
  | n, [], a, w, ht, h => by
    simp only [tailB, decide_eq_true_eq] at ht
    rw [List.drop_of_length_le (by simpa using ht)] at h
    exact h
  | n, (i, _, .last) :: r, a, w, ht, h => by
    simp only [tailB, Bool.and_eq_true, beq_iff_eq, decide_eq_true_eq] at ht
    obtain ⟨⟨rfl, hlt⟩, ht⟩ := ht
    have ho : ops[i]? = some ops[i] := Array.getElem?_eq_getElem hlt
    have hd : ops.toList.drop i = ops[i] :: ops.toList.drop (i + 1) := by
      rw [List.drop_eq_getElem_cons (by simpa using hlt)]
      simp
    rw [hd] at h
    unfold wpSeq wpOp
    simp only [ho]
    unfold wpList at h
    split
    · rename_i hw
      simp only [hw, if_true] at h
      exact h.imp (Oper.wp_mono fun a w hk => s_tail (i + 1) r ht hk) id
    · rename_i hw
      simp only [hw] at h
      exact s_tail (i + 1) r ht h
  | n, (i, _, .pure) :: r, a, w, ht, h => by simp [tailB] at ht
  | n, (i, _, .held) :: r, a, w, ht, h => by simp [tailB] at ht
  | n, (i, _, .one) :: r, a, w, ht, h => by simp [tailB] at ht
end
end Go.Proofs.YtbgodajbdbgdfaaDoor.Seq
