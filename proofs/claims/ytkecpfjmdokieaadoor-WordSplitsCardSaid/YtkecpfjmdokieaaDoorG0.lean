/- texts of this claim, one behind the other: Seq Base Opens OpenRec Nest P0 WordOps P6 P7 Class Class2 Class3 ClassRef WordOracle -/
import Derived.Test.YtkecpfjmdokieaaDoorWLast
import Derived.Test.YtkecpfjmdokieaaDoorWTab
import Derived.WalkKit
import Derived.KernelRfl
import Derived.Test.YtkecpfjmdokieaaDoorProg
import Derived.Test.YtkecpfjmdokieaaDoorWWords
import Derived.RowKit3
import Derived.Deep.LoopGhost
import Derived.Deep.QuietTactic
import Derived.BigQuiet
import Derived.WideLaws
import Derived.Deep.DeepCutAuto
import Derived.Deep.CutBlock
import Derived.Deep.Slices
import Derived.Deep.Fields
import Derived.ChangeSame
import Derived.SizedLaws
import Derived.Below
import Derived.Deep.Draws
import Derived.Deep.AppendLies
import Derived.Maps.AppendAt
import Derived.OwnWalk
import Derived.Laws.BytesArg
import Derived.Laws.MakeOwn
import Derived.Laws.OwnMore
import Derived.Deep.OwnRows
import Derived.Tactics
import Derived.Lib.ConvBytes
import Derived.Laws.Slices
import Derived.Deep.RegionHeld3
import Derived.Laws.Rows
import Derived.Lib.AppendStr
import Derived.ArgAppend
import Derived.Laws.IdiomCopy
import Derived.OrdersHeld
import Derived.Laws.BitsLemmas
import Derived.RowKit
import Derived.Test.YtkecpfjmdokieaaDoorWFour
import Derived.Test.YtkecpfjmdokieaaDoorWQPut
import Derived.Test.YtkecpfjmdokieaaDoorWApart
import Derived.Test.YtkecpfjmdokieaaDoorWArr
import Derived.Test.YtkecpfjmdokieaaDoorWZeros
import Derived.Test.YtkecpfjmdokieaaDoorWFoot
import Derived.Test.YtkecpfjmdokieaaDoorWKept
import Derived.Test.YtkecpfjmdokieaaDoorWShare
import Derived.Test.YtkecpfjmdokieaaDoorWN
import Derived.Test.YtkecpfjmdokieaaDoorWFootNe
import Derived.Test.YtkecpfjmdokieaaDoorWAt
import Derived.Test.YtkecpfjmdokieaaDoorWEqStruct
import Derived.Test.YtkecpfjmdokieaaDoorWRepsOne
import Derived.Test.YtkecpfjmdokieaaDoorWInv
import Derived.Test.YtkecpfjmdokieaaDoorWInvWords
import Derived.Test.YtkecpfjmdokieaaDoorWGuard
import Derived.Test.YtkecpfjmdokieaaDoorWNEv
import Derived.Test.YtkecpfjmdokieaaDoorWMore
import Derived.Test.YtkecpfjmdokieaaDoorShelf
/- A region that draws its order, walked in one order of the prover's choice: what may be taken first is told in a list of kinds, checked by one closed fact; the tail is an ordinary row of operations. -/
namespace Go.Proofs.YtkecpfjmdokieaaDoor.Seq
open Go Go.RowKit Go.Proofs.YtkecpfjmdokieaaDoorW.PrintLast

/-- pure: yields whatever the world; held: yields in every world that meets S; one: alone ready, S is shown behind it; last: alone ready, nothing is shown behind it. -/
inductive K where
  | pure | held | one | last

section
variable {P : Program} {ops : Array Oper} {Q : Exit → Act → World → Prop} {md : Region.Mode} {S : World → Prop} {ds : List Nat}

/-- i: the operation's number; N: its destination. -/
def wpSeq (P : Program) (ops : Array Oper) (Q : Exit → Act → World → Prop) (S : World → Prop) : List (Nat × Option Tmp × K) → Act → World → Prop
  | [], a, w => Q .normal a w
  | (i, N, .pure) :: r, a, w => ∃ o v, ops[i]? = some o ∧ (∀ c a w, Q (.panic c) (a.put N v) w → Q (.panic c) a w) ∧ Yields P ops o v a ∧ wpSeq P ops Q S r (a.put N v) w
  | (i, N, .held) :: r, a, w => ∃ o v, ops[i]? = some o ∧ (∀ c a w, Q (.panic c) (a.put N v) w → Q (.panic c) a w) ∧ YieldsIf P ops S o v a ∧ S w ∧ wpSeq P ops Q S r (a.put N v) w
  | (i, _, .one) :: r, a, w => wpOp P ops Q i (fun a' w' => (S w → S w') ∧ wpSeq P ops Q S r a' w') a w
  | (i, _, .last) :: r, a, w => wpOp P ops Q i (fun a' w' => wpSeq P ops Q S r a' w') a w

def dstB (ops : Array Oper) (i : Nat) (N : Option Tmp) : Bool := match ops[i]? with
  | some o => o.dst == N
  | none => false
theorem dst_of {i : Nat} {N : Option Tmp} {o : Oper} (h : dstB ops i N = true) (ho : ops[i]? = some o) : o.dst = N := by
  unfold dstB at h
  rw [ho] at h
  simpa using h
def checkB (md : Region.Mode) (ops : Array Oper) (ds : List Nat) : Array Bool → List (Nat × Option Tmp × K) → Bool
  | l, [] => Region.ready md ops l == []
  | l, (i, N, .pure) :: r => anyB md ops l (l.setIfInBounds i true) i && dstB ops i N && checkB md ops ds (l.setIfInBounds i true) r
  | l, (i, N, .held) :: r => takeB md ops ds l (l.setIfInBounds i true) i && dstB ops i N && checkB md ops ds (l.setIfInBounds i true) r
  | l, (i, N, .one) :: r => Region.ready md ops l == [i] && !ds.contains i && dstB ops i N && checkB md ops ds (l.setIfInBounds i true) r
  | l, (i, N, .last) :: r => Region.ready md ops l == [i] && ds.contains i && dstB ops i N && checkB md ops ds (l.setIfInBounds i true) r

theorem seq_sound : ∀ (ks : List (Nat × Option Tmp × K)) (l : Array Bool) (a : Act) (w : World), checkB md ops ds l ks = true → wpSeq P ops Q S ks a w → wpAnyLast P md ops Q S ds ks.length l a w
  | [], l, a, w, hc, h => wpAnyLast_done (by simpa [checkB] using hc) h 0
  | (i, N, .pure) :: r, l, a, w, hc, h => by
    simp only [checkB, Bool.and_eq_true] at hc
    obtain ⟨o, v, ho, hQ, hy, h⟩ := h
    have hN := dst_of hc.1.2 ho
    exact pure_ (l.setIfInBounds i true) ho hN hc.1.1 (by rw [hN]; exact hQ) hy rfl (seq_sound r _ _ _ hc.2 h)
  | (i, N, .held) :: r, l, a, w, hc, h => by
    simp only [checkB, Bool.and_eq_true] at hc
    obtain ⟨o, v, ho, hQ, hy, hS, h⟩ := h
    have hN := dst_of hc.1.2 ho
    exact take_ (l.setIfInBounds i true) ho hN hc.1.1 (by rw [hN]; exact hQ) hy hS rfl (seq_sound r _ _ _ hc.2 h)
  | (i, N, .one) :: r, l, a, w, hc, h => by
    simp only [checkB, Bool.and_eq_true, beq_iff_eq] at hc
    obtain ⟨⟨⟨h1, h2⟩, _⟩, h3⟩ := hc
    refine wpAnyLast_all h1 (by simp) fun j hj => ?_
    obtain rfl : j = i := by simpa using hj
    exact wpOp_mono (fun a' w' h' => ⟨fun _ => h'.1, seq_sound r _ _ _ h3 h'.2⟩) h
  | (i, N, .last) :: r, l, a, w, hc, h => by
    simp only [checkB, Bool.and_eq_true, beq_iff_eq] at hc
    obtain ⟨⟨⟨h1, h2⟩, _⟩, h3⟩ := hc
    refine wpAnyLast_all h1 (by simp) fun j hj => ?_
    obtain rfl : j = i := by simpa using hj
    exact wpOp_mono (fun a' w' h' => ⟨fun hn => absurd (by simpa using h2) hn, seq_sound r _ _ _ h3 h'⟩) h

/-- The region by a list of kinds. -/
theorem region_seq {id : Nat} {a : Act} {w : World} (S : World → Prop) (ds : List Nat) (ks : List (Nat × Option Tmp × K)) (hm : P.follows .mixedOrders = true)
    (hc : (ks.length == ops.size && checkB .any ops ds (Array.replicate ops.size false) ks) = true) (h : wpSeq P ops Q S ks a w.drew) : (Code.region id ops true).wp P Q a w := by
  rw [Bool.and_eq_true] at hc
  refine wp_region_last (S := S) (ds := ds) hm ?_
  have := seq_sound (P := P) (Q := Q) (S := S) ks _ _ _ hc.2 h
  rw [beq_iff_eq.1 hc.1] at this
  exact this

theorem s_pure {i : Nat} {N : Option Tmp} {r : List (Nat × Option Tmp × K)} {o : Oper} {v : Value} {a a' : Act} {w : World} (ho : ops[i]? = some o) (hQ : ∀ c a w, Q (.panic c) (a.put N v) w → Q (.panic c) a w)
    (hw : Region.wanted o (yielded ops a.tmps) = true) (hy : ∀ w, (execOp a.eval o).run P w = .ok (.value v) w) (ha : a.put N v = a') (h : wpSeq P ops Q S r a' w) : wpSeq P ops Q S ((i, N, .pure) :: r) a w := by
  subst ha; exact ⟨o, v, ho, hQ, .inl ⟨hw, hy⟩, h⟩
theorem s_held {i : Nat} {N : Option Tmp} {r : List (Nat × Option Tmp × K)} {o : Oper} {v : Value} {a a' : Act} {w : World} (hS : S w) (ho : ops[i]? = some o) (hQ : ∀ c a w, Q (.panic c) (a.put N v) w → Q (.panic c) a w)
    (hw : Region.wanted o (yielded ops a.tmps) = true) (hy : ∀ w, S w → (execOp a.eval o).run P w = .ok (.value v) w) (ha : a.put N v = a') (h : wpSeq P ops Q S r a' w) : wpSeq P ops Q S ((i, N, .held) :: r) a w := by
  subst ha; exact ⟨o, v, ho, hQ, .inl ⟨hw, hy⟩, hS, h⟩
/-- The guard is off. -/
theorem s_off {i : Nat} {N : Option Tmp} {r : List (Nat × Option Tmp × K)} {o : Oper} {a a' : Act} {w : World} (ho : ops[i]? = some o) (hQ : ∀ c a w, Q (.panic c) (a.put N undef) w → Q (.panic c) a w)
    (hw : Region.wanted o (yielded ops a.tmps) = false) (ha : a.put N undef = a') (h : wpSeq P ops Q S r a' w) : wpSeq P ops Q S ((i, N, .pure) :: r) a w := by
  subst ha; exact ⟨o, undef, ho, hQ, .inr ⟨hw, rfl⟩, h⟩
theorem s_offHeld {i : Nat} {N : Option Tmp} {r : List (Nat × Option Tmp × K)} {o : Oper} {a a' : Act} {w : World} (hS : S w) (ho : ops[i]? = some o) (hQ : ∀ c a w, Q (.panic c) (a.put N undef) w → Q (.panic c) a w)
    (hw : Region.wanted o (yielded ops a.tmps) = false) (ha : a.put N undef = a') (h : wpSeq P ops Q S r a' w) : wpSeq P ops Q S ((i, N, .held) :: r) a w := by
  subst ha; exact ⟨o, undef, ho, hQ, .inr ⟨hw, rfl⟩, hS, h⟩
theorem s_one {i : Nat} {N : Option Tmp} {r : List (Nat × Option Tmp × K)} {o : Oper} {a : Act} {w : World} (ho : ops[i]? = some o) (hw : Region.wanted o (yielded ops a.tmps) = true)
    (h : ∀ K : Act → World → Prop, Shut (∀ a' w', S w' → wpSeq P ops Q S r a' w' → K a' w') → o.wp P a w K Q) : wpSeq P ops Q S ((i, N, .one) :: r) a w := by
  unfold wpSeq wpOp
  simp only [ho, hw, if_true]
  exact .inl (h _ (fun a' w' hS hk => ⟨fun _ => hS, hk⟩))
theorem s_new {i : Nat} {N : Option Tmp} {r : List (Nat × Option Tmp × K)} {o : Oper} {v : Value} {a a' : Act} {w w1 : World} (ho : ops[i]? = some o) (hN : o.dst = N) (hw : Region.wanted o (yielded ops a.tmps) = true)
    (hrun : (execOp a.eval o).run P w = .ok (.value v) w1) (ha : a.put N v = a') (hS : S w1) (h : wpSeq P ops Q S r a' w1) : wpSeq P ops Q S ((i, N, .one) :: r) a w := by
  subst ha
  subst hN
  refine s_one ho hw fun K hK => ?_
  unfold Oper.wp
  rw [hrun]
  exact hK _ _ hS h
/-- The tail: an ordinary row. -/
def tailB (ops : Array Oper) : Nat → List (Nat × Option Tmp × K) → Bool
  | n, [] => decide (ops.size ≤ n)
  | n, (i, _, .last) :: r => i == n && n < ops.size && tailB ops (n + 1) r
  | _, _ => false
theorem s_tail : ∀ (n : Nat) (r : List (Nat × Option Tmp × K)) {a : Act} {w : World}, tailB ops n r = true → wpList P ops Q (ops.toList.drop n) a w → wpSeq P ops Q S r a w
  | n, [], a, w, ht, h => by
    simp only [tailB, decide_eq_true_eq] at ht
    rw [List.drop_of_length_le (by simpa using ht)] at h
    exact h
  | n, (i, _, .last) :: r, a, w, ht, h => by
    simp only [tailB, Bool.and_eq_true, beq_iff_eq, decide_eq_true_eq] at ht
    obtain ⟨⟨rfl, hlt⟩, ht⟩ := ht
    have ho : ops[i]? = some ops[i] := Array.getElem?_eq_getElem hlt
    have hd : ops.toList.drop i = ops[i] :: ops.toList.drop (i + 1) := by
      rw [List.drop_eq_getElem_cons (by simpa using hlt)]
      simp
    rw [hd] at h
    unfold wpSeq wpOp
    simp only [ho]
    unfold wpList at h
    split
    · rename_i hw
      simp only [hw, if_true] at h
      exact h.imp (Oper.wp_mono fun a w hk => s_tail (i + 1) r ht hk) id
    · rename_i hw
      simp only [hw] at h
      exact s_tail (i + 1) r ht h
  | n, (i, _, .pure) :: r, a, w, ht, h => by simp [tailB] at ht
  | n, (i, _, .held) :: r, a, w, ht, h => by simp [tailB] at ht
  | n, (i, _, .one) :: r, a, w, ht, h => by simp [tailB] at ht
end
end Go.Proofs.YtkecpfjmdokieaaDoor.Seq
/- small laws on rows and worlds. -/
namespace Go.Proofs.YtkecpfjmdokieaaDoor.Base
open Go.RowKit Go.Proofs.YtkecpfjmdokieaaDoorW.PrintWords Go.Proofs.YtkecpfjmdokieaaDoorW.PrintLast
set_option linter.unusedVariables false
abbrev ok0 : Nat → Prop := fun _ => True
theorem R_slice3 {α : Type} {d : Kd α} {e : Nat} {w : World} {base : Nat} {ok : Nat → Prop} {v : Value} {xs : List α} (h : d.R e w base ok v xs) : ∃ A n c, v = .slice A n c := by
  obtain ⟨A, c, h⟩ := Kd.R_slice h
  exact ⟨A, _, c, h⟩

theorem R_C {α : Type} {d : Kd α} {e : Nat} {w : World} {base : Nat} {ok : Nat → Prop} {A : Option Addr} {n c : Nat} {xs : List α} (h : d.R e w base ok (.slice A n c) xs) : d.C w A n xs := by
  obtain ⟨rfl, _, h⟩ := Kd.R_reads' h
  exact h
theorem str_ne_empty {s : ByteArray} (h : s.size ≠ 0) : s.toList ≠ [] ∧ (s.toList == []) = false ∧ s.toList.isEmpty = false := by
  have h1 : s.toList.length ≠ 0 := by
    rw [ByteArray.toList_eq, data_length]
    exact h
  cases hl : s.toList with
  | nil => rw [hl] at h1; exact absurd rfl h1
  | cons c l => exact ⟨by simp, rfl, rfl⟩
theorem str_app (l : List UInt8) (s : ByteArray) : (⟨l.toArray⟩ : ByteArray) ++ s = ⟨(l ++ s.data.toList).toArray⟩ := by
  apply ByteArray.ext
  rw [ByteArray.data_append]
  simp
theorem below_trans {B : Nat} {w w1 w2 : World} (h : Below B w w1) (k : Below B w1 w2) : Below B w w2 := h.trans k
theorem below_sub {B B' : Nat} {w w1 : World} (h : Below B w w1) (hB : B' ≤ B) : Below B' w w1 := ⟨h.os, h.tape, h.output, h.size, fun i hi => h.block i (Nat.lt_of_lt_of_le hi hB)⟩
theorem bt_nat (s : ByteArray) (k : Nat) : ∀ h : k < s.size, ((s[k]'h).toNat : Int) = bt s k := fun h => by simp [bt, h]
section
variable {P : Program} {ops : Array Oper} {rest : List Oper} {o : Oper} {a : Act} {Q : Exit → Act → World → Prop}
/-- append(bytes, text...): 'hd' picks the operation. -/
theorem R_append_str {w0 W : World} (base : Nat) {N : Tmp} (_hd : o.dst = some N) (hgd : o.guard = none) (s x : Operand) (t u e : TypeId)
    (ho : o.op = .call { callee := .builtin .append, args := #[s, x], argTypes := #[t, u] })
    (ht : P.underlying t = some (.slice e)) (hu : P.underlying u = some .string) (hinfo : (P.info? e).map (fun i => (i.zero, i.size, i.bytes)) = some (some (.int .u8 0), 1, 1))
    (v : Value) (xs : List Int) (y : ByteArray) (hs : a.eval s = v) (hx : a.eval x = .string y)
    (HO : (Kd.int .u8).R e W base ok0 v xs) (HB : Below base w0 W) (hbase : base ≤ W.heap.size) (hl : xs.length + y.size ≤ 140737488355328)
    (h : ∀ v1 w1, (Kd.int .u8).R e w1 base ok0 v1 (xs ++ bytesOf y) → Below base w0 w1 → W.grownBy w1 v.ownBlock → wpList P ops Q rest (a.put o.dst v1) w1) :
    wpList P ops Q (o :: rest) a W := by
  refine print_append_str base hgd s x t u e ho ht hu hinfo v xs y hs hx (Kd.own_of_R (enc := Value.int .u8) (h1 := fun _ => rfl) HO) HB hbase hl ?_
  intro v1 w1 hown hB hG
  exact h v1 w1 (Kd.R_of_own (enc := Value.int .u8) (h1 := fun _ => rfl) hown (fun _ _ => trivial)) hB hG
end
theorem below_at {w W : World} (h : Below w.heap.size w W) {i : Nat} (hi : i < w.heap.size) : W.heap[i]? = w.heap[i]? := h.block i hi
/-- api.Piece -/
structure Piece where
  text : ByteArray
  quoted : Bool
  cut : Bool
instance : Inhabited Piece := ⟨⟨⟨#[]⟩, false, false⟩⟩
def kPiece : Kd Piece := Kd.iso (Kd.pair Kd.string (Kd.pair Kd.bool Kd.bool)) (fun x : Piece => (x.text, x.quoted, x.cut))
theorem kPiece_open {w : World} {x : Piece} {cs : List Value} (h : kPiece.K w x cs) : cs = [.string x.text, .bool x.quoted, .bool x.cut] := by
  obtain ⟨_, _, rfl, rfl, ⟨_, _, rfl, rfl, rfl⟩⟩ := h
  exact rfl
theorem kPiece_mk (w : World) (x : Piece) : kPiece.K w x [.string x.text, .bool x.quoted, .bool x.cut] := ⟨[.string x.text], [.bool x.quoted, .bool x.cut], rfl, rfl, ⟨[.bool x.quoted], [.bool x.cut], rfl, rfl, rfl⟩⟩
theorem kPiece_mkM (w : World) (base : Nat) (ok : Nat → Prop) (x : Piece) : kPiece.M w base ok x [.string x.text, .bool x.quoted, .bool x.cut] := ⟨[.string x.text], [.bool x.quoted, .bool x.cut], rfl, rfl, ⟨[.bool x.quoted], [.bool x.cut], rfl, rfl, rfl⟩⟩
/-- An element of a row that is read, at a Nat. -/
theorem at_piece {w : World} {A : Option Addr} {n : Nat} {xs : List Piece} (h : Kd.C kPiece w A n xs) (i : Nat) (hi : i < xs.length) : ∃ ad, A = some ad ∧ w.cell? (ad.add (i * 3)) = some (.string xs[i].text) ∧ w.cell? ⟨(ad.add (i * 3)).block, (ad.add (i * 3)).off + 1, none⟩ = some (.bool xs[i].quoted) ∧ w.cell? ⟨(ad.add (i * 3)).block, (ad.add (i * 3)).off + 2, none⟩ = some (.bool xs[i].cut) := by
  obtain ⟨ad, c, e, _, hK, hc0⟩ := Kd.C_get h default (i : Int) (by omega) (by have := h.1; omega)
  rw [Int.toNat_natCast] at hK hc0
  have hc : ∀ j u, c[j]? = some u → w.cell? (ad.add (i * 3 + j)) = some u := hc0
  have hd : xs.getD i default = xs[i] := by simp [List.getD_eq_getElem?_getD, List.getElem?_eq_getElem hi]
  rw [hd] at hK
  obtain rfl := kPiece_open hK
  exact ⟨ad, e, hc 0 _ rfl, by rw [← add_field _ _ 1 (by omega)]; exact hc 1 _ rfl, by rw [← add_field _ _ 2 (by omega)]; exact hc 2 _ rfl⟩
theorem C_one {α : Type} {d : Kd α} {w : World} {g t : Nat} {cs : Array Value} {p : α} (hg : w.heap[g]? = some (.cells cs t (0, 0))) (hK : d.K w p cs.toList) : d.C w (some ⟨g, 0, none⟩) 1 [p] := by
  refine ⟨rfl, by omega, fun _ => ⟨_, rfl, fun j q hj => ?_⟩⟩
  have hj0 : j = 0 := by
    have := (List.getElem?_eq_some_iff.1 hj).1
    simp at this
    exact this
  subst hj0
  have hq : p = q := by simpa using hj
  subst hq
  refine ⟨cs.toList, d.K_len hK, hK, fun i u hu => ?_⟩
  rw [Nat.zero_mul, Nat.zero_add, add_plain, blk_cell hg]
  simpa using hu
theorem at_str {w : World} {A : Option Addr} {n : Nat} {xs : List ByteArray} (h : Kd.string.C w A n xs) (i : Nat) (hi : i < xs.length) : ∃ ad, A = some ad ∧ w.cell? (ad.add i) = some (.string xs[i]) := by
  obtain ⟨ad, e, hc⟩ := Kd.at_string h (i : Int) (by omega) (by have := h.1; omega)
  refine ⟨ad, e, ?_⟩
  rw [Int.toNat_natCast] at hc
  rw [hc]
  simp [rdOf, List.getD_eq_getElem?_getD, List.getElem?_eq_getElem hi]
/-- Elements without rows of their own: read is made. -/
def Flat {α : Type} (d : Kd α) : Prop := ∀ w W base ok x cs, d.K w x cs → d.M W base ok x cs
theorem flat_piece : Flat kPiece := fun w W base ok x cs h => by
  obtain rfl := kPiece_open h
  exact kPiece_mkM _ _ _ _
theorem flat_string : Flat Kd.string := fun _ _ _ _ _ _ h => h
theorem flat_int (k : IntKind) : Flat (Kd.int k) := fun _ _ _ _ _ _ h => h
theorem flat_bool : Flat Kd.bool := fun _ _ _ _ _ _ h => h
theorem R_empty {α : Type} {d : Kd α} {w : World} {base g e : Nat} (hg : w.heap[g]? = some (.cells #[] e (0, 0))) (hb : base ≤ g) : d.R e w base ok0 (.slice (some ⟨g, 0, none⟩) 0 0) [] :=
  ⟨fun _ _ => trivial, [], ⟨by simp, .inr ⟨g, 0, #[], rfl, hb, hg, Nat.le_refl _, by simp, by simp, by simp⟩⟩, Reps.none _ _⟩
section
variable {P : Program} {ops : Array Oper} {rest : List Oper} {o : Oper} {a : Act} {Q : Exit → Act → World → Prop}
/-- append(xs, ys...) of flat elements. -/
theorem R_app {α : Type} (d : Kd α) (hflat : Flat d) {w0 W : World} (base : Nat) {N : Tmp} (_hd : o.dst = some N) (hgd : o.guard = none) (s x : Operand) (t e : TypeId) (z : Value) (bytes : Nat)
    (ho : o.op = .call { callee := .builtin .append, args := #[s, x], argTypes := #[t, t] })
    (ht : P.underlying t = some (.slice e)) (hinfo : (P.info? e).map (fun i => (i.zero, i.size, i.bytes)) = some (some z, d.sz, bytes)) (hz : z.cells.size = d.sz) (hs0 : 0 < d.sz) (hb0 : 0 < bytes)
    (v : Value) (xs ys : List α) (A : Option Addr) (m c : Nat) (hs : a.eval s = v) (hx : a.eval x = .slice A m c)
    (HO : d.R e W base ok0 v xs) (HR : d.C W A m ys) (HB : Below base w0 W) (hbase : base ≤ W.heap.size) (hl : (xs.length + m) * bytes ≤ 140737488355328)
    (h : ∀ v1 w1, d.R e w1 base ok0 v1 (xs ++ ys) → Below base w0 w1 → W.grownBy w1 v.ownBlock → wpList P ops Q rest (a.put o.dst v1) w1) :
    wpList P ops Q (o :: rest) a W :=
  Kd.R_append_rows d base hgd s x t e z bytes ho ht hinfo hz hs0 hb0 v xs ys A m c ok0 (fun _ => False) hs hx HO HR (fun x cs hk => hflat W W base _ x cs hk) (fun _ h => h.elim) (fun _ _ => trivial) HB hbase hl (fun v1 w1 hR hB hG _ => h v1 w1 hR hB hG)
end
end Go.Proofs.YtkecpfjmdokieaaDoor.Base
/- What comes in, read kind by kind. -/
namespace Go.Proofs.YtkecpfjmdokieaaDoor.Open
open Go.RowKit Go.ChangeShapes Go.WideShapes Go.Deep Go.Proofs.YtkecpfjmdokieaaDoorW.PrintWords
set_option linter.unusedVariables false
/-- Whatever reads as data of type t is a value of the kind d, and V holds of it. -/
def Op {α : Type} (P : Program) (w : World) (d : Kd α) (t : TypeId) (V : α → Prop) : Prop :=
  ∀ (H : Type) (enc : TypeId × Value → H) (base : Nat) (spare : Nat → Bool) (held : Bool) (fuel : Nat) (cs : List Value) (x : DataW H × List MemPlace), DataW.trod enc P w base spare held fuel t cs = some x → (∀ n ∈ x.1.weights P t, n ≤ reachBytes) → ∃ v, d.K w v cs ∧ V v
section
variable {P : Program} {w : World}
theorem op_int {t : TypeId} {k : IntKind} (ht : P.underlying t = some (.int k)) : Op P w (Kd.int k) t (fun n => (Lit.int k n).wf = true) := by
  intro H enc base spare held fuel cs x h _
  obtain ⟨n, rfl, _, hw⟩ := DataW.trod_int ht h
  exact ⟨n, rfl, hw⟩
theorem op_bool {t : TypeId} (ht : P.underlying t = some .bool) : Op P w Kd.bool t (fun _ => True) := by
  intro H enc base spare held fuel cs x h _
  obtain ⟨b, rfl, _⟩ := DataW.trod_bool ht h
  exact ⟨b, rfl, trivial⟩
theorem op_string {t : TypeId} (ht : P.underlying t = some .string) : Op P w Kd.string t (fun s => s.size ≤ reachBytes) := by
  intro H enc base spare held fuel cs x h hz
  obtain ⟨s, rfl, rfl, hs⟩ := DataW.trod_string ht h
  exact ⟨s, rfl, by have := hz _ (List.mem_singleton.2 rfl); rwa [data_length] at this⟩
theorem op_mono {α : Type} {d : Kd α} {t : TypeId} {V V' : α → Prop} (h : Op P w d t V) (hV : ∀ x, V x → V' x) : Op P w d t V' := fun H enc base spare held fuel cs x hx hz =>
  let ⟨v, hv, hh⟩ := h H enc base spare held fuel cs x hx hz; ⟨v, hv, hV v hh⟩
theorem weightsAll_mem {H : Type} {P : Program} {e : TypeId} : ∀ {l : List (DataW H)} {d : DataW H}, d ∈ l → ∀ n ∈ d.weights P e, n ∈ DataW.weightsAll P e l
  | _ :: _, _, List.Mem.head _, n, hn => by simp only [DataW.weightsAll, List.mem_append]; exact .inl hn
  | _ :: r, d, List.Mem.tail _ h, n, hn => by simp only [DataW.weightsAll, List.mem_append]; exact .inr (weightsAll_mem h n hn)
theorem op_slice {α : Type} {d : Kd α} {t e : TypeId} {V : α → Prop} (ht : P.underlying t = some (.slice e)) (hsz : P.cellsOf e = d.sz) (h : Op P w d e V) : Op P w (Kd.slice e d) t (fun l => l.length * P.bytesOf e ≤ reachBytes ∧ ∀ x ∈ l, V x) := by
  intro H enc base spare held fuel cs x hx hz
  rcases open_slice ht hx with ⟨rfl, _⟩ | ⟨a, len, cap, m, n, D, Pl, rfl, hb, hl, hm, hmm, rfl, hi⟩
  · exact ⟨[], ⟨none, 0, rfl, Nat.le_refl _, Kd.C_nil _ _⟩, by simp, by simp⟩
  · simp only [DataW.weights, ht] at hz
    have hz1 := hz _ (List.mem_cons_self)
    have hz2 : ∀ i, i < len → ∀ n ∈ (D i).weights P e, n ≤ reachBytes := fun i hi n hn => hz n (List.mem_cons_of_mem _ (List.mem_append_left _ (weightsAll_mem (List.mem_map.2 ⟨i, List.mem_range.2 hi, rfl⟩) n hn)))
    simp only [List.length_map, List.length_range] at hz1
    have hlm : len ≤ m := by rw [hmm]; split <;> omega
    have key : ∀ k, k ≤ len → ∃ l : List α, l.length = k ∧ ∀ i p, l[i]? = some p → V p ∧ ∃ c : List Value, c.length = d.sz ∧ d.K w p c ∧ ∀ j u, c[j]? = some u → w.cell? (a.add (i * d.sz + j)) = some u := by
      intro k
      induction k with
      | zero => exact fun _ => ⟨[], rfl, by simp⟩
      | succ k ih =>
        intro hk
        obtain ⟨l, hlen, hh⟩ := ih (by omega)
        obtain ⟨cs', hc, ht'⟩ := hi k (by omega)
        obtain ⟨v, hK, hV⟩ := h H enc base spare held n cs' _ ht' (hz2 k (by omega))
        obtain ⟨_, hcl, hat⟩ := World.cells?_some hc
        refine ⟨l ++ [v], by simp [hlen], fun i p hp => ?_⟩
        rcases Nat.lt_or_ge i l.length with hil | hil
        · rw [List.getElem?_append_left hil] at hp
          exact hh i p hp
        · obtain rfl : i = l.length := by
            have := (List.getElem?_eq_some_iff.1 hp).1
            rw [List.length_append, List.length_singleton] at this
            omega
          have hp' : v = p := by simpa using hp
          subst hp'
          refine ⟨hV, cs', d.K_len hK, hK, fun j u hu => ?_⟩
          have hj : j < cs'.length := (List.getElem?_eq_some_iff.1 hu).1
          have := hat j (by omega)
          rw [← Go.Deep.add_add, hlen, ← hsz, this, hu]
    obtain ⟨l, hll, hh⟩ := key len (Nat.le_refl _)
    have hml : len ≤ maxLen := Nat.le_trans hl hm
    refine ⟨l, ⟨some a, cap, by rw [hll], by omega, rfl, by unfold maxLen at hml; omega, fun _ => ⟨a, rfl, fun j p hp => ?_⟩⟩, ?_, fun p hp => ?_⟩
    · obtain ⟨_, c, h1, h2, h3⟩ := hh j p hp
      exact ⟨c, h1, h2, h3⟩
    · rw [hll]
      exact Nat.le_trans (Nat.mul_le_mul_right _ (by omega)) hz1
    · obtain ⟨i, hi', rfl⟩ := List.getElem_of_mem hp
      exact (hh i _ (List.getElem?_eq_getElem hi')).1
/-- The fields from one on. -/
def OpF {α : Type} (P : Program) (w : World) (d : Kd α) (fs : List Field) (o : Nat) (V : α → Prop) : Prop :=
  ∀ (H : Type) (enc : TypeId × Value → H) (base : Nat) (spare : Nat → Bool) (held : Bool) (n : Nat) (cs : List Value), cs.length = o + d.sz →
    (∀ f, f ∈ fs → ∃ y, DataW.trod enc P w base spare held n f.type ((cs.drop f.offset).take (P.cellsOf f.type)) = some y ∧ ∀ n ∈ y.1.weights P f.type, n ≤ reachBytes) → ∃ v, d.K w v (cs.drop o) ∧ V v
theorem opf_one {α : Type} {d : Kd α} {f : Field} {o : Nat} {V : α → Prop} (hfo : f.offset = o) (h : Op P w d f.type V) (hsz : P.cellsOf f.type = d.sz) : OpF P w d [f] o V := by
  subst hfo
  intro H enc base spare held n cs hl hf
  obtain ⟨y, hy, hz⟩ := hf f (by simp)
  rw [List.take_of_length_le (by rw [List.length_drop]; omega)] at hy
  exact h H enc base spare held n _ y hy hz
theorem opf_cons {α β : Type} {d : Kd α} {d' : Kd β} {f : Field} {fs : List Field} {o o' : Nat} {V : α → Prop} {V' : β → Prop} (hfo : f.offset = o) (h : Op P w d f.type V) (hsz : P.cellsOf f.type = d.sz) (ho : o' = o + d.sz) (hr : OpF P w d' fs o' V') : OpF P w (Kd.pair d d') (f :: fs) o (fun x => V x.1 ∧ V' x.2) := by
  subst hfo
  intro H enc base spare held n cs hl hf
  have hl' : cs.length = f.offset + (d.sz + d'.sz) := hl
  obtain ⟨y, hy, hz⟩ := hf f (by simp)
  obtain ⟨v, hK, hV⟩ := h H enc base spare held n _ y hy hz
  obtain ⟨v', hK', hV'⟩ := hr H enc base spare held n cs (by omega) (fun g hg => hf g (by simp [hg]))
  refine ⟨(v, v'), ⟨_, _, ?_, hK, hK'⟩, hV, hV'⟩
  rw [hsz, ho, ← List.drop_drop, List.take_append_drop]
theorem op_struct {α β : Type} {d : Kd α} {t : TypeId} {fs : Array Field} {V : α → Prop} {V' : β → Prop} (g : β → α) (gi : α → β) (hg : ∀ x, g (gi x) = x) (ht : P.underlying t = some (.struct fs)) (hsz : P.cellsOf t = d.sz) (h : OpF P w d fs.toList 0 V) (hV : ∀ x, V (g x) → V' x) : Op P w (Kd.iso d g) t V' := by
  intro H enc base spare held fuel cs x hx hz
  obtain ⟨xs, n, _, rfl, hl, hxl, hf⟩ := DataW.trod_struct ht hx
  simp only [DataW.weights, ht] at hz
  obtain ⟨v, hK, hv⟩ := h H enc base spare held n cs (by omega) (fun f hm => by
    obtain ⟨i, hi, rfl⟩ := List.getElem_of_mem hm
    have hi' : i < fs.size := by simpa using hi
    have := hf i fs[i] (Array.getElem?_eq_getElem hi')
    refine ⟨xs[i]'(by omega), ?_, fun m hm => hz m (DataW.weights_mem_each (j := i) (t := fs[i].type) (d := (xs[i]'(by omega)).1) (by simp [hi']) (by simp [List.getElem?_eq_getElem (show i < xs.length by omega)]) m (by simpa using hm))⟩
    rw [List.getElem?_eq_getElem (by omega)] at this
    simpa using this)
  exact ⟨gi v, by rw [show (Kd.iso d g).K = fun w x cs => d.K w (g x) cs from rfl]; simp only; rw [hg]; simpa using hK, hV _ (by rw [hg]; exact hv)⟩
theorem open_sl {H : Type} {enc : TypeId × Value → H} {base : Nat} {spare : Nat → Bool} {held : Bool} {α : Type} {d : Kd α} {t e : TypeId} {V : List α → Prop} (hop : Op P w (Kd.slice e d) t V) {a : Option Addr} {len cap : Nat} {dd : DataW H} {ps : List MemPlace}
    (h : DataW.Trod enc P w base spare held t (.slice a len cap) dd ps) (hz : ∀ n ∈ dd.weights P t, n ≤ reachBytes) : ∃ l, d.C w a len l ∧ len ≤ cap ∧ V l := by
  obtain ⟨fuel, hf⟩ := h
  obtain ⟨l, ⟨A', c', hcs, hle, hC⟩, hV⟩ := hop H enc base spare held fuel _ _ hf hz
  simp only [Value.cells, List.cons.injEq, Value.slice.injEq, and_true] at hcs
  obtain ⟨rfl, rfl, rfl⟩ := hcs
  exact ⟨l, hC, hle, hV⟩
theorem open_st {H : Type} {enc : TypeId × Value → H} {base : Nat} {spare : Nat → Bool} {held : Bool} {α : Type} {d : Kd α} {t : TypeId} {V : α → Prop} (hop : Op P w d t V) {cs : Array Value} {dd : DataW H} {ps : List MemPlace}
    (h : DataW.Trod enc P w base spare held t (.agg cs) dd ps) (hz : ∀ n ∈ dd.weights P t, n ≤ reachBytes) : ∃ y, d.K w y cs.toList ∧ V y := by
  obtain ⟨fuel, hf⟩ := h
  exact hop H enc base spare held fuel _ _ hf hz
end
end Go.Proofs.YtkecpfjmdokieaaDoor.Open
/- What comes in, read kind by kind: kinds that hold themselves. -/
namespace Go.Proofs.YtkecpfjmdokieaaDoor.Open
open Go.RowKit Go.ChangeShapes Go.WideShapes Go.Deep Go.Proofs.YtkecpfjmdokieaaDoorW.PrintWords
set_option linter.unusedVariables false
/-- .. with so much fuel at most. -/
def OpU (N : Nat) {α : Type} (P : Program) (w : World) (d : Kd α) (t : TypeId) (V : α → Prop) : Prop :=
  ∀ (H : Type) (enc : TypeId × Value → H) (base : Nat) (spare : Nat → Bool) (held : Bool) (fuel : Nat) (cs : List Value) (x : DataW H × List MemPlace), fuel ≤ N → DataW.trod enc P w base spare held fuel t cs = some x → (∀ n ∈ x.1.weights P t, n ≤ reachBytes) → ∃ v, d.K w v cs ∧ V v
section
variable {P : Program} {w : World}
theorem opu_of {α : Type} {d : Kd α} {t : TypeId} {V : α → Prop} (N : Nat) (h : Op P w d t V) : OpU N P w d t V := fun H enc base spare held fuel cs x _ hx hz => h H enc base spare held fuel cs x hx hz
theorem op_ofu {α : Type} {d : Kd α} {t : TypeId} {V : α → Prop} (h : ∀ N, OpU N P w d t V) : Op P w d t V := fun H enc base spare held fuel cs x hx hz => h fuel H enc base spare held fuel cs x (Nat.le_refl _) hx hz
theorem opu_mono {α : Type} {d : Kd α} {t : TypeId} {V V' : α → Prop} {N N' : Nat} (h : OpU N P w d t V) (hN : N' ≤ N) (hV : ∀ x, V x → V' x) : OpU N' P w d t V' := fun H enc base spare held fuel cs x hf hx hz =>
  let ⟨v, hv, hh⟩ := h H enc base spare held fuel cs x (Nat.le_trans hf hN) hx hz; ⟨v, hv, hV v hh⟩
theorem open_sliceN {H : Type} {enc : TypeId × Value → H} {base : Nat} {spare : Nat → Bool} {held : Bool} {t e : TypeId} {fuel : Nat} {cs : List Value} {x : DataW H × List MemPlace} (ht : P.underlying t = some (.slice e)) (h : DataW.trod enc P w base spare held fuel t cs = some x) :
    (cs = [.slice none 0 0] ∧ x = (.nil, [])) ∨
    ∃ (a : Addr) (len cap m n : Nat) (D : Nat → DataW H) (rest : List (DataW H)) (pl : List MemPlace), fuel = n + 1 ∧ cs = [.slice (some a) len cap] ∧ len ≤ cap ∧ cap ≤ maxLen ∧
      x = (.slice ((List.range len).map D) rest, pl) ∧
      ∀ i, i < len → ∃ cs' p, w.cells? base (a.add (i * P.cellsOf e)) (P.cellsOf e) = some cs' ∧ DataW.trod enc P w base spare held n e cs' = some (D i, p) := by
  rcases DataW.trod_slice ht h with h0 | ⟨a, len, cap, elems, rest, n, hn, rfl, rfl, hb, hl, hm, hlen, hel, hsp, hns⟩
  · exact Or.inl h0
  right
  refine ⟨a, len, cap, 0, n, fun i => (elems.getD i (.nil, [])).1, rest.map (·.1), MemPlace.row a ((elems.length + rest.length) * P.cellsOf e) ++ (elems ++ rest).flatMap (·.2), hn, rfl, hl, hm, ?_, fun i hi => ?_⟩
  · refine Prod.ext ?_ rfl
    show DataW.slice (elems.map (·.1)) _ = _
    congr 1
    refine List.ext_getElem (by simp [hlen]) fun i h1 h2 => ?_
    have hi : i < elems.length := by simpa using h1
    simp [List.getD_eq_getElem?_getD, List.getElem?_eq_getElem hi]
  · have key := hel i hi
    have hie : i < elems.length := by omega
    rw [List.getElem?_eq_getElem hie] at key
    obtain ⟨cs', h1, h2⟩ := Option.bind_eq_some_iff.1 key
    exact ⟨cs', elems[i].2, h1, by rw [h2]; simp [List.getD_eq_getElem?_getD, List.getElem?_eq_getElem hie]⟩
theorem opu_slice {N : Nat} {α : Type} {d : Kd α} {t e : TypeId} {V : α → Prop} (ht : P.underlying t = some (.slice e)) (hsz : P.cellsOf e = d.sz) (h : OpU N P w d e V) : OpU (N + 1) P w (Kd.slice e d) t (fun l => l.length * P.bytesOf e ≤ reachBytes ∧ ∀ x ∈ l, V x) := by
  intro H enc base spare held fuel cs x hN hx hz
  rcases open_sliceN ht hx with ⟨rfl, _⟩ | ⟨a, len, cap, _, n, D, rest, pl, hn, rfl, hl, hm, rfl, hi⟩
  · exact ⟨[], ⟨none, 0, rfl, Nat.le_refl _, Kd.C_nil _ _⟩, by simp, by simp⟩
  · simp only [DataW.weights, ht] at hz
    have hz1 := hz _ (List.mem_cons_self)
    have hz2 : ∀ i, i < len → ∀ n ∈ (D i).weights P e, n ≤ reachBytes := fun i hi n hn => hz n (List.mem_cons_of_mem _ (List.mem_append_left _ (weightsAll_mem (List.mem_map.2 ⟨i, List.mem_range.2 hi, rfl⟩) n hn)))
    simp only [List.length_map, List.length_range] at hz1
    have key : ∀ k, k ≤ len → ∃ l : List α, l.length = k ∧ ∀ i p, l[i]? = some p → V p ∧ ∃ c : List Value, c.length = d.sz ∧ d.K w p c ∧ ∀ j u, c[j]? = some u → w.cell? (a.add (i * d.sz + j)) = some u := by
      intro k
      induction k with
      | zero => exact fun _ => ⟨[], rfl, by simp⟩
      | succ k ih =>
        intro hk
        obtain ⟨l, hlen, hh⟩ := ih (by omega)
        obtain ⟨cs', p, hc, ht'⟩ := hi k (by omega)
        obtain ⟨v, hK, hV⟩ := h H enc base spare held n cs' _ (by omega) ht' (hz2 k (by omega))
        obtain ⟨_, hcl, hat⟩ := World.cells?_some hc
        refine ⟨l ++ [v], by simp [hlen], fun i p hp => ?_⟩
        rcases Nat.lt_or_ge i l.length with hil | hil
        · rw [List.getElem?_append_left hil] at hp
          exact hh i p hp
        · obtain rfl : i = l.length := by
            have := (List.getElem?_eq_some_iff.1 hp).1
            rw [List.length_append, List.length_singleton] at this
            omega
          have hp' : v = p := by simpa using hp
          subst hp'
          refine ⟨hV, cs', d.K_len hK, hK, fun j u hu => ?_⟩
          have hj : j < cs'.length := (List.getElem?_eq_some_iff.1 hu).1
          have := hat j (by omega)
          rw [← Go.Deep.add_add, hlen, ← hsz, this, hu]
    obtain ⟨l, hll, hh⟩ := key len (Nat.le_refl _)
    have hml : len ≤ maxLen := Nat.le_trans hl hm
    refine ⟨l, ⟨some a, cap, by rw [hll], by omega, rfl, by unfold maxLen at hml; omega, fun _ => ⟨a, rfl, fun j p hp => ?_⟩⟩, ?_, fun p hp => ?_⟩
    · obtain ⟨_, c, h1, h2, h3⟩ := hh j p hp
      exact ⟨c, h1, h2, h3⟩
    · rw [hll]
      exact Nat.le_trans (Nat.mul_le_mul_right _ (by omega)) hz1
    · obtain ⟨i, hi', rfl⟩ := List.getElem_of_mem hp
      exact (hh i _ (List.getElem?_eq_getElem hi')).1
/-- The fields from one on. -/
def OpFU (N : Nat) {α : Type} (P : Program) (w : World) (d : Kd α) (fs : List Field) (o : Nat) (V : α → Prop) : Prop :=
  ∀ (H : Type) (enc : TypeId × Value → H) (base : Nat) (spare : Nat → Bool) (held : Bool) (n : Nat) (cs : List Value), n ≤ N → cs.length = o + d.sz →
    (∀ f, f ∈ fs → ∃ y, DataW.trod enc P w base spare held n f.type ((cs.drop f.offset).take (P.cellsOf f.type)) = some y ∧ ∀ n ∈ y.1.weights P f.type, n ≤ reachBytes) → ∃ v, d.K w v (cs.drop o) ∧ V v
theorem opfu_one {N : Nat} {α : Type} {d : Kd α} {f : Field} {o : Nat} {V : α → Prop} (hfo : f.offset = o) (h : OpU N P w d f.type V) (hsz : P.cellsOf f.type = d.sz) : OpFU N P w d [f] o V := by
  subst hfo
  intro H enc base spare held n cs hN hl hf
  obtain ⟨y, hy, hz⟩ := hf f (by simp)
  rw [List.take_of_length_le (by rw [List.length_drop]; omega)] at hy
  exact h H enc base spare held n _ y hN hy hz
theorem opfu_cons {N : Nat} {α β : Type} {d : Kd α} {d' : Kd β} {f : Field} {fs : List Field} {o o' : Nat} {V : α → Prop} {V' : β → Prop} (hfo : f.offset = o) (h : OpU N P w d f.type V) (hsz : P.cellsOf f.type = d.sz) (ho : o' = o + d.sz) (hr : OpFU N P w d' fs o' V') : OpFU N P w (Kd.pair d d') (f :: fs) o (fun x => V x.1 ∧ V' x.2) := by
  subst hfo
  intro H enc base spare held n cs hN hl hf
  have hl' : cs.length = f.offset + (d.sz + d'.sz) := hl
  obtain ⟨y, hy, hz⟩ := hf f (by simp)
  obtain ⟨v, hK, hV⟩ := h H enc base spare held n _ y hN hy hz
  obtain ⟨v', hK', hV'⟩ := hr H enc base spare held n cs hN (by omega) (fun g hg => hf g (by simp [hg]))
  refine ⟨(v, v'), ⟨_, _, ?_, hK, hK'⟩, hV, hV'⟩
  rw [hsz, ho, ← List.drop_drop, List.take_append_drop]
theorem opu_struct {N : Nat} {α β : Type} {d : Kd α} {t : TypeId} {fs : Array Field} {V : α → Prop} {V' : β → Prop} (g : β → α) (gi : α → β) (hg : ∀ x, g (gi x) = x) (ht : P.underlying t = some (.struct fs)) (hsz : P.cellsOf t = d.sz) (h : OpFU N P w d fs.toList 0 V) (hV : ∀ x, V (g x) → V' x) : OpU (N + 1) P w (Kd.iso d g) t V' := by
  intro H enc base spare held fuel cs x hN hx hz
  obtain ⟨xs, n, hn, rfl, hl, hxl, hf⟩ := DataW.trod_struct ht hx
  simp only [DataW.weights, ht] at hz
  obtain ⟨v, hK, hv⟩ := h H enc base spare held n cs (by omega) (by omega) (fun f hm => by
    obtain ⟨i, hi, rfl⟩ := List.getElem_of_mem hm
    have hi' : i < fs.size := by simpa using hi
    have := hf i fs[i] (Array.getElem?_eq_getElem hi')
    refine ⟨xs[i]'(by omega), ?_, fun m hm => hz m (DataW.weights_mem_each (j := i) (t := fs[i].type) (d := (xs[i]'(by omega)).1) (by simp [hi']) (by simp [List.getElem?_eq_getElem (show i < xs.length by omega)]) m (by simpa using hm))⟩
    rw [List.getElem?_eq_getElem (by omega)] at this
    simpa using this)
  exact ⟨gi v, by rw [show (Kd.iso d g).K = fun w x cs => d.K w (g x) cs from rfl]; simp only; rw [hg]; simpa using hK, hV _ (by rw [hg]; exact hv)⟩
/-- A kind that holds itself. -/
theorem op_fix {α : Type} {F : Kd α → Kd α} {sz : Nat} {E : List Nat} {hs : ∀ n, (Kd.upto F sz E n).sz = sz} {hE : ∀ n q, q ∈ (Kd.upto F sz E n).E → q ∈ E} {t : TypeId} {V : α → Prop}
    (step : ∀ N (d : Kd α), d.sz = sz → OpU N P w d t V → OpU (N + 1) P w (F d) t V) : Op P w (Kd.fix F sz E hs hE) t V := by
  have h : ∀ N, OpU N P w (Kd.upto F sz E N) t V := by
    intro N
    induction N with
    | zero =>
      intro H enc base spare held fuel cs x hN hx _
      obtain rfl : fuel = 0 := by omega
      simp [DataW.trod] at hx
    | succ N ih => exact step N _ (hs N) ih
  intro H enc base spare held fuel cs x hx hz
  obtain ⟨v, hK, hV⟩ := h fuel H enc base spare held fuel cs x (Nat.le_refl _) hx hz
  exact ⟨v, ⟨fuel, hK⟩, hV⟩
end
end Go.Proofs.YtkecpfjmdokieaaDoor.Open
/- Types that are nested in each other: what holds of a kind over the fixed point holds over some depth, and the other way round. -/
namespace Go.Proofs.YtkecpfjmdokieaaDoor.Nest
open Go.RowKit Go.Proofs.YtkecpfjmdokieaaDoorW.PrintWords
set_option linter.unusedVariables false
/-- What holds over the fixed point holds at some depth. -/
structure Cont {α β : Type} (F : Kd α → Kd α) (sz : Nat) (E : List Nat) (hs : ∀ n, (Kd.upto F sz E n).sz = sz) (hE : ∀ n q, q ∈ (Kd.upto F sz E n).E → q ∈ E) (G : Kd α → Kd β) : Prop where
  K : ∀ {w x cs}, (G (Kd.fix F sz E hs hE)).K w x cs → ∃ n, (G (Kd.upto F sz E n)).K w x cs
  M : ∀ {w base ok x cs}, (G (Kd.fix F sz E hs hE)).M w base ok x cs → ∃ n, (G (Kd.upto F sz E n)).M w base ok x cs
section
variable {α β γ : Type} {F : Kd α → Kd α} {sz : Nat} {E : List Nat} {hs : ∀ n, (Kd.upto F sz E n).sz = sz} {hE : ∀ n q, q ∈ (Kd.upto F sz E n).E → q ∈ E}
theorem G_K_le {G : Kd α → Kd β} (hm : Kd.Mono F) (hs : ∀ n, (Kd.upto F sz E n).sz = sz) (hG : Kd.Mono G) {n m : Nat} (hnm : n ≤ m) {w x cs} (h : (G (Kd.upto F sz E n)).K w x cs) : (G (Kd.upto F sz E m)).K w x cs :=
  hG.K _ _ (by rw [hs n, hs m]) (fun _ _ _ hp => Kd.upto_K_le hm hs hnm hp) _ _ _ h
theorem G_M_le {G : Kd α → Kd β} (hm : Kd.Mono F) (hs : ∀ n, (Kd.upto F sz E n).sz = sz) (hG : Kd.Mono G) {n m : Nat} (hnm : n ≤ m) {w base ok x cs} (h : (G (Kd.upto F sz E n)).M w base ok x cs) : (G (Kd.upto F sz E m)).M w base ok x cs :=
  hG.M _ _ (by rw [hs n, hs m]) (fun _ _ _ _ _ hp => Kd.upto_M_le hm hs hnm hp) _ _ _ _ _ h
theorem cont_const (k : Kd β) : Cont F sz E hs hE (fun _ : Kd α => k) := ⟨fun h => ⟨0, h⟩, fun h => ⟨0, h⟩⟩
theorem cont_id : Cont F sz E hs hE (fun d : Kd α => d) := ⟨fun h => h, fun h => h⟩
theorem cont_iso {G : Kd α → Kd β} (f : γ → β) (hG : Cont F sz E hs hE G) : Cont F sz E hs hE (fun d => Kd.iso (G d) f) := ⟨fun h => hG.K h, fun h => hG.M h⟩
theorem cont_pair {G : Kd α → Kd β} {H : Kd α → Kd γ} (hm : Kd.Mono F) (mG : Kd.Mono G) (mH : Kd.Mono H) (hG : Cont F sz E hs hE G) (hH : Cont F sz E hs hE H) : Cont F sz E hs hE (fun d => Kd.pair (G d) (H d)) := by
  refine ⟨?_, ?_⟩
  · rintro w x cs ⟨c0, c1, rfl, h0, h1⟩
    obtain ⟨n, h0⟩ := hG.K h0
    obtain ⟨m, h1⟩ := hH.K h1
    exact ⟨max n m, c0, c1, rfl, G_K_le hm hs mG (Nat.le_max_left _ _) h0, G_K_le hm hs mH (Nat.le_max_right _ _) h1⟩
  · rintro w base ok x cs ⟨c0, c1, rfl, h0, h1⟩
    obtain ⟨n, h0⟩ := hG.M h0
    obtain ⟨m, h1⟩ := hH.M h1
    exact ⟨max n m, c0, c1, rfl, G_M_le hm hs mG (Nat.le_max_left _ _) h0, G_M_le hm hs mH (Nat.le_max_right _ _) h1⟩
theorem fixG_C {G : Kd α → Kd β} (hG : Kd.Mono G) {n : Nat} {w : World} {A : Option Addr} {m : Nat} {xs : List β} (h : (G (Kd.upto F sz E n)).C w A m xs) : (G (Kd.fix F sz E hs hE)).C w A m xs :=
  Kd.C_imp (hG.sz _ _ (hs n)) (hG.K _ _ (hs n) (fun w x cs hp => (⟨n, hp⟩ : ∃ n, (Kd.upto F sz E n).K w x cs))) h
theorem fixG_R {G : Kd α → Kd β} (hG : Kd.Mono G) {n : Nat} {e : Nat} {w : World} {base : Nat} {ok : Nat → Prop} {v : Value} {xs : List β} (h : (G (Kd.upto F sz E n)).R e w base ok v xs) : (G (Kd.fix F sz E hs hE)).R e w base ok v xs :=
  Kd.R_imp (hG.sz _ _ (hs n)) (hG.M _ _ (hs n) (fun w base ok x cs hp => (⟨n, hp⟩ : ∃ n, (Kd.upto F sz E n).M w base ok x cs))) h
theorem back_R {G : Kd α → Kd β} (hm : Kd.Mono F) (mG : Kd.Mono G) (hG : Cont F sz E hs hE G) {e : Nat} {w : World} {base : Nat} {ok : Nat → Prop} {v : Value} {xs : List β} (h : (G (Kd.fix F sz E hs hE)).R e w base ok v xs) : ∃ n, (G (Kd.upto F sz E n)).R e w base ok v xs := by
  obtain ⟨h0, inner, ho, hr⟩ := h
  obtain ⟨N, hN⟩ := Kd.reps_bounded (R := fun n p c => (G (Kd.upto F sz E n)).M w base (fun k => ok k ∧ some k ≠ v.ownBlock) p c) (fun n m p c hnm hp => G_M_le hm hs mG hnm hp) (hr.imp_ (fun _ _ hp => hG.M hp))
  have e1 : (G (Kd.upto F sz E N)).sz = (G (Kd.fix F sz E hs hE)).sz := mG.sz _ _ (hs N)
  refine ⟨N, h0, inner, ?_, ?_⟩
  · rw [e1]; exact ho
  · rw [e1]; exact hN
theorem back_C {G : Kd α → Kd β} (hm : Kd.Mono F) (mG : Kd.Mono G) (hG : Cont F sz E hs hE G) {w : World} {A : Option Addr} {m : Nat} {xs : List β} (h : (G (Kd.fix F sz E hs hE)).C w A m xs) : ∃ n, (G (Kd.upto F sz E n)).C w A m xs := by
  rcases Nat.eq_zero_or_pos m with hz | hpos
  · subst hz
    exact ⟨0, h.1, h.2.1, fun hp => absurd hp (Nat.lt_irrefl 0)⟩
  · obtain ⟨ad, e, hc⟩ := h.2.2 hpos
    have e1 : ∀ N, (G (Kd.upto F sz E N)).sz = (G (Kd.fix F sz E hs hE)).sz := fun N => mG.sz _ _ (hs N)
    obtain ⟨N, hN⟩ := Kd.bounded (P := fun n j => ∀ p, xs[j]? = some p → ∃ c, c.length = (G (Kd.fix F sz E hs hE)).sz ∧ (G (Kd.upto F sz E n)).K w p c ∧ ∀ i u, c[i]? = some u → w.cell? (ad.add (j * (G (Kd.fix F sz E hs hE)).sz + i)) = some u)
      (fun n n' j hnm hp p hj => by
        obtain ⟨c, h1, h2, h3⟩ := hp p hj
        exact ⟨c, h1, G_K_le hm hs mG hnm h2, h3⟩) xs.length
      (fun j hj => by
        obtain ⟨c, h1, h2, h3⟩ := hc j _ (List.getElem?_eq_getElem hj)
        obtain ⟨n, h2⟩ := hG.K h2
        refine ⟨n, fun p hp => ?_⟩
        rw [List.getElem?_eq_getElem hj] at hp
        injection hp with hp
        rw [← hp]
        exact ⟨c, h1, h2, h3⟩)
    refine ⟨N, h.1, h.2.1, fun _ => ⟨ad, e, fun j p hj => ?_⟩⟩
    rw [e1 N]
    exact hN j (List.getElem?_eq_some_iff.1 hj).1 p hj
theorem le_R {G : Kd α → Kd β} (hm : Kd.Mono F) (hs : ∀ n, (Kd.upto F sz E n).sz = sz) (mG : Kd.Mono G) {n m : Nat} (hnm : n ≤ m) {e : Nat} {w : World} {base : Nat} {ok : Nat → Prop} {v : Value} {xs : List β} (h : (G (Kd.upto F sz E n)).R e w base ok v xs) : (G (Kd.upto F sz E m)).R e w base ok v xs :=
  Kd.R_imp (mG.sz _ _ (by rw [hs n, hs m])) (fun _ _ _ _ _ hp => G_M_le hm hs mG hnm hp) h
theorem le_C {G : Kd α → Kd β} (hm : Kd.Mono F) (hs : ∀ n, (Kd.upto F sz E n).sz = sz) (mG : Kd.Mono G) {n m : Nat} (hnm : n ≤ m) {w : World} {A : Option Addr} {l : Nat} {xs : List β} (h : (G (Kd.upto F sz E n)).C w A l xs) : (G (Kd.upto F sz E m)).C w A l xs :=
  Kd.C_imp (mG.sz _ _ (by rw [hs n, hs m])) (fun _ _ _ hp => G_K_le hm hs mG hnm hp) h
theorem cont_slice (e : Nat) {G : Kd α → Kd β} (hm : Kd.Mono F) (mG : Kd.Mono G) (hG : Cont F sz E hs hE G) : Cont F sz E hs hE (fun d => Kd.slice e (G d)) := by
  refine ⟨?_, ?_⟩
  · rintro w x cs ⟨A, c, rfl, hl, hr⟩
    obtain ⟨n, hr⟩ := back_C hm mG hG hr
    exact ⟨n, A, c, rfl, hl, hr⟩
  · rintro w base ok x cs ⟨v, rfl, hr⟩
    obtain ⟨n, hr⟩ := back_R hm mG hG hr
    exact ⟨n, v, rfl, hr⟩
end
end Go.Proofs.YtkecpfjmdokieaaDoor.Nest
-- printed by a program of this session (wip/pp): a Lean function and a proof for each Go function
namespace Go.Proofs.YtkecpfjmdokieaaDoor.P
open Go.RowKit Go.Proofs.YtkecpfjmdokieaaDoorW.PrintWords Go.Proofs.YtkecpfjmdokieaaDoorW.PrintLast Go.Proofs.YtkecpfjmdokieaaDoorW.PrintMore
attribute [local go_sem] max2_int min2_int max_two min_two max_three min_three max_four min_four   -- for this text's walks alone
set_option linter.unusedVariables false
set_option linter.unusedSimpArgs false




def errW : Option Int → Value
  | none => .nilIface
  | some c => .iface 0 (.int .i64 c)
theorem errW_none : errW none = .nilIface := rfl
theorem errW_some (c : Int) : errW (some c) = .iface 0 (.int .i64 c) := rfl

theorem info5 : (Tryd.prog.info? 5).map (fun i => (i.zero, i.size, i.bytes)) = some (some (.int .u8 0), 1, 1) := by kernel_rfl
theorem info33 : (Tryd.prog.info? 33).map (fun i => (i.zero, i.size, i.bytes)) = some (some (.agg #[(.int .i64 0), (.bool false), (.string ⟨#[]⟩), (.string ⟨#[]⟩), (.slice none 0 0)]), 5, 72) := by kernel_rfl
-- the values' own types
/-! #### struct type 33, nested in itself -/
structure S33 where
  f0 : Int
  f1 : Bool
  f2 : ByteArray
  f3 : ByteArray
  f4 : (List S33)
def z33 : S33 := ⟨(0 : Int), false, (⟨#[]⟩ : ByteArray), (⟨#[]⟩ : ByteArray), ([] : List S33)⟩
def F33 (d : Kd S33) : Kd S33 := Kd.iso (Kd.pair (Kd.int .i64) (Kd.pair Kd.bool (Kd.pair Kd.string (Kd.pair Kd.string (Kd.slice 33 d))))) (fun x : S33 => (x.f0, x.f1, x.f2, x.f3, x.f4))
theorem mono33 : Kd.Mono F33 := Kd.mono_iso _ (Kd.mono_pair (Kd.mono_const _) (Kd.mono_pair (Kd.mono_const _) (Kd.mono_pair (Kd.mono_const _) (Kd.mono_pair (Kd.mono_const _) (Kd.mono_slice 33 Kd.mono_id)))))
theorem sub33 : Kd.Sub F33 [33] := Kd.sub_iso _ (Kd.sub_pair (Kd.sub_const _ (by decide)) (Kd.sub_pair (Kd.sub_const _ (by decide)) (Kd.sub_pair (Kd.sub_const _ (by decide)) (Kd.sub_pair (Kd.sub_const _ (by decide)) (Kd.sub_slice 33 (by decide) Kd.sub_id)))))
theorem sz33 : ∀ n, (Kd.upto F33 5 [33] n).sz = 5 := Kd.upto_sz (fun _ => rfl)
def k33 : Kd S33 := Kd.fix F33 5 [33] sz33 (Kd.upto_E sub33)
theorem k33_open {w : World} {x : S33} {cs : List Value} (h : k33.K w x cs) : ∃ A4 c4, cs = [.int .i64 x.f0, .bool x.f1, .string x.f2, .string x.f3, .slice A4 x.f4.length c4] ∧ x.f4.length ≤ c4 ∧ k33.C w A4 x.f4.length x.f4 := by
  obtain ⟨n, h⟩ := h
  cases n with
  | zero => exact h.elim
  | succ n =>
    obtain ⟨_, _, rfl, rfl, ⟨_, _, rfl, rfl, ⟨_, _, rfl, rfl, ⟨_, _, rfl, rfl, ⟨A4, c4, rfl, l4, g4⟩⟩⟩⟩⟩ := h
    exact ⟨A4, c4, rfl, l4, Kd.fix_C g4⟩
theorem k33_openM {w : World} {base : Nat} {ok : Nat → Prop} {x : S33} {cs : List Value} (h : k33.M w base ok x cs) : ∃ v4, cs = [.int .i64 x.f0, .bool x.f1, .string x.f2, .string x.f3, v4] ∧ k33.R 33 w base ok v4 x.f4 := by
  obtain ⟨n, h⟩ := h
  cases n with
  | zero => exact h.elim
  | succ n =>
    obtain ⟨_, _, rfl, rfl, ⟨_, _, rfl, rfl, ⟨_, _, rfl, rfl, ⟨_, _, rfl, rfl, ⟨v4, rfl, g4⟩⟩⟩⟩⟩ := h
    exact ⟨v4, rfl, Kd.fix_R g4⟩
theorem k33_mk (w : World) (x : S33) {A4 : Option Addr} {c4 : Nat} (l4 : x.f4.length ≤ c4) (g4 : k33.C w A4 x.f4.length x.f4) : k33.K w x [.int .i64 x.f0, .bool x.f1, .string x.f2, .string x.f3, .slice A4 x.f4.length c4] := by
  obtain ⟨n4, q4⟩ := Kd.fix_C_back mono33 g4
  have r4 := Kd.upto_C_le mono33 sz33 (show n4 ≤ n4 by omega) q4
  exact ⟨n4 + 1, ⟨[.int .i64 x.f0], [.bool x.f1, .string x.f2, .string x.f3, .slice A4 x.f4.length c4], rfl, rfl, ⟨[.bool x.f1], [.string x.f2, .string x.f3, .slice A4 x.f4.length c4], rfl, rfl, ⟨[.string x.f2], [.string x.f3, .slice A4 x.f4.length c4], rfl, rfl, ⟨[.string x.f3], [.slice A4 x.f4.length c4], rfl, rfl, ⟨A4, c4, rfl, l4, r4⟩⟩⟩⟩⟩⟩
theorem k33_mkM (w : World) (base : Nat) (ok : Nat → Prop) (x : S33) {v4 : Value} (g4 : k33.R 33 w base ok v4 x.f4) : k33.M w base ok x [.int .i64 x.f0, .bool x.f1, .string x.f2, .string x.f3, v4] := by
  obtain ⟨n4, q4⟩ := Kd.fix_R_back mono33 g4
  have r4 := Kd.upto_R_le mono33 sz33 (show n4 ≤ n4 by omega) q4
  exact ⟨n4 + 1, ⟨[.int .i64 x.f0], [.bool x.f1, .string x.f2, .string x.f3, v4], rfl, rfl, ⟨[.bool x.f1], [.string x.f2, .string x.f3, v4], rfl, rfl, ⟨[.string x.f2], [.string x.f3, v4], rfl, rfl, ⟨[.string x.f3], [v4], rfl, rfl, ⟨v4, rfl, r4⟩⟩⟩⟩⟩⟩
theorem k33_openF {W : World} {ok : Nat → Prop} {x : S33} {cs : List Value} (h : Kd.FK k33 W ok x cs) : ∃ A4 c4, cs = [.int .i64 x.f0, .bool x.f1, .string x.f2, .string x.f3, .slice A4 x.f4.length c4] ∧ x.f4.length ≤ c4 ∧ Kd.F k33 W ok A4 x.f4.length x.f4 := by
  obtain ⟨A4, c4, rfl, l4, _⟩ := k33_open (Kd.FK_now h)
  exact ⟨A4, c4, rfl, l4, (fun W' hW => by obtain ⟨A4_, c4_, he, l4_, g4_⟩ := k33_open (h W' hW); injection (Option.some.inj (show some (Value.slice A4 x.f4.length c4) = some (Value.slice A4_ x.f4.length c4_) from congrArg (fun l => l[4]?) he)) with ha_ _ _; rw [ha_]; exact g4_)⟩
theorem k33_mkF (W : World) (ok : Nat → Prop) (x : S33) {A4 : Option Addr} {c4 : Nat} (l4 : x.f4.length ≤ c4) (g4 : Kd.F k33 W ok A4 x.f4.length x.f4) : Kd.FK k33 W ok x [.int .i64 x.f0, .bool x.f1, .string x.f2, .string x.f3, .slice A4 x.f4.length c4] := fun W2 hW => k33_mk W2 x l4 (g4 W2 hW)
def rd_T33 (xs : List S33) (i : Int) : S33 := xs.getD i.toNat z33
theorem at_T33 {w : World} {A : Option Addr} {n : Nat} {xs : List S33} (h : Kd.C k33 w A n xs) (i : Int) (h0 : 0 ≤ i) (h1 : i < n) : ∃ ad A4 c4, A = some ad ∧ w.cell? (ad.add (i.toNat * 5)) = some (.int .i64 (rd_T33 xs i).f0) ∧ w.cell? ⟨(ad.add (i.toNat * 5)).block, (ad.add (i.toNat * 5)).off + 1, none⟩ = some (.bool (rd_T33 xs i).f1) ∧ w.cell? ⟨(ad.add (i.toNat * 5)).block, (ad.add (i.toNat * 5)).off + 2, none⟩ = some (.string (rd_T33 xs i).f2) ∧ w.cell? ⟨(ad.add (i.toNat * 5)).block, (ad.add (i.toNat * 5)).off + 3, none⟩ = some (.string (rd_T33 xs i).f3) ∧ w.cell? ⟨(ad.add (i.toNat * 5)).block, (ad.add (i.toNat * 5)).off + 4, none⟩ = some (.slice A4 (rd_T33 xs i).f4.length c4) ∧ (rd_T33 xs i).f4.length ≤ c4 ∧ k33.C w A4 (rd_T33 xs i).f4.length (rd_T33 xs i).f4 := by
  obtain ⟨ad, c, e, _, hK, hc0⟩ := Kd.C_get h z33 i h0 h1
  have hc : ∀ j u, c[j]? = some u → w.cell? (ad.add (i.toNat * 5 + j)) = some u := hc0
  obtain ⟨A4, c4, rfl, l4, g4⟩ := k33_open hK
  exact ⟨ad, A4, c4, e, hc 0 _ rfl, by rw [← add_field _ _ 1 (by omega)]; exact hc 1 _ rfl, by rw [← add_field _ _ 2 (by omega)]; exact hc 2 _ rfl, by rw [← add_field _ _ 3 (by omega)]; exact hc 3 _ rfl, by rw [← add_field _ _ 4 (by omega)]; exact hc 4 _ rfl, l4, g4⟩

def rd_L5 (xs : List (List S33)) (i : Int) : (List S33) := xs.getD i.toNat ([] : List S33)
theorem at_L5 {w : World} {A : Option Addr} {n : Nat} {xs : List (List S33)} (h : Kd.C (Kd.slice 33 k33) w A n xs) (i : Int) (h0 : 0 ≤ i) (h1 : i < n) : ∃ ad A0 c0, A = some ad ∧ w.cell? (ad.add i.toNat) = some (.slice A0 (rd_L5 xs i).length c0) ∧ (rd_L5 xs i).length ≤ c0 ∧ k33.C w A0 (rd_L5 xs i).length (rd_L5 xs i) := by
  obtain ⟨ad, c, e, _, hK, hc0⟩ := Kd.C_get h ([] : List S33) i h0 h1
  have hc : ∀ j u, c[j]? = some u → w.cell? (ad.add (i.toNat * 1 + j)) = some u := hc0
  obtain ⟨A0, c0, rfl, l0, g0⟩ := hK
  exact ⟨ad, A0, c0, e, by have hq := hc 0 _ rfl; rwa [Nat.mul_one, Nat.add_zero] at hq, l0, g0⟩

end Go.Proofs.YtkecpfjmdokieaaDoor.P
/- api.Part, api.Word: what reads as such is such, and fits into a memory. -/
namespace Go.Proofs.YtkecpfjmdokieaaDoor.NodeOps
open Go.RowKit Go.Proofs.YtkecpfjmdokieaaDoorW.PrintWords Go.Proofs.YtkecpfjmdokieaaDoor.Open Go.Proofs.YtkecpfjmdokieaaDoor.P
set_option linter.unusedVariables false
/-- A size that a memory can hold. -/
abbrev Lim (n : Nat) : Prop := n ≤ 140737488355328
inductive FitPart : S33 → Prop
  | mk (x : S33) (h2 : Lim x.f2.size) (h3 : Lim x.f3.size) (hl : Lim x.f4.length) (h : ∀ y ∈ x.f4, FitPart y) : FitPart x
abbrev FitWord (l : List S33) : Prop := Lim l.length ∧ ∀ y ∈ l, FitPart y
theorem lim_of {n b : Nat} (h : n * b ≤ reachBytes) (hb : 1 ≤ b) : Lim n := by
  have h1 : n * 1 ≤ n * b := Nat.mul_le_mul_left _ hb
  have h2 : reachBytes ≤ 140737488355328 := by decide
  unfold Lim; omega
theorem lim_b {n : Nat} (h : n ≤ reachBytes) : Lim n := by
  have h2 : reachBytes ≤ 140737488355328 := by decide
  unfold Lim; omega
set_option maxRecDepth 100000 in
theorem op_part (w : World) : Open.Op Tryd.prog w k33 33 FitPart := op_fix fun N d hd ih =>
  opu_struct (V := fun x => True ∧ True ∧ x.2.2.1.size ≤ reachBytes ∧ x.2.2.2.1.size ≤ reachBytes ∧ (x.2.2.2.2.length * Tryd.prog.bytesOf 33 ≤ reachBytes ∧ ∀ y ∈ x.2.2.2.2, FitPart y))
    (fun x : S33 => (x.f0, x.f1, x.f2, x.f3, x.f4)) (fun x => ⟨x.1, x.2.1, x.2.2.1, x.2.2.2.1, x.2.2.2.2⟩) (fun _ => rfl) Tryd.underlying33 (by kernel_rfl)
    (opfu_cons (o' := 1) (V := fun _ : Int => True) rfl (opu_mono (opu_of N (op_int Tryd.underlying3)) (Nat.le_refl _) (fun _ _ => trivial)) (by kernel_rfl) rfl
    (opfu_cons (o' := 2) (V := fun _ : Bool => True) rfl (opu_of N (op_bool Tryd.underlying4)) (by kernel_rfl) rfl
    (opfu_cons (o' := 3) (V := fun s : ByteArray => s.size ≤ reachBytes) rfl (opu_of N (op_string Tryd.underlying9)) (by kernel_rfl) rfl
    (opfu_cons (o' := 4) (V := fun s : ByteArray => s.size ≤ reachBytes) rfl (opu_of N (op_string Tryd.underlying9)) (by kernel_rfl) rfl
    (opfu_one rfl (opu_mono (opu_slice Tryd.underlying22 (by rw [hd]; first | done | rfl | kernel_rfl) ih) (Nat.le_succ _) (fun _ h => h)) (by kernel_rfl))))))
    (fun x h => .mk x (lim_b h.2.2.1) (lim_b h.2.2.2.1) (lim_of h.2.2.2.2.1 (by decide +kernel)) h.2.2.2.2.2)
set_option maxRecDepth 100000 in
theorem op_word (w : World) : Open.Op Tryd.prog w (Kd.slice 33 k33) 23 FitWord :=
  op_mono (op_slice Tryd.underlying23 (by kernel_rfl) (op_part w)) (fun _ h => ⟨lim_of h.1 (by decide +kernel), h.2⟩)
end Go.Proofs.YtkecpfjmdokieaaDoor.NodeOps
-- printed by a program of this session (wip/pp): a Lean function and a proof for each Go function
namespace Go.Proofs.YtkecpfjmdokieaaDoor.P
open Go.RowKit Go.Proofs.YtkecpfjmdokieaaDoorW.PrintWords Go.Proofs.YtkecpfjmdokieaaDoorW.PrintLast Go.Proofs.YtkecpfjmdokieaaDoorW.PrintMore
attribute [local go_sem] max2_int min2_int max_two min_two max_three min_three max_four min_four   -- for this text's walks alone
set_option linter.unusedVariables false
set_option linter.unusedSimpArgs false

/-! ### word_Of: function 19 -/
def word_Of.f (a0 : ByteArray) : Option ((List (S33))) := some (([(⟨1, true, a0, (⟨#[]⟩ : ByteArray), ([] : List (S33))⟩ : S33)] : List (S33)))
set_option maxHeartbeats 8000000 in
set_option maxRecDepth 100000 in
theorem word_Of.calls (a0 : ByteArray) (r : List (S33)) (w : World) (h : word_Of.f a0 = some r) :
    Calls Tryd.prog 19 #[.string a0] w fun e w' => ∃ v0_ : Value, e = .returned (v0_) ∧ Kd.R k33 33 w' w.heap.size (fun _ => True) v0_ r ∧ Below w.heap.size w w' := by
  have hu33 := Tryd.underlying33
  have HB := Aside0.mk (Below.refl w.heap.size w)
  have H : (some (([(⟨1, true, a0, (⟨#[]⟩ : ByteArray), ([] : List (S33))⟩ : S33)] : List (S33)))) = some r := h
  clear h
  obtain ⟨y127, hy127⟩ : ∃ y_ : List (S33), y_ = (([(⟨1, true, a0, (⟨#[]⟩ : ByteArray), ([] : List (S33))⟩ : S33)] : List (S33))) := ⟨_, rfl⟩
  replace H : (some y127) = some r := by first | (rw [hy127]; with_reducible exact H) | (have H2_ := (Option.bind_some _ _).symm.trans H; rw [hy127]; with_reducible exact H2_) | (have H2_ := (Option.bind_some _ _).symm.trans H; with_reducible exact H2_) | with_reducible exact H | (rw [hy127]; exact H) | exact H
  have Ny127 := Aside0.mk hy127
  clear hy127
  obtain rfl := Option.some.inj H
  go_enter Tryd.func19, Tryd.ntmps19
  go_wp2_with (first | ((with_reducible refine gate_dst (N := 5) rfl ?_); refine Kd.R_lit k33 _ 33 ?hg (N := 5) ?hd (xs := ([(⟨1, true, a0, (⟨#[]⟩ : ByteArray), ([] : List (S33))⟩ : S33)] : List (S33))) (inner := [.int .i64 1, .bool true, .string a0, .string (⟨#[]⟩ : ByteArray), .slice none 0 0]) (ok := fun _ => True) (okp := fun _ => True) ?hr ?hp (fun _ hk => hk) trivial (Below.refl _ _) (Nat.le_refl _) (by simp) ?_; (case hd => rfl); (case hg => rfl); (case hr => first | (go_simp; done) | (go_simp; rfl)); (case hp => exact (Reps.c5 (show Kd.M k33 _ _ _ (⟨1, true, a0, (⟨#[]⟩ : ByteArray), ([] : List (S33))⟩ : S33) [.int .i64 1, .bool true, .string a0, .string (⟨#[]⟩ : ByteArray), .slice none 0 0] from (k33_mkM _ _ _ (⟨1, true, a0, (⟨#[]⟩ : ByteArray), ([] : List (S33))⟩ : S33) (Kd.R_nil _ _ _ _ _))) (Reps.none _ _))); intro v128 w2 ho3 hb hg_ hnew_; clear hg_ hnew_; (first | rw [← Ny127.out] at ho3 | (simp only [Int.reduceToNat] at ho3; rw [← Ny127.out] at ho3)); have n0_ := Aside0.mk (Kd.R_lower ho3 (below_size (by repeat (first | (with_reducible first | exact HB.out | apply below_alloc | apply pw_below_drewN | apply below_drew1) | exact HB.out)))); have n1_ := Aside0.mk (below_step (by repeat (first | (with_reducible first | exact HB.out | apply below_alloc | apply pw_below_drewN | apply below_drew1) | exact HB.out)) hb); clear HB; have HO129 := n0_; have HB := n1_; clear n0_ n1_; clear hb ho3))
  go_ret
  exact ⟨_, by first | rfl | (simp [errW_none, errW_some] <;> rfl) | (simp [*, errW_none, errW_some] <;> rfl), by (with_reducible repeat (first | apply Kd.R_alloc | apply Kd.R_drewN | apply Kd.R_drew)); exact HO129.out, by repeat (first | (with_reducible first | exact HB.out | apply below_alloc | apply pw_below_drewN | apply below_drew1) | exact HB.out)⟩

/-! ### deadfallref03_Weight: function 7 -/
mutual
def deadfallref03_Weight.j0 : Nat → List (S33) → Int → Bool → Option (Int)
  | 0, _, _, _ => none
  | k + 1, x0, x1, x14 => if x14 = true then (some 100000) else (deadfallref03_Weight.l0 k x1 0 x0 (x0.length : Int) 0)
def deadfallref03_Weight.l0 : Nat → Int → Int → List (S33) → Int → Int → Option (Int)
  | 0, _, _, _, _, _ => none
  | k + 1, x1, x5, x15, x16, x17 => if x17 < x16 then (if 0 ≤ x17 then (if x17 < (x15.length : Int) then ((deadfallref03_Weight.f k ((rd_T33 x15 x17).f4) (wrap64 (x1 + 1))).bind fun t139 => (if (wrap64 (x5 + (wrap64 ((wrap64 ((wrap64 (1 + (((rd_T33 x15 x17).f2).size : Int))) + (((rd_T33 x15 x17).f3).size : Int))) + t139)))) > 10000 then (some 100000) else (deadfallref03_Weight.l0 k x1 (wrap64 (x5 + (wrap64 ((wrap64 ((wrap64 (1 + (((rd_T33 x15 x17).f2).size : Int))) + (((rd_T33 x15 x17).f3).size : Int))) + t139)))) x15 x16 (wrap64 (x17 + 1))))) else (none)) else (none)) else (some x5)
def deadfallref03_Weight.f : Nat → List (S33) → Int → Option (Int)
  | 0, _, _ => none
  | k + 1, l0, a1 => if a1 > 250 then (deadfallref03_Weight.j0 k l0 a1 true) else (deadfallref03_Weight.j0 k l0 a1 (decide ((l0.length : Int) > 10000)))
end
theorem deadfallref03_Weight.mono_l : ∀ k, (∀ y0 y1, LeO (deadfallref03_Weight.f k y0 y1) (deadfallref03_Weight.f (k + 1) y0 y1)) ∧ (∀ y0 y1 y2, LeO (deadfallref03_Weight.j0 k y0 y1 y2) (deadfallref03_Weight.j0 (k + 1) y0 y1 y2)) ∧ (∀ y0 y1 y2 y3 y4, LeO (deadfallref03_Weight.l0 k y0 y1 y2 y3 y4) (deadfallref03_Weight.l0 (k + 1) y0 y1 y2 y3 y4))
  | 0 => ⟨fun _ _ r h => by simp [deadfallref03_Weight.f] at h, fun _ _ _ r h => by simp [deadfallref03_Weight.j0] at h, fun _ _ _ _ _ r h => by simp [deadfallref03_Weight.l0] at h⟩
  | k + 1 => by
    obtain ⟨ih0, ih1, ih2⟩ := deadfallref03_Weight.mono_l k
    refine ⟨?_, ?_, ?_⟩
    · intro y0 y1
      unfold deadfallref03_Weight.f
      repeat' first
      | (with_reducible exact ih0 _ _)
      | (with_reducible exact ih1 _ _ _)
      | (with_reducible exact ih2 _ _ _ _ _)
      | (with_reducible exact LeO.refl _)
      | (with_reducible exact LeO.none _)
      | (with_reducible refine LeO.ite ?_ ?_)
      | (with_reducible refine LeO.bind ?_ (fun _ => ?_))
      | exact ih0 _ _
      | exact ih1 _ _ _
      | exact ih2 _ _ _ _ _
      | exact LeO.none _
      | refine LeO.ite ?_ ?_
      | refine LeO.bind ?_ (fun _ => ?_)
    · intro y0 y1 y2
      unfold deadfallref03_Weight.j0
      repeat' first
      | (with_reducible exact ih0 _ _)
      | (with_reducible exact ih1 _ _ _)
      | (with_reducible exact ih2 _ _ _ _ _)
      | (with_reducible exact LeO.refl _)
      | (with_reducible exact LeO.none _)
      | (with_reducible refine LeO.ite ?_ ?_)
      | (with_reducible refine LeO.bind ?_ (fun _ => ?_))
      | exact ih0 _ _
      | exact ih1 _ _ _
      | exact ih2 _ _ _ _ _
      | exact LeO.none _
      | refine LeO.ite ?_ ?_
      | refine LeO.bind ?_ (fun _ => ?_)
    · intro y0 y1 y2 y3 y4
      unfold deadfallref03_Weight.l0
      repeat' first
      | (with_reducible exact ih0 _ _)
      | (with_reducible exact ih1 _ _ _)
      | (with_reducible exact ih2 _ _ _ _ _)
      | (with_reducible exact LeO.refl _)
      | (with_reducible exact LeO.none _)
      | (with_reducible refine LeO.ite ?_ ?_)
      | (with_reducible refine LeO.bind ?_ (fun _ => ?_))
      | exact ih0 _ _
      | exact ih1 _ _ _
      | exact ih2 _ _ _ _ _
      | exact LeO.none _
      | refine LeO.ite ?_ ?_
      | refine LeO.bind ?_ (fun _ => ?_)
theorem deadfallref03_Weight.mono : ∀ a0 a1 k, LeO (deadfallref03_Weight.f k a0 a1) (deadfallref03_Weight.f (k + 1) a0 a1) := by
  intro a0 a1 k
  obtain ⟨ih0, ih1, ih2⟩ := deadfallref03_Weight.mono_l k
  exact ih0 a0 a1
def deadfallref03_Weight.T7 : Bool × List (List Nat × List Nat) := (true, [([], []), ([], []), ([1], [1]), ([2], [2]), ([3], [3]), ([], []), ([5], [5]), ([6], [6]), ([4, 7], [4, 7]), ([], []), ([9], [9]), ([], []), ([11], [11]), ([10, 12], [10, 12]), ([8, 13], [8, 13]), ([0, 14], [0, 14]), ([15, 13, 0, 1, 2, 3, 4, 5, 6, 7, 8, 9, 10, 11, 12, 13, 14, 15], [0, 15])])
def deadfallref03_Weight.B7 : List Nat := [0, 0, 2, 6, 14, 0, 32, 96, 254, 0, 512, 0, 2048, 7680, 16382, 32767, 65535]
theorem deadfallref03_Weight.tab7 : rtab .any (opsOf Tryd.f7 7) = deadfallref03_Weight.T7 := by kernel_rfl
theorem deadfallref03_Weight.bits7 : waitsOk deadfallref03_Weight.T7.2 deadfallref03_Weight.B7 = true := by kernel_rfl
set_option maxHeartbeats 8000000 in
set_option maxRecDepth 100000 in
theorem deadfallref03_Weight.calls (k : Nat) : ∀ (A0 : Option Addr) (c0 : Nat) (l0 : List (S33)) (a1 : Int) (r : Int) (w : World) (hr0 : Kd.C k33 w A0 l0.length l0) (hc0 : l0.length ≤ c0) (h : deadfallref03_Weight.f k l0 a1 = some r),
    Calls Tryd.prog 7 #[.slice A0 l0.length c0, .int .i64 a1] w fun e w' => e = .returned (.int .i64 r) ∧ Below w.heap.size w w' := by
  induction k using Nat.strongRecOn with
  | _ k ih =>
  intro A0 c0 l0 a1 r w hr0 hc0 h
  cases k with
  | zero => exact absurd h (by simp [deadfallref03_Weight.f])
  | succ k =>
  simp only [deadfallref03_Weight.f] at h
  have hu33 := Tryd.underlying33
  have HR0 := Aside0.mk hr0
  have HC0 := Aside0.mk hc0
  clear hr0 hc0
  have HB := Aside0.mk (Below.refl w.heap.size w)
  have H : (if a1 > 250 then (deadfallref03_Weight.j0 k l0 a1 true) else (deadfallref03_Weight.j0 k l0 a1 (decide ((l0.length : Int) > 10000)))) = some r := h
  clear h
  have HC3 := Aside0.mk H
  clear H
  go_enter Tryd.func7, Tryd.ntmps7
  go_upto_region 1 with (fail)
  go_cut [14] (fun v14 wc => ∃ (kq : Nat) (x14_2 : Bool), v14 = .bool x14_2 ∧ Aside0 (deadfallref03_Weight.j0 kq l0 a1 x14_2 = some r) ∧ Aside0 (kq ≤ k) ∧ Aside0 (Below w.heap.size w wc))
  case first =>
    have H := HC3.out
    clear HC3
    by_cases c4 : a1 > 250
    · rw [if_pos c4] at H
      have c4b0 : decide (250 < a1) = true := decide_eq_true c4
      clear c4
      (first | rw [c4b0] | (simp only [i64_w, i32_w]; rw [c4b0]) | skip)
      have H' := Aside0.mk H
      clear H
      go_wp2
      go_meet
      case rel => exact ⟨_, (true), (by first | rfl | (simp; done) | (simp [*]; done)), H', ⟨by first | omega | exact Nat.le_refl _⟩, ⟨by repeat (first | (with_reducible first | exact HB.out | apply below_alloc | apply pw_below_drewN | apply below_drew1) | exact HB.out)⟩⟩
    · rw [if_neg c4] at H
      have c4b0 : decide (250 < a1) = false := decide_eq_false c4
      clear c4
      (first | rw [c4b0] | (simp only [i64_w, i32_w]; rw [c4b0]) | skip)
      have H' := Aside0.mk H
      clear H
      go_wp2
      go_meet
      case rel => exact ⟨_, (decide ((l0.length : Int) > 10000)), (by first | rfl | (simp; done) | (simp [*]; done)), H', ⟨by first | omega | exact Nat.le_refl _⟩, ⟨by repeat (first | (with_reducible first | exact HB.out | apply below_alloc | apply pw_below_drewN | apply below_drew1) | exact HB.out)⟩⟩
  case rest =>
    clear HC3
    try clear p2
    try clear c4
    try clear c4b0
    obtain ⟨kq, x14_2, rfl, HA, HJ2, HB⟩ := hcut
    cases kq with
    | zero => exact absurd HA.out (by simp [deadfallref03_Weight.j0])
    | succ kj2 =>
      have H := HA.out
      clear HA
      simp only [deadfallref03_Weight.j0] at H
      by_cases c5 : x14_2 = true
      · subst c5
        have H1 : (some 100000) = some r := by rw [if_pos rfl] at H; exact H
        clear H
        have H := H1
        clear H1
        obtain rfl := Option.some.inj H
        go_wp2
        go_ret
        exact ⟨by first | rfl | (simp [errW_none, errW_some] <;> rfl) | (simp [*, errW_none, errW_some] <;> rfl), by repeat (first | (with_reducible first | exact HB.out | apply below_alloc | apply pw_below_drewN | apply below_drew1) | exact HB.out)⟩
      · replace c5 := Bool.eq_false_iff.mpr c5
        subst c5
        have H1 : (deadfallref03_Weight.l0 kj2 a1 0 l0 (l0.length : Int) 0) = some r := by rw [if_neg (show ¬ (false = true) by decide)] at H; exact H
        clear H
        have H := H1
        clear H1
        have H' := Aside0.mk H
        clear H
        go_wp2
        go_loopg [5, 17] kj2 (fun kq v5 v17 w' => ∃ (x5_2 : Int) (x17_2 : Int), v5 = .int .i64 x5_2 ∧ v17 = .int .i64 x17_2 ∧ Aside0 (deadfallref03_Weight.l0 kq a1 x5_2 l0 (l0.length : Int) x17_2 = some r) ∧ Aside0 (kq ≤ kj2) ∧ Aside0 (Below w.heap.size w w'))
        case atStart => exact ⟨(0), (0), (by first | rfl | (simp; done) | (simp [*]; done)), (by first | rfl | (simp; done) | (simp [*]; done)), H', ⟨Nat.le_refl _⟩, ⟨by repeat (first | (with_reducible first | exact HB.out | apply below_alloc | apply pw_below_drewN | apply below_drew1) | exact HB.out)⟩⟩
        case round =>
          clear H'
          try clear p2
          try clear c4
          try clear c4b0
          try clear c5
          try clear p2
          obtain ⟨x5_2, x17_2, rfl, rfl, HA, HK2, HB⟩ := hrel
          cases gk with
          | zero => exact absurd HA.out (by simp [deadfallref03_Weight.l0])
          | succ k2 =>
            have H := HA.out
            clear HA
            simp only [deadfallref03_Weight.l0] at H
            by_cases c6 : x17_2 < (l0.length : Int)
            · rw [if_pos c6] at H
              have c6b0 : decide (x17_2 < (l0.length : Int)) = true := decide_eq_true c6
              clear c6
              by_cases c7 : 0 ≤ x17_2
              · rw [if_pos c7] at H
                have c7b0 : decide (0 ≤ x17_2) = true := decide_eq_true c7
                clear c7
                by_cases c8 : x17_2 < (l0.length : Int)
                · rw [if_pos c8] at H
                  have c8b0 : decide (x17_2 < (l0.length : Int)) = true := decide_eq_true c8
                  clear c8
                  replace H := Option.bind_eq_some_iff.mp H
                  obtain ⟨t139, A90, H⟩ := H
                  replace H : (if (wrap64 (x5_2 + (wrap64 ((wrap64 ((wrap64 (1 + (((rd_T33 l0 x17_2).f2).size : Int))) + (((rd_T33 l0 x17_2).f3).size : Int))) + t139)))) > 10000 then (some 100000) else (deadfallref03_Weight.l0 k2 a1 (wrap64 (x5_2 + (wrap64 ((wrap64 ((wrap64 (1 + (((rd_T33 l0 x17_2).f2).size : Int))) + (((rd_T33 l0 x17_2).f3).size : Int))) + t139)))) l0 (l0.length : Int) (wrap64 (x17_2 + 1)))) = some r := H
                  have A9 := Aside0.mk A90
                  clear A90
                  by_cases c10 : (wrap64 (x5_2 + (wrap64 ((wrap64 ((wrap64 (1 + (((rd_T33 l0 x17_2).f2).size : Int))) + (((rd_T33 l0 x17_2).f3).size : Int))) + t139)))) > 10000
                  · rw [if_pos c10] at H
                    have c10b0 : decide (10000 < (wrap64 (x5_2 + (wrap64 ((wrap64 ((wrap64 (1 + (((rd_T33 l0 x17_2).f2).size : Int))) + (((rd_T33 l0 x17_2).f3).size : Int))) + t139))))) = true := decide_eq_true c10
                    clear c10
                    obtain rfl := Option.some.inj H
                    have p137 : 0 ≤ (x17_2 : Int) := of_decide_eq_true (by first | (with_reducible assumption) | assumption)
                    have q137 : x17_2 < (l0.length : Int) := of_decide_eq_true (by first | (with_reducible assumption) | assumption)
                    obtain ⟨ad137, A137_4, c137_4, e137, hx137_0, hx137_1, hx137_2, hx137_3, hx137_4, hl137_4, hi137_4⟩ := at_T33 HR0.out x17_2 p137 q137
                    cases e137
                    replace hx137_0 := (HB.out.cell (World.block_lt_of_cell? w _ hx137_0)).trans hx137_0
                    replace hx137_1 := (HB.out.cell (World.block_lt_of_cell? w _ hx137_1)).trans hx137_1
                    replace hx137_2 := (HB.out.cell (World.block_lt_of_cell? w _ hx137_2)).trans hx137_2
                    replace hx137_3 := (HB.out.cell (World.block_lt_of_cell? w _ hx137_3)).trans hx137_3
                    replace hx137_4 := (HB.out.cell (World.block_lt_of_cell? w _ hx137_4)).trans hx137_4
                    have HR137_4 := Aside0.mk hi137_4
                    have HC137_4 := Aside0.mk hl137_4
                    clear hi137_4 hl137_4
                    replace p137 := eq_true p137
                    replace q137 := eq_true q137
                    try go_wp2_with (first | ((with_reducible refine gate_dst (N := 7) rfl ?_); (try (refine gate_guard (by rfl) ?_; dsimp only)); refine box_event ?hg (N := 7) ?hd (cs := #[.int .i64 0, .bool false, .string (⟨#[]⟩ : ByteArray), .string (⟨#[]⟩ : ByteArray), .slice none 0 0]) (t := 33) ?hr ?_; (case hd => rfl); (case hg => rfl); (case hr => first | (go_simp; done) | (go_simp; rfl)); intro gb138 hg w11 hbox hb; have n0_ := Aside0.mk (below_step (by repeat (first | (with_reducible first | exact HB.out | apply below_alloc | apply pw_below_drewN | apply below_drew1) | exact HB.out)) hb); have n1_ := Aside0.mk (hbox); have n2_ := Aside0.mk ((by rw [hg]; exact (below_size (by repeat (first | (with_reducible first | exact HB.out | apply below_alloc | apply pw_below_drewN | apply below_drew1) | exact HB.out))) : w.heap.size ≤ gb138)); have n3_ := Aside0.mk ((by rw [hg]; exact (below_size (by repeat (first | (with_reducible first | exact HB.out | apply below_alloc | apply pw_below_drewN | apply below_drew1) | exact HB.out))) : w.heap.size ≤ gb138)); clear HB; have HB := n0_; have BK138 := n1_; have GW138 := n2_; have GE138 := n3_; clear n0_ n1_ n2_ n3_; clear hb hbox hg; have hcz12_0 : w11.cell? ⟨gb138, 0, none⟩ = some (.int .i64 0) := (blk_cell BK138.out 0).trans rfl; have hcz12_1 : w11.cell? ⟨gb138, 1, none⟩ = some (.bool false) := (blk_cell BK138.out 1).trans rfl; have hcz12_2 : w11.cell? ⟨gb138, 2, none⟩ = some (.string (⟨#[]⟩ : ByteArray)) := (blk_cell BK138.out 2).trans rfl; have hcz12_3 : w11.cell? ⟨gb138, 3, none⟩ = some (.string (⟨#[]⟩ : ByteArray)) := (blk_cell BK138.out 3).trans rfl; have hcz12_4 : w11.cell? ⟨gb138, 4, none⟩ = some (.slice none 0 0) := (blk_cell BK138.out 4).trans rfl; have hfz12_0 := blk_frozen BK138.out 0; have hfz12_1 := blk_frozen BK138.out 1; have hfz12_2 := blk_frozen BK138.out 2; have hfz12_3 := blk_frozen BK138.out 3; have hfz12_4 := blk_frozen BK138.out 4))
                    have n0_ : Aside0 ((((((w11.setCell ⟨gb138, 0, none⟩ (.int .i64 ((rd_T33 l0 x17_2).f0))).setCell ⟨gb138, 1, none⟩ (.bool ((rd_T33 l0 x17_2).f1))).setCell ⟨gb138, 2, none⟩ (.string ((rd_T33 l0 x17_2).f2))).setCell ⟨gb138, 3, none⟩ (.string ((rd_T33 l0 x17_2).f3))).setCell ⟨gb138, 4, none⟩ (.slice A137_4 ((rd_T33 l0 x17_2).f4).length c137_4)).heap[gb138]? = some (.cells #[.int .i64 ((rd_T33 l0 x17_2).f0), .bool ((rd_T33 l0 x17_2).f1), .string ((rd_T33 l0 x17_2).f2), .string ((rd_T33 l0 x17_2).f3), .slice A137_4 ((rd_T33 l0 x17_2).f4).length c137_4] 33 (0, 0))) := ⟨by (with_reducible repeat (first | refine blk_drewN ?_ _ | refine blk_drew ?_ | refine blk_alloc ?_ _)); refine blk_put (cs := #[.int .i64 ((rd_T33 l0 x17_2).f0), .bool ((rd_T33 l0 x17_2).f1), .string ((rd_T33 l0 x17_2).f2), .string ((rd_T33 l0 x17_2).f3), .slice none 0 0]) ?_ 4 _ rfl; (with_reducible repeat (first | refine blk_drewN ?_ _ | refine blk_drew ?_ | refine blk_alloc ?_ _)); refine blk_put (cs := #[.int .i64 ((rd_T33 l0 x17_2).f0), .bool ((rd_T33 l0 x17_2).f1), .string ((rd_T33 l0 x17_2).f2), .string (⟨#[]⟩ : ByteArray), .slice none 0 0]) ?_ 3 _ rfl; (with_reducible repeat (first | refine blk_drewN ?_ _ | refine blk_drew ?_ | refine blk_alloc ?_ _)); refine blk_put (cs := #[.int .i64 ((rd_T33 l0 x17_2).f0), .bool ((rd_T33 l0 x17_2).f1), .string (⟨#[]⟩ : ByteArray), .string (⟨#[]⟩ : ByteArray), .slice none 0 0]) ?_ 2 _ rfl; (with_reducible repeat (first | refine blk_drewN ?_ _ | refine blk_drew ?_ | refine blk_alloc ?_ _)); refine blk_put (cs := #[.int .i64 ((rd_T33 l0 x17_2).f0), .bool false, .string (⟨#[]⟩ : ByteArray), .string (⟨#[]⟩ : ByteArray), .slice none 0 0]) ?_ 1 _ rfl; (with_reducible repeat (first | refine blk_drewN ?_ _ | refine blk_drew ?_ | refine blk_alloc ?_ _)); refine blk_put (cs := #[.int .i64 0, .bool false, .string (⟨#[]⟩ : ByteArray), .string (⟨#[]⟩ : ByteArray), .slice none 0 0]) ?_ 0 _ rfl; (with_reducible repeat (first | refine blk_drewN ?_ _ | refine blk_drew ?_ | refine blk_alloc ?_ _)); exact BK138.out⟩
                    have n1_ : Aside0 (Below w.heap.size w (((((w11.setCell ⟨gb138, 0, none⟩ (.int .i64 ((rd_T33 l0 x17_2).f0))).setCell ⟨gb138, 1, none⟩ (.bool ((rd_T33 l0 x17_2).f1))).setCell ⟨gb138, 2, none⟩ (.string ((rd_T33 l0 x17_2).f2))).setCell ⟨gb138, 3, none⟩ (.string ((rd_T33 l0 x17_2).f3))).setCell ⟨gb138, 4, none⟩ (.slice A137_4 ((rd_T33 l0 x17_2).f4).length c137_4))) := ⟨by repeat (first | (with_reducible first | exact HB.out | apply below_alloc | apply pw_below_drewN | apply below_drew1 | refine below_set ?_ GE138.out) | exact HB.out)⟩
                    (try clear BK138)
                    (try clear HB)
                    generalize (((((w11.setCell ⟨gb138, 0, none⟩ (.int .i64 ((rd_T33 l0 x17_2).f0))).setCell ⟨gb138, 1, none⟩ (.bool ((rd_T33 l0 x17_2).f1))).setCell ⟨gb138, 2, none⟩ (.string ((rd_T33 l0 x17_2).f2))).setCell ⟨gb138, 3, none⟩ (.string ((rd_T33 l0 x17_2).f3))).setCell ⟨gb138, 4, none⟩ (.slice A137_4 ((rd_T33 l0 x17_2).f4).length c137_4)) = w13 at n0_ n1_ ⊢
                    have BK138 := n0_
                    have HB := n1_
                    clear n0_ n1_
                    have n0_ := Aside0.mk (blk_drew BK138.out)
                    have n1_ := Aside0.mk (below_drew1 HB.out)
                    clear BK138
                    clear HB
                    have BK138 := n0_
                    have HB := n1_
                    clear n0_ n1_
                    refine start_ (n := 17) (S := fun w' => w'.cell? ⟨gb138, 0, none⟩ = some (.int .i64 ((rd_T33 l0 x17_2).f0)) ∧ w'.cell? ⟨gb138, 1, none⟩ = some (.bool ((rd_T33 l0 x17_2).f1)) ∧ w'.cell? ⟨gb138, 2, none⟩ = some (.string ((rd_T33 l0 x17_2).f2)) ∧ w'.cell? ⟨gb138, 3, none⟩ = some (.string ((rd_T33 l0 x17_2).f3)) ∧ w'.cell? ⟨gb138, 4, none⟩ = some (.slice A137_4 ((rd_T33 l0 x17_2).f4).length c137_4)) (ds := []) #[false, false, false, false, false, false, false, false, false, false, false, false, false, false, false, false, false] (by kernel_rfl) rfl rfl ⟨(blk_cell BK138.out 0).trans rfl, (blk_cell BK138.out 1).trans rfl, (blk_cell BK138.out 2).trans rfl, (blk_cell BK138.out 3).trans rfl, (blk_cell BK138.out 4).trans rfl⟩ (fun hHeld => ?_); refine with_tabW deadfallref03_Weight.tab7 deadfallref03_Weight.bits7 (fun HT_ HW_ => ?_)
                    generalize w13.drew = w14 at BK138 HB hHeld ⊢
                    refine pure_ (i := 0) (N := some 21) (v := ?_) (a' := ?_) #[true, false, false, false, false, false, false, false, false, false, false, false, false, false, false, false, false] rfl rfl (any_of HT_.out (by kernel_rfl)) (fun _ _ _ h => h) (Or.inl ⟨by rfl, ?_⟩) ?_ ?_
                    rotate_left
                    · intro w'
                      go_simp
                      with_reducible rfl
                    rotate_left
                    · simp only [Act.put, List.setIfInBounds_toArray, List.set_cons_zero, List.set_cons_succ, i64_w, i32_w]
                      rfl
                    refine pure_ (i := 1) (N := some 22) (v := ?_) (a' := ?_) #[true, true, false, false, false, false, false, false, false, false, false, false, false, false, false, false, false] rfl rfl (any_of HT_.out (by kernel_rfl)) (fun _ _ _ h => h) (Or.inl ⟨by rfl, ?_⟩) ?_ ?_
                    rotate_left
                    · intro w'
                      go_simp
                      with_reducible rfl
                    rotate_left
                    · simp only [Act.put, List.setIfInBounds_toArray, List.set_cons_zero, List.set_cons_succ, i64_w, i32_w]
                      rfl
                    refine pure_ (i := 5) (N := some 26) (v := ?_) (a' := ?_) #[true, true, false, false, false, true, false, false, false, false, false, false, false, false, false, false, false] rfl rfl (any_of HT_.out (by kernel_rfl)) (fun _ _ _ h => h) (Or.inl ⟨by rfl, ?_⟩) ?_ ?_
                    rotate_left
                    · intro w'
                      go_simp
                      with_reducible rfl
                    rotate_left
                    · simp only [Act.put, List.setIfInBounds_toArray, List.set_cons_zero, List.set_cons_succ, i64_w, i32_w]
                      rfl
                    refine pure_ (i := 9) (N := some 30) (v := ?_) (a' := ?_) #[true, true, false, false, false, true, false, false, false, true, false, false, false, false, false, false, false] rfl rfl (any_of HT_.out (by kernel_rfl)) (fun _ _ _ h => h) (Or.inl ⟨by rfl, ?_⟩) ?_ ?_
                    rotate_left
                    · intro w'
                      go_simp
                      with_reducible rfl
                    rotate_left
                    · simp only [Act.put, List.setIfInBounds_toArray, List.set_cons_zero, List.set_cons_succ, i64_w, i32_w]
                      rfl
                    refine pure_ (i := 11) (N := some 32) (v := ?_) (a' := ?_) #[true, true, false, false, false, true, false, false, false, true, false, true, false, false, false, false, false] rfl rfl (any_of HT_.out (by kernel_rfl)) (fun _ _ _ h => h) (Or.inl ⟨by rfl, ?_⟩) ?_ ?_
                    rotate_left
                    · intro w'
                      go_simp
                      with_reducible rfl
                    rotate_left
                    · simp only [Act.put, List.setIfInBounds_toArray, List.set_cons_zero, List.set_cons_succ, i64_w, i32_w]
                      rfl
                    refine pure_ (i := 12) (N := some 33) (v := ?_) (a' := ?_) #[true, true, false, false, false, true, false, false, false, true, false, true, true, false, false, false, false] rfl rfl (any_of HT_.out (by kernel_rfl)) (fun _ _ _ h => h) (Or.inl ⟨by rfl, ?_⟩) ?_ ?_
                    rotate_left
                    · intro w'
                      go_simp
                      with_reducible rfl
                    rotate_left
                    · simp only [Act.put, List.setIfInBounds_toArray, List.set_cons_zero, List.set_cons_succ, i64_w, i32_w]
                      rfl
                    refine take_ (i := 2) (N := some 23) (v := ?_) (a' := ?_) #[true, true, true, false, false, true, false, false, false, true, false, true, true, false, false, false, false] rfl rfl (take_ofW HT_.out HW_.out (by kernel_rfl)) (fun _ _ _ h => h) (Or.inl ⟨by rfl, ?_⟩) hHeld ?_ ?_
                    rotate_left
                    · rintro w' ⟨s0, s1, s2, s3, s4⟩
                      go_simp
                      with_reducible rfl
                    rotate_left
                    · simp only [Act.put, List.setIfInBounds_toArray, List.set_cons_zero, List.set_cons_succ, i64_w, i32_w]
                      rfl
                    refine pure_ (i := 3) (N := some 24) (v := ?_) (a' := ?_) #[true, true, true, true, false, true, false, false, false, true, false, true, true, false, false, false, false] rfl rfl (any_of HT_.out (by kernel_rfl)) (fun _ _ _ h => h) (Or.inl ⟨by rfl, ?_⟩) ?_ ?_
                    rotate_left
                    · intro w'
                      go_simp
                      with_reducible rfl
                    rotate_left
                    · simp only [Act.put, List.setIfInBounds_toArray, List.set_cons_zero, List.set_cons_succ, i64_w, i32_w]
                      rfl
                    refine pure_ (i := 4) (N := some 25) (v := ?_) (a' := ?_) #[true, true, true, true, true, true, false, false, false, true, false, true, true, false, false, false, false] rfl rfl (any_of HT_.out (by kernel_rfl)) (fun _ _ _ h => h) (Or.inl ⟨by rfl, ?_⟩) ?_ ?_
                    rotate_left
                    · intro w'
                      go_simp
                      with_reducible rfl
                    rotate_left
                    · simp only [Act.put, List.setIfInBounds_toArray, List.set_cons_zero, List.set_cons_succ, i64_w, i32_w]
                      rfl
                    refine take_ (i := 6) (N := some 27) (v := ?_) (a' := ?_) #[true, true, true, true, true, true, true, false, false, true, false, true, true, false, false, false, false] rfl rfl (take_ofW HT_.out HW_.out (by kernel_rfl)) (fun _ _ _ h => h) (Or.inl ⟨by rfl, ?_⟩) hHeld ?_ ?_
                    rotate_left
                    · rintro w' ⟨s0, s1, s2, s3, s4⟩
                      go_simp
                      with_reducible rfl
                    rotate_left
                    · simp only [Act.put, List.setIfInBounds_toArray, List.set_cons_zero, List.set_cons_succ, i64_w, i32_w]
                      rfl
                    refine pure_ (i := 7) (N := some 28) (v := ?_) (a' := ?_) #[true, true, true, true, true, true, true, true, false, true, false, true, true, false, false, false, false] rfl rfl (any_of HT_.out (by kernel_rfl)) (fun _ _ _ h => h) (Or.inl ⟨by rfl, ?_⟩) ?_ ?_
                    rotate_left
                    · intro w'
                      go_simp
                      with_reducible rfl
                    rotate_left
                    · simp only [Act.put, List.setIfInBounds_toArray, List.set_cons_zero, List.set_cons_succ, i64_w, i32_w]
                      rfl
                    refine pure_ (i := 8) (N := some 29) (v := ?_) (a' := ?_) #[true, true, true, true, true, true, true, true, true, true, false, true, true, false, false, false, false] rfl rfl (any_of HT_.out (by kernel_rfl)) (fun _ _ _ h => h) (Or.inl ⟨by rfl, ?_⟩) ?_ ?_
                    rotate_left
                    · intro w'
                      go_simp
                      with_reducible rfl
                    rotate_left
                    · simp only [Act.put, List.setIfInBounds_toArray, List.set_cons_zero, List.set_cons_succ, i64_w, i32_w]
                      rfl
                    refine take_ (i := 10) (N := some 31) (v := ?_) (a' := ?_) #[true, true, true, true, true, true, true, true, true, true, true, true, true, false, false, false, false] rfl rfl (take_ofW HT_.out HW_.out (by kernel_rfl)) (fun _ _ _ h => h) (Or.inl ⟨by rfl, ?_⟩) hHeld ?_ ?_
                    rotate_left
                    · rintro w' ⟨s0, s1, s2, s3, s4⟩
                      go_simp
                      with_reducible rfl
                    rotate_left
                    · simp only [Act.put, List.setIfInBounds_toArray, List.set_cons_zero, List.set_cons_succ, i64_w, i32_w]
                      rfl
                    refine one_ (i := 13) (N := some 34) #[true, true, true, true, true, true, true, true, true, true, true, true, true, true, false, false, false] rfl rfl (one_of HT_.out (by kernel_rfl)) (by decide) (fun K hK => ?_)
                    refine goes_ Tryd.func7 (by kernel_rfl) rfl #[.slice A137_4 ((rd_T33 l0 x17_2).f4).length c137_4, .int .i64 (wrap64 (a1 + 1))] (by rfl) rfl rfl (by (try simp only [List.map_toArray, List.map_cons, List.map_nil]); first | done | rfl | (simp only [List.length_drop, List.length_take]; rfl)) ?_
                    with_reducible refine (ih k2 (by have := HJ2.out; have := HK2.out; omega) _ _ ((rd_T33 l0 x17_2).f4) (wrap64 (a1 + 1)) t139 _ ?side1 ?side2 A9.out).mono ?_
                    (case side1 => repeat (first | exact (Kd.C_below HR137_4.out HB.out) | (with_reducible refine Kd.C_alloc ?_ _) | (with_reducible refine Kd.C_drewN ?_ _) | (with_reducible refine Kd.C_drew ?_)))
                    (case side2 => exact HC137_4.out)
                    rintro e w15 ⟨rfl, hb⟩
                    refine ⟨_, rfl, ?_⟩
                    have n0_ := Aside0.mk (blk_below (g := gb138) (o := .cells #[.int .i64 ((rd_T33 l0 x17_2).f0), .bool ((rd_T33 l0 x17_2).f1), .string ((rd_T33 l0 x17_2).f2), .string ((rd_T33 l0 x17_2).f3), .slice A137_4 ((rd_T33 l0 x17_2).f4).length c137_4] 33 (0, 0)) (by (with_reducible repeat (first | refine blk_drewN ?_ _ | refine blk_drew ?_ | refine blk_alloc ?_ _)); exact BK138.out) hb)
                    have n1_ := Aside0.mk (below_step (by repeat (first | (with_reducible first | exact HB.out | apply below_alloc | apply pw_below_drewN | apply below_drew1 | refine below_set ?_ GE138.out) | exact HB.out)) hb)
                    clear BK138
                    clear HB
                    have BK138 := n0_
                    have HB := n1_
                    clear n0_ n1_
                    (try clear hb)
                    (try clear hb2)
                    (try clear hk)
                    (try clear hi)
                    refine hK.out _ _ ⟨(blk_cell BK138.out 0).trans rfl, (blk_cell BK138.out 1).trans rfl, (blk_cell BK138.out 2).trans rfl, (blk_cell BK138.out 3).trans rfl, (blk_cell BK138.out 4).trans rfl⟩ (fun hHeld => ?_)
                    clear hK K
                    refine norm_ (a' := ?_) ?_ ?_
                    rotate_left
                    · show Act.put _ (some 34) _ = _
                      simp only [Act.put, List.setIfInBounds_toArray, List.set_cons_zero, List.set_cons_succ, i64_w, i32_w]
                      rfl
                    refine pure_ (i := 14) (N := some 35) (v := ?_) (a' := ?_) #[true, true, true, true, true, true, true, true, true, true, true, true, true, true, true, false, false] rfl rfl (any_of HT_.out (by kernel_rfl)) (fun _ _ _ h => h) (Or.inl ⟨by rfl, ?_⟩) ?_ ?_
                    rotate_left
                    · intro w'
                      go_simp
                      with_reducible rfl
                    rotate_left
                    · simp only [Act.put, List.setIfInBounds_toArray, List.set_cons_zero, List.set_cons_succ, i64_w, i32_w]
                      rfl
                    refine pure_ (i := 15) (N := some 36) (v := ?_) (a' := ?_) #[true, true, true, true, true, true, true, true, true, true, true, true, true, true, true, true, false] rfl rfl (any_of HT_.out (by kernel_rfl)) (fun _ _ _ h => h) (Or.inl ⟨by rfl, ?_⟩) ?_ ?_
                    rotate_left
                    · intro w'
                      go_simp
                      with_reducible rfl
                    rotate_left
                    · simp only [Act.put, List.setIfInBounds_toArray, List.set_cons_zero, List.set_cons_succ, i64_w, i32_w]
                      rfl
                    refine pure_ (i := 16) (N := some 5) (v := ?_) (a' := ?_) #[true, true, true, true, true, true, true, true, true, true, true, true, true, true, true, true, true] rfl rfl (any_of HT_.out (by kernel_rfl)) (fun _ _ _ h => h) (Or.inl ⟨by rfl, ?_⟩) ?_ ?_
                    rotate_left
                    · intro w'
                      go_simp
                      with_reducible rfl
                    rotate_left
                    · simp only [Act.put, List.setIfInBounds_toArray, List.set_cons_zero, List.set_cons_succ, i64_w, i32_w]
                      rfl
                    refine done_ (done_of HT_.out (by kernel_rfl)) ?_
                    try go_wp2
                    go_ret
                    exact ⟨by first | rfl | (simp [errW_none, errW_some] <;> rfl) | (simp [*, errW_none, errW_some] <;> rfl), by repeat (first | (with_reducible first | exact HB.out | apply below_alloc | apply pw_below_drewN | apply below_drew1 | refine below_set ?_ GE138.out) | exact HB.out)⟩
                  · rw [if_neg c10] at H
                    have c10b0 : decide (10000 < (wrap64 (x5_2 + (wrap64 ((wrap64 ((wrap64 (1 + (((rd_T33 l0 x17_2).f2).size : Int))) + (((rd_T33 l0 x17_2).f3).size : Int))) + t139))))) = false := decide_eq_false c10
                    clear c10
                    have H' := Aside0.mk H
                    clear H
                    have p137 : 0 ≤ (x17_2 : Int) := of_decide_eq_true (by first | (with_reducible assumption) | assumption)
                    have q137 : x17_2 < (l0.length : Int) := of_decide_eq_true (by first | (with_reducible assumption) | assumption)
                    obtain ⟨ad137, A137_4, c137_4, e137, hx137_0, hx137_1, hx137_2, hx137_3, hx137_4, hl137_4, hi137_4⟩ := at_T33 HR0.out x17_2 p137 q137
                    cases e137
                    replace hx137_0 := (HB.out.cell (World.block_lt_of_cell? w _ hx137_0)).trans hx137_0
                    replace hx137_1 := (HB.out.cell (World.block_lt_of_cell? w _ hx137_1)).trans hx137_1
                    replace hx137_2 := (HB.out.cell (World.block_lt_of_cell? w _ hx137_2)).trans hx137_2
                    replace hx137_3 := (HB.out.cell (World.block_lt_of_cell? w _ hx137_3)).trans hx137_3
                    replace hx137_4 := (HB.out.cell (World.block_lt_of_cell? w _ hx137_4)).trans hx137_4
                    have HR137_4 := Aside0.mk hi137_4
                    have HC137_4 := Aside0.mk hl137_4
                    clear hi137_4 hl137_4
                    replace p137 := eq_true p137
                    replace q137 := eq_true q137
                    try go_wp2_with (first | ((with_reducible refine gate_dst (N := 7) rfl ?_); (try (refine gate_guard (by rfl) ?_; dsimp only)); refine box_event ?hg (N := 7) ?hd (cs := #[.int .i64 0, .bool false, .string (⟨#[]⟩ : ByteArray), .string (⟨#[]⟩ : ByteArray), .slice none 0 0]) (t := 33) ?hr ?_; (case hd => rfl); (case hg => rfl); (case hr => first | (go_simp; done) | (go_simp; rfl)); intro gb138 hg w16 hbox hb; have n0_ := Aside0.mk (below_step (by repeat (first | (with_reducible first | exact HB.out | apply below_alloc | apply pw_below_drewN | apply below_drew1) | exact HB.out)) hb); have n1_ := Aside0.mk (hbox); have n2_ := Aside0.mk ((by rw [hg]; exact (below_size (by repeat (first | (with_reducible first | exact HB.out | apply below_alloc | apply pw_below_drewN | apply below_drew1) | exact HB.out))) : w.heap.size ≤ gb138)); have n3_ := Aside0.mk ((by rw [hg]; exact (below_size (by repeat (first | (with_reducible first | exact HB.out | apply below_alloc | apply pw_below_drewN | apply below_drew1) | exact HB.out))) : w.heap.size ≤ gb138)); clear HB; have HB := n0_; have BK138 := n1_; have GW138 := n2_; have GE138 := n3_; clear n0_ n1_ n2_ n3_; clear hb hbox hg; have hcz17_0 : w16.cell? ⟨gb138, 0, none⟩ = some (.int .i64 0) := (blk_cell BK138.out 0).trans rfl; have hcz17_1 : w16.cell? ⟨gb138, 1, none⟩ = some (.bool false) := (blk_cell BK138.out 1).trans rfl; have hcz17_2 : w16.cell? ⟨gb138, 2, none⟩ = some (.string (⟨#[]⟩ : ByteArray)) := (blk_cell BK138.out 2).trans rfl; have hcz17_3 : w16.cell? ⟨gb138, 3, none⟩ = some (.string (⟨#[]⟩ : ByteArray)) := (blk_cell BK138.out 3).trans rfl; have hcz17_4 : w16.cell? ⟨gb138, 4, none⟩ = some (.slice none 0 0) := (blk_cell BK138.out 4).trans rfl; have hfz17_0 := blk_frozen BK138.out 0; have hfz17_1 := blk_frozen BK138.out 1; have hfz17_2 := blk_frozen BK138.out 2; have hfz17_3 := blk_frozen BK138.out 3; have hfz17_4 := blk_frozen BK138.out 4))
                    have n0_ : Aside0 ((((((w16.setCell ⟨gb138, 0, none⟩ (.int .i64 ((rd_T33 l0 x17_2).f0))).setCell ⟨gb138, 1, none⟩ (.bool ((rd_T33 l0 x17_2).f1))).setCell ⟨gb138, 2, none⟩ (.string ((rd_T33 l0 x17_2).f2))).setCell ⟨gb138, 3, none⟩ (.string ((rd_T33 l0 x17_2).f3))).setCell ⟨gb138, 4, none⟩ (.slice A137_4 ((rd_T33 l0 x17_2).f4).length c137_4)).heap[gb138]? = some (.cells #[.int .i64 ((rd_T33 l0 x17_2).f0), .bool ((rd_T33 l0 x17_2).f1), .string ((rd_T33 l0 x17_2).f2), .string ((rd_T33 l0 x17_2).f3), .slice A137_4 ((rd_T33 l0 x17_2).f4).length c137_4] 33 (0, 0))) := ⟨by (with_reducible repeat (first | refine blk_drewN ?_ _ | refine blk_drew ?_ | refine blk_alloc ?_ _)); refine blk_put (cs := #[.int .i64 ((rd_T33 l0 x17_2).f0), .bool ((rd_T33 l0 x17_2).f1), .string ((rd_T33 l0 x17_2).f2), .string ((rd_T33 l0 x17_2).f3), .slice none 0 0]) ?_ 4 _ rfl; (with_reducible repeat (first | refine blk_drewN ?_ _ | refine blk_drew ?_ | refine blk_alloc ?_ _)); refine blk_put (cs := #[.int .i64 ((rd_T33 l0 x17_2).f0), .bool ((rd_T33 l0 x17_2).f1), .string ((rd_T33 l0 x17_2).f2), .string (⟨#[]⟩ : ByteArray), .slice none 0 0]) ?_ 3 _ rfl; (with_reducible repeat (first | refine blk_drewN ?_ _ | refine blk_drew ?_ | refine blk_alloc ?_ _)); refine blk_put (cs := #[.int .i64 ((rd_T33 l0 x17_2).f0), .bool ((rd_T33 l0 x17_2).f1), .string (⟨#[]⟩ : ByteArray), .string (⟨#[]⟩ : ByteArray), .slice none 0 0]) ?_ 2 _ rfl; (with_reducible repeat (first | refine blk_drewN ?_ _ | refine blk_drew ?_ | refine blk_alloc ?_ _)); refine blk_put (cs := #[.int .i64 ((rd_T33 l0 x17_2).f0), .bool false, .string (⟨#[]⟩ : ByteArray), .string (⟨#[]⟩ : ByteArray), .slice none 0 0]) ?_ 1 _ rfl; (with_reducible repeat (first | refine blk_drewN ?_ _ | refine blk_drew ?_ | refine blk_alloc ?_ _)); refine blk_put (cs := #[.int .i64 0, .bool false, .string (⟨#[]⟩ : ByteArray), .string (⟨#[]⟩ : ByteArray), .slice none 0 0]) ?_ 0 _ rfl; (with_reducible repeat (first | refine blk_drewN ?_ _ | refine blk_drew ?_ | refine blk_alloc ?_ _)); exact BK138.out⟩
                    have n1_ : Aside0 (Below w.heap.size w (((((w16.setCell ⟨gb138, 0, none⟩ (.int .i64 ((rd_T33 l0 x17_2).f0))).setCell ⟨gb138, 1, none⟩ (.bool ((rd_T33 l0 x17_2).f1))).setCell ⟨gb138, 2, none⟩ (.string ((rd_T33 l0 x17_2).f2))).setCell ⟨gb138, 3, none⟩ (.string ((rd_T33 l0 x17_2).f3))).setCell ⟨gb138, 4, none⟩ (.slice A137_4 ((rd_T33 l0 x17_2).f4).length c137_4))) := ⟨by repeat (first | (with_reducible first | exact HB.out | apply below_alloc | apply pw_below_drewN | apply below_drew1 | refine below_set ?_ GE138.out) | exact HB.out)⟩
                    (try clear BK138)
                    (try clear HB)
                    generalize (((((w16.setCell ⟨gb138, 0, none⟩ (.int .i64 ((rd_T33 l0 x17_2).f0))).setCell ⟨gb138, 1, none⟩ (.bool ((rd_T33 l0 x17_2).f1))).setCell ⟨gb138, 2, none⟩ (.string ((rd_T33 l0 x17_2).f2))).setCell ⟨gb138, 3, none⟩ (.string ((rd_T33 l0 x17_2).f3))).setCell ⟨gb138, 4, none⟩ (.slice A137_4 ((rd_T33 l0 x17_2).f4).length c137_4)) = w18 at n0_ n1_ ⊢
                    have BK138 := n0_
                    have HB := n1_
                    clear n0_ n1_
                    have n0_ := Aside0.mk (blk_drew BK138.out)
                    have n1_ := Aside0.mk (below_drew1 HB.out)
                    clear BK138
                    clear HB
                    have BK138 := n0_
                    have HB := n1_
                    clear n0_ n1_
                    refine start_ (n := 17) (S := fun w' => w'.cell? ⟨gb138, 0, none⟩ = some (.int .i64 ((rd_T33 l0 x17_2).f0)) ∧ w'.cell? ⟨gb138, 1, none⟩ = some (.bool ((rd_T33 l0 x17_2).f1)) ∧ w'.cell? ⟨gb138, 2, none⟩ = some (.string ((rd_T33 l0 x17_2).f2)) ∧ w'.cell? ⟨gb138, 3, none⟩ = some (.string ((rd_T33 l0 x17_2).f3)) ∧ w'.cell? ⟨gb138, 4, none⟩ = some (.slice A137_4 ((rd_T33 l0 x17_2).f4).length c137_4)) (ds := []) #[false, false, false, false, false, false, false, false, false, false, false, false, false, false, false, false, false] (by kernel_rfl) rfl rfl ⟨(blk_cell BK138.out 0).trans rfl, (blk_cell BK138.out 1).trans rfl, (blk_cell BK138.out 2).trans rfl, (blk_cell BK138.out 3).trans rfl, (blk_cell BK138.out 4).trans rfl⟩ (fun hHeld => ?_); refine with_tabW deadfallref03_Weight.tab7 deadfallref03_Weight.bits7 (fun HT_ HW_ => ?_)
                    generalize w18.drew = w19 at BK138 HB hHeld ⊢
                    refine pure_ (i := 0) (N := some 21) (v := ?_) (a' := ?_) #[true, false, false, false, false, false, false, false, false, false, false, false, false, false, false, false, false] rfl rfl (any_of HT_.out (by kernel_rfl)) (fun _ _ _ h => h) (Or.inl ⟨by rfl, ?_⟩) ?_ ?_
                    rotate_left
                    · intro w'
                      go_simp
                      with_reducible rfl
                    rotate_left
                    · simp only [Act.put, List.setIfInBounds_toArray, List.set_cons_zero, List.set_cons_succ, i64_w, i32_w]
                      rfl
                    refine pure_ (i := 1) (N := some 22) (v := ?_) (a' := ?_) #[true, true, false, false, false, false, false, false, false, false, false, false, false, false, false, false, false] rfl rfl (any_of HT_.out (by kernel_rfl)) (fun _ _ _ h => h) (Or.inl ⟨by rfl, ?_⟩) ?_ ?_
                    rotate_left
                    · intro w'
                      go_simp
                      with_reducible rfl
                    rotate_left
                    · simp only [Act.put, List.setIfInBounds_toArray, List.set_cons_zero, List.set_cons_succ, i64_w, i32_w]
                      rfl
                    refine pure_ (i := 5) (N := some 26) (v := ?_) (a' := ?_) #[true, true, false, false, false, true, false, false, false, false, false, false, false, false, false, false, false] rfl rfl (any_of HT_.out (by kernel_rfl)) (fun _ _ _ h => h) (Or.inl ⟨by rfl, ?_⟩) ?_ ?_
                    rotate_left
                    · intro w'
                      go_simp
                      with_reducible rfl
                    rotate_left
                    · simp only [Act.put, List.setIfInBounds_toArray, List.set_cons_zero, List.set_cons_succ, i64_w, i32_w]
                      rfl
                    refine pure_ (i := 9) (N := some 30) (v := ?_) (a' := ?_) #[true, true, false, false, false, true, false, false, false, true, false, false, false, false, false, false, false] rfl rfl (any_of HT_.out (by kernel_rfl)) (fun _ _ _ h => h) (Or.inl ⟨by rfl, ?_⟩) ?_ ?_
                    rotate_left
                    · intro w'
                      go_simp
                      with_reducible rfl
                    rotate_left
                    · simp only [Act.put, List.setIfInBounds_toArray, List.set_cons_zero, List.set_cons_succ, i64_w, i32_w]
                      rfl
                    refine pure_ (i := 11) (N := some 32) (v := ?_) (a' := ?_) #[true, true, false, false, false, true, false, false, false, true, false, true, false, false, false, false, false] rfl rfl (any_of HT_.out (by kernel_rfl)) (fun _ _ _ h => h) (Or.inl ⟨by rfl, ?_⟩) ?_ ?_
                    rotate_left
                    · intro w'
                      go_simp
                      with_reducible rfl
                    rotate_left
                    · simp only [Act.put, List.setIfInBounds_toArray, List.set_cons_zero, List.set_cons_succ, i64_w, i32_w]
                      rfl
                    refine pure_ (i := 12) (N := some 33) (v := ?_) (a' := ?_) #[true, true, false, false, false, true, false, false, false, true, false, true, true, false, false, false, false] rfl rfl (any_of HT_.out (by kernel_rfl)) (fun _ _ _ h => h) (Or.inl ⟨by rfl, ?_⟩) ?_ ?_
                    rotate_left
                    · intro w'
                      go_simp
                      with_reducible rfl
                    rotate_left
                    · simp only [Act.put, List.setIfInBounds_toArray, List.set_cons_zero, List.set_cons_succ, i64_w, i32_w]
                      rfl
                    refine take_ (i := 2) (N := some 23) (v := ?_) (a' := ?_) #[true, true, true, false, false, true, false, false, false, true, false, true, true, false, false, false, false] rfl rfl (take_ofW HT_.out HW_.out (by kernel_rfl)) (fun _ _ _ h => h) (Or.inl ⟨by rfl, ?_⟩) hHeld ?_ ?_
                    rotate_left
                    · rintro w' ⟨s0, s1, s2, s3, s4⟩
                      go_simp
                      with_reducible rfl
                    rotate_left
                    · simp only [Act.put, List.setIfInBounds_toArray, List.set_cons_zero, List.set_cons_succ, i64_w, i32_w]
                      rfl
                    refine pure_ (i := 3) (N := some 24) (v := ?_) (a' := ?_) #[true, true, true, true, false, true, false, false, false, true, false, true, true, false, false, false, false] rfl rfl (any_of HT_.out (by kernel_rfl)) (fun _ _ _ h => h) (Or.inl ⟨by rfl, ?_⟩) ?_ ?_
                    rotate_left
                    · intro w'
                      go_simp
                      with_reducible rfl
                    rotate_left
                    · simp only [Act.put, List.setIfInBounds_toArray, List.set_cons_zero, List.set_cons_succ, i64_w, i32_w]
                      rfl
                    refine pure_ (i := 4) (N := some 25) (v := ?_) (a' := ?_) #[true, true, true, true, true, true, false, false, false, true, false, true, true, false, false, false, false] rfl rfl (any_of HT_.out (by kernel_rfl)) (fun _ _ _ h => h) (Or.inl ⟨by rfl, ?_⟩) ?_ ?_
                    rotate_left
                    · intro w'
                      go_simp
                      with_reducible rfl
                    rotate_left
                    · simp only [Act.put, List.setIfInBounds_toArray, List.set_cons_zero, List.set_cons_succ, i64_w, i32_w]
                      rfl
                    refine take_ (i := 6) (N := some 27) (v := ?_) (a' := ?_) #[true, true, true, true, true, true, true, false, false, true, false, true, true, false, false, false, false] rfl rfl (take_ofW HT_.out HW_.out (by kernel_rfl)) (fun _ _ _ h => h) (Or.inl ⟨by rfl, ?_⟩) hHeld ?_ ?_
                    rotate_left
                    · rintro w' ⟨s0, s1, s2, s3, s4⟩
                      go_simp
                      with_reducible rfl
                    rotate_left
                    · simp only [Act.put, List.setIfInBounds_toArray, List.set_cons_zero, List.set_cons_succ, i64_w, i32_w]
                      rfl
                    refine pure_ (i := 7) (N := some 28) (v := ?_) (a' := ?_) #[true, true, true, true, true, true, true, true, false, true, false, true, true, false, false, false, false] rfl rfl (any_of HT_.out (by kernel_rfl)) (fun _ _ _ h => h) (Or.inl ⟨by rfl, ?_⟩) ?_ ?_
                    rotate_left
                    · intro w'
                      go_simp
                      with_reducible rfl
                    rotate_left
                    · simp only [Act.put, List.setIfInBounds_toArray, List.set_cons_zero, List.set_cons_succ, i64_w, i32_w]
                      rfl
                    refine pure_ (i := 8) (N := some 29) (v := ?_) (a' := ?_) #[true, true, true, true, true, true, true, true, true, true, false, true, true, false, false, false, false] rfl rfl (any_of HT_.out (by kernel_rfl)) (fun _ _ _ h => h) (Or.inl ⟨by rfl, ?_⟩) ?_ ?_
                    rotate_left
                    · intro w'
                      go_simp
                      with_reducible rfl
                    rotate_left
                    · simp only [Act.put, List.setIfInBounds_toArray, List.set_cons_zero, List.set_cons_succ, i64_w, i32_w]
                      rfl
                    refine take_ (i := 10) (N := some 31) (v := ?_) (a' := ?_) #[true, true, true, true, true, true, true, true, true, true, true, true, true, false, false, false, false] rfl rfl (take_ofW HT_.out HW_.out (by kernel_rfl)) (fun _ _ _ h => h) (Or.inl ⟨by rfl, ?_⟩) hHeld ?_ ?_
                    rotate_left
                    · rintro w' ⟨s0, s1, s2, s3, s4⟩
                      go_simp
                      with_reducible rfl
                    rotate_left
                    · simp only [Act.put, List.setIfInBounds_toArray, List.set_cons_zero, List.set_cons_succ, i64_w, i32_w]
                      rfl
                    refine one_ (i := 13) (N := some 34) #[true, true, true, true, true, true, true, true, true, true, true, true, true, true, false, false, false] rfl rfl (one_of HT_.out (by kernel_rfl)) (by decide) (fun K hK => ?_)
                    refine goes_ Tryd.func7 (by kernel_rfl) rfl #[.slice A137_4 ((rd_T33 l0 x17_2).f4).length c137_4, .int .i64 (wrap64 (a1 + 1))] (by rfl) rfl rfl (by (try simp only [List.map_toArray, List.map_cons, List.map_nil]); first | done | rfl | (simp only [List.length_drop, List.length_take]; rfl)) ?_
                    with_reducible refine (ih k2 (by have := HJ2.out; have := HK2.out; omega) _ _ ((rd_T33 l0 x17_2).f4) (wrap64 (a1 + 1)) t139 _ ?side1 ?side2 A9.out).mono ?_
                    (case side1 => repeat (first | exact (Kd.C_below HR137_4.out HB.out) | (with_reducible refine Kd.C_alloc ?_ _) | (with_reducible refine Kd.C_drewN ?_ _) | (with_reducible refine Kd.C_drew ?_)))
                    (case side2 => exact HC137_4.out)
                    rintro e w20 ⟨rfl, hb⟩
                    refine ⟨_, rfl, ?_⟩
                    have n0_ := Aside0.mk (blk_below (g := gb138) (o := .cells #[.int .i64 ((rd_T33 l0 x17_2).f0), .bool ((rd_T33 l0 x17_2).f1), .string ((rd_T33 l0 x17_2).f2), .string ((rd_T33 l0 x17_2).f3), .slice A137_4 ((rd_T33 l0 x17_2).f4).length c137_4] 33 (0, 0)) (by (with_reducible repeat (first | refine blk_drewN ?_ _ | refine blk_drew ?_ | refine blk_alloc ?_ _)); exact BK138.out) hb)
                    have n1_ := Aside0.mk (below_step (by repeat (first | (with_reducible first | exact HB.out | apply below_alloc | apply pw_below_drewN | apply below_drew1 | refine below_set ?_ GE138.out) | exact HB.out)) hb)
                    clear BK138
                    clear HB
                    have BK138 := n0_
                    have HB := n1_
                    clear n0_ n1_
                    (try clear hb)
                    (try clear hb2)
                    (try clear hk)
                    (try clear hi)
                    refine hK.out _ _ ⟨(blk_cell BK138.out 0).trans rfl, (blk_cell BK138.out 1).trans rfl, (blk_cell BK138.out 2).trans rfl, (blk_cell BK138.out 3).trans rfl, (blk_cell BK138.out 4).trans rfl⟩ (fun hHeld => ?_)
                    clear hK K
                    refine norm_ (a' := ?_) ?_ ?_
                    rotate_left
                    · show Act.put _ (some 34) _ = _
                      simp only [Act.put, List.setIfInBounds_toArray, List.set_cons_zero, List.set_cons_succ, i64_w, i32_w]
                      rfl
                    refine pure_ (i := 14) (N := some 35) (v := ?_) (a' := ?_) #[true, true, true, true, true, true, true, true, true, true, true, true, true, true, true, false, false] rfl rfl (any_of HT_.out (by kernel_rfl)) (fun _ _ _ h => h) (Or.inl ⟨by rfl, ?_⟩) ?_ ?_
                    rotate_left
                    · intro w'
                      go_simp
                      with_reducible rfl
                    rotate_left
                    · simp only [Act.put, List.setIfInBounds_toArray, List.set_cons_zero, List.set_cons_succ, i64_w, i32_w]
                      rfl
                    refine pure_ (i := 15) (N := some 36) (v := ?_) (a' := ?_) #[true, true, true, true, true, true, true, true, true, true, true, true, true, true, true, true, false] rfl rfl (any_of HT_.out (by kernel_rfl)) (fun _ _ _ h => h) (Or.inl ⟨by rfl, ?_⟩) ?_ ?_
                    rotate_left
                    · intro w'
                      go_simp
                      with_reducible rfl
                    rotate_left
                    · simp only [Act.put, List.setIfInBounds_toArray, List.set_cons_zero, List.set_cons_succ, i64_w, i32_w]
                      rfl
                    refine pure_ (i := 16) (N := some 5) (v := ?_) (a' := ?_) #[true, true, true, true, true, true, true, true, true, true, true, true, true, true, true, true, true] rfl rfl (any_of HT_.out (by kernel_rfl)) (fun _ _ _ h => h) (Or.inl ⟨by rfl, ?_⟩) ?_ ?_
                    rotate_left
                    · intro w'
                      go_simp
                      with_reducible rfl
                    rotate_left
                    · simp only [Act.put, List.setIfInBounds_toArray, List.set_cons_zero, List.set_cons_succ, i64_w, i32_w]
                      rfl
                    refine done_ (done_of HT_.out (by kernel_rfl)) ?_
                    try go_wp2
                    go_roundg k2
                    case measure => have := HJ2.out; have := HK2.out; omega
                    case rel => exact ⟨(wrap64 (x5_2 + (wrap64 ((wrap64 ((wrap64 (1 + (((rd_T33 l0 x17_2).f2).size : Int))) + (((rd_T33 l0 x17_2).f3).size : Int))) + t139)))), (wrap64 (x17_2 + 1)), (by first | rfl | (simp; done) | (simp [*]; done)), (by first | rfl | (simp; done) | (simp [*]; done)), H', ⟨by have := HJ2.out; have := HK2.out; omega⟩, ⟨by repeat (first | (with_reducible first | exact HB.out | apply below_alloc | apply pw_below_drewN | apply below_drew1 | refine below_set ?_ GE138.out) | exact HB.out)⟩⟩
                · rw [if_neg c8] at H
                  exact absurd H (by simp)
              · rw [if_neg c7] at H
                exact absurd H (by simp)
            · rw [if_neg c6] at H
              have c6b0 : decide (x17_2 < (l0.length : Int)) = false := decide_eq_false c6
              clear c6
              obtain rfl := Option.some.inj H
              go_wp2
              go_ret
              exact ⟨by first | rfl | (simp [errW_none, errW_some] <;> rfl) | (simp [*, errW_none, errW_some] <;> rfl), by repeat (first | (with_reducible first | exact HB.out | apply below_alloc | apply pw_below_drewN | apply below_drew1) | exact HB.out)⟩

end Go.Proofs.YtkecpfjmdokieaaDoor.P
-- printed by a program of this session (wip/pp): a Lean function and a proof for each Go function
namespace Go.Proofs.YtkecpfjmdokieaaDoor.P
open Go.RowKit Go.Proofs.YtkecpfjmdokieaaDoorW.PrintWords Go.Proofs.YtkecpfjmdokieaaDoorW.PrintLast Go.Proofs.YtkecpfjmdokieaaDoorW.PrintMore
attribute [local go_sem] max2_int min2_int max_two min_two max_three min_three max_four min_four   -- for this text's walks alone
set_option linter.unusedVariables false
set_option linter.unusedSimpArgs false

/-! ### word_Plain: function 16 -/
def word_Plain.f (l0 : List (S33)) : Option (ByteArray × Bool) := if (l0.length : Int) = 1 then (if 0 < (l0.length : Int) then (if ((rd_T33 l0 0).f0) = 1 then (if (rd_T33 l0 0).f1 = true then (some ((⟨#[]⟩ : ByteArray), false)) else (some ((rd_T33 l0 0).f2, true))) else (some ((⟨#[]⟩ : ByteArray), false))) else (none)) else (some ((⟨#[]⟩ : ByteArray), false))
set_option maxHeartbeats 8000000 in
set_option maxRecDepth 100000 in
theorem word_Plain.calls (A0 : Option Addr) (c0 : Nat) (l0 : List (S33)) (r1 : ByteArray) (r2 : Bool) (w : World) (hr0 : Kd.C k33 w A0 l0.length l0) (hc0 : l0.length ≤ c0) (h : word_Plain.f l0 = some (r1, r2)) :
    Calls Tryd.prog 16 #[.slice A0 l0.length c0] w fun e w' => e = .returned (.tuple #[.string r1, .bool r2]) ∧ Drawn0 w w' := by
  have HR0 := Aside0.mk hr0
  have HC0 := Aside0.mk hc0
  clear hr0 hc0
  have H : (if (l0.length : Int) = 1 then (if 0 < (l0.length : Int) then (if ((rd_T33 l0 0).f0) = 1 then (if (rd_T33 l0 0).f1 = true then (some ((⟨#[]⟩ : ByteArray), false)) else (some ((rd_T33 l0 0).f2, true))) else (some ((⟨#[]⟩ : ByteArray), false))) else (none)) else (some ((⟨#[]⟩ : ByteArray), false))) = some (r1, r2) := h
  clear h
  by_cases c2 : (l0.length : Int) = 1
  · rw [if_pos c2] at H
    have c2b0 : ((l0.length : Int) == 1) = true := beq_iff_eq.mpr c2
    have c2b1 : ((l0.length : Int) != 1) = false := bne_eq_false_iff_eq.mpr c2
    clear c2
    by_cases c3 : 0 < (l0.length : Int)
    · rw [if_pos c3] at H
      have c3b0 : decide (0 < (l0.length : Int)) = true := decide_eq_true c3
      have c3b1 : decide (0 < l0.length) = true := decide_eq_true (by omega)
      clear c3
      by_cases c4 : ((rd_T33 l0 0).f0) = 1
      · rw [if_pos c4] at H
        have c4b0 : (((rd_T33 l0 0).f0) == 1) = true := beq_iff_eq.mpr c4
        have c4b1 : (((rd_T33 l0 0).f0) != 1) = false := bne_eq_false_iff_eq.mpr c4
        clear c4
        obtain ⟨bq5, hbq5⟩ : ∃ b_ : Bool, b_ = ((rd_T33 l0 0).f1) := ⟨_, rfl⟩
        replace H : (if bq5 = true then (some ((⟨#[]⟩ : ByteArray), false)) else (some ((rd_T33 l0 0).f2, true))) = some (r1, r2) := by rw [← hbq5] at H; exact H
        have Nbq5 := Aside0.mk hbq5
        clear hbq5
        by_cases c6 : bq5 = true
        · subst c6
          have H1 : (some ((⟨#[]⟩ : ByteArray), false)) = some (r1, r2) := by rw [if_pos rfl] at H; exact H
          clear H
          have H := H1
          clear H1
          simp only [Option.some.injEq, Prod.mk.injEq] at H
          obtain ⟨rfl, rfl⟩ := H
          have p140 : 0 ≤ (0 : Int) := (by omega)
          have q140 : 0 < (l0.length : Int) := of_decide_eq_true (by first | (with_reducible assumption) | assumption)
          obtain ⟨ad140, A140_4, c140_4, e140, hx140_0, hx140_1, hx140_2, hx140_3, hx140_4, hl140_4, hi140_4⟩ := at_T33 HR0.out 0 p140 q140
          (try rw [← Nbq5.out] at hx140_1)
          cases e140
          have qi140 : (0 < l0.length) = True := eq_true (by omega)
          (try rw [show ((0 : Int)).toNat = 0 from rfl] at hx140_0)
          (try rw [show 0 * 5 = 0 from rfl] at hx140_0)
          (try rw [Addr.add_zero'] at hx140_0)
          (try rw [show ((0 : Int)).toNat = 0 from rfl] at hx140_1)
          (try rw [show 0 * 5 = 0 from rfl] at hx140_1)
          (try rw [Addr.add_zero'] at hx140_1)
          (try rw [show ((0 : Int)).toNat = 0 from rfl] at hx140_2)
          (try rw [show 0 * 5 = 0 from rfl] at hx140_2)
          (try rw [Addr.add_zero'] at hx140_2)
          (try rw [show ((0 : Int)).toNat = 0 from rfl] at hx140_3)
          (try rw [show 0 * 5 = 0 from rfl] at hx140_3)
          (try rw [Addr.add_zero'] at hx140_3)
          (try rw [show ((0 : Int)).toNat = 0 from rfl] at hx140_4)
          (try rw [show 0 * 5 = 0 from rfl] at hx140_4)
          (try rw [Addr.add_zero'] at hx140_4)
          have HR140_4 := Aside0.mk hi140_4
          have HC140_4 := Aside0.mk hl140_4
          clear hi140_4 hl140_4
          replace p140 := eq_true p140
          replace q140 := eq_true q140
          have p141 : 0 ≤ (0 : Int) := (by omega)
          have q141 : 0 < (l0.length : Int) := of_decide_eq_true (by first | (with_reducible assumption) | assumption)
          obtain ⟨ad141, A141_4, c141_4, e141, hx141_0, hx141_1, hx141_2, hx141_3, hx141_4, hl141_4, hi141_4⟩ := at_T33 HR0.out 0 p141 q141
          (try rw [← Nbq5.out] at hx141_1)
          obtain rfl : ad140 = ad141 := (by injection e141)
          have qi141 : (0 < l0.length) = True := eq_true (by omega)
          (try rw [show ((0 : Int)).toNat = 0 from rfl] at hx141_0)
          (try rw [show 0 * 5 = 0 from rfl] at hx141_0)
          (try rw [Addr.add_zero'] at hx141_0)
          (try rw [show ((0 : Int)).toNat = 0 from rfl] at hx141_1)
          (try rw [show 0 * 5 = 0 from rfl] at hx141_1)
          (try rw [Addr.add_zero'] at hx141_1)
          (try rw [show ((0 : Int)).toNat = 0 from rfl] at hx141_2)
          (try rw [show 0 * 5 = 0 from rfl] at hx141_2)
          (try rw [Addr.add_zero'] at hx141_2)
          (try rw [show ((0 : Int)).toNat = 0 from rfl] at hx141_3)
          (try rw [show 0 * 5 = 0 from rfl] at hx141_3)
          (try rw [Addr.add_zero'] at hx141_3)
          (try rw [show ((0 : Int)).toNat = 0 from rfl] at hx141_4)
          (try rw [show 0 * 5 = 0 from rfl] at hx141_4)
          (try rw [Addr.add_zero'] at hx141_4)
          have HR141_4 := Aside0.mk hi141_4
          have HC141_4 := Aside0.mk hl141_4
          clear hi141_4 hl141_4
          replace p141 := eq_true p141
          replace q141 := eq_true q141
          have ea_ := Option.some.inj (hx140_4.symm.trans hx141_4)
          injection ea_ with ea_ en_ ec_
          subst ea_
          subst ec_
          clear en_
          go_enter Tryd.func16, Tryd.ntmps16
          go_wp2
          go_ret2
          exact ⟨by first | rfl | (simp; done) | (simp [*]; done), by repeat (first | exact Drawn0.refl _ | apply Drawn0.step)⟩
        · replace c6 := Bool.eq_false_iff.mpr c6
          subst c6
          have H1 : (some ((rd_T33 l0 0).f2, true)) = some (r1, r2) := by rw [if_neg (show ¬ (false = true) by decide)] at H; exact H
          clear H
          have H := H1
          clear H1
          simp only [Option.some.injEq, Prod.mk.injEq] at H
          obtain ⟨rfl, rfl⟩ := H
          have p140 : 0 ≤ (0 : Int) := (by omega)
          have q140 : 0 < (l0.length : Int) := of_decide_eq_true (by first | (with_reducible assumption) | assumption)
          obtain ⟨ad140, A140_4, c140_4, e140, hx140_0, hx140_1, hx140_2, hx140_3, hx140_4, hl140_4, hi140_4⟩ := at_T33 HR0.out 0 p140 q140
          (try rw [← Nbq5.out] at hx140_1)
          cases e140
          have qi140 : (0 < l0.length) = True := eq_true (by omega)
          (try rw [show ((0 : Int)).toNat = 0 from rfl] at hx140_0)
          (try rw [show 0 * 5 = 0 from rfl] at hx140_0)
          (try rw [Addr.add_zero'] at hx140_0)
          (try rw [show ((0 : Int)).toNat = 0 from rfl] at hx140_1)
          (try rw [show 0 * 5 = 0 from rfl] at hx140_1)
          (try rw [Addr.add_zero'] at hx140_1)
          (try rw [show ((0 : Int)).toNat = 0 from rfl] at hx140_2)
          (try rw [show 0 * 5 = 0 from rfl] at hx140_2)
          (try rw [Addr.add_zero'] at hx140_2)
          (try rw [show ((0 : Int)).toNat = 0 from rfl] at hx140_3)
          (try rw [show 0 * 5 = 0 from rfl] at hx140_3)
          (try rw [Addr.add_zero'] at hx140_3)
          (try rw [show ((0 : Int)).toNat = 0 from rfl] at hx140_4)
          (try rw [show 0 * 5 = 0 from rfl] at hx140_4)
          (try rw [Addr.add_zero'] at hx140_4)
          have HR140_4 := Aside0.mk hi140_4
          have HC140_4 := Aside0.mk hl140_4
          clear hi140_4 hl140_4
          replace p140 := eq_true p140
          replace q140 := eq_true q140
          have p141 : 0 ≤ (0 : Int) := (by omega)
          have q141 : 0 < (l0.length : Int) := of_decide_eq_true (by first | (with_reducible assumption) | assumption)
          obtain ⟨ad141, A141_4, c141_4, e141, hx141_0, hx141_1, hx141_2, hx141_3, hx141_4, hl141_4, hi141_4⟩ := at_T33 HR0.out 0 p141 q141
          (try rw [← Nbq5.out] at hx141_1)
          obtain rfl : ad140 = ad141 := (by injection e141)
          have qi141 : (0 < l0.length) = True := eq_true (by omega)
          (try rw [show ((0 : Int)).toNat = 0 from rfl] at hx141_0)
          (try rw [show 0 * 5 = 0 from rfl] at hx141_0)
          (try rw [Addr.add_zero'] at hx141_0)
          (try rw [show ((0 : Int)).toNat = 0 from rfl] at hx141_1)
          (try rw [show 0 * 5 = 0 from rfl] at hx141_1)
          (try rw [Addr.add_zero'] at hx141_1)
          (try rw [show ((0 : Int)).toNat = 0 from rfl] at hx141_2)
          (try rw [show 0 * 5 = 0 from rfl] at hx141_2)
          (try rw [Addr.add_zero'] at hx141_2)
          (try rw [show ((0 : Int)).toNat = 0 from rfl] at hx141_3)
          (try rw [show 0 * 5 = 0 from rfl] at hx141_3)
          (try rw [Addr.add_zero'] at hx141_3)
          (try rw [show ((0 : Int)).toNat = 0 from rfl] at hx141_4)
          (try rw [show 0 * 5 = 0 from rfl] at hx141_4)
          (try rw [Addr.add_zero'] at hx141_4)
          have HR141_4 := Aside0.mk hi141_4
          have HC141_4 := Aside0.mk hl141_4
          clear hi141_4 hl141_4
          replace p141 := eq_true p141
          replace q141 := eq_true q141
          have ea_ := Option.some.inj (hx140_4.symm.trans hx141_4)
          injection ea_ with ea_ en_ ec_
          subst ea_
          subst ec_
          clear en_
          have p142 : 0 ≤ (0 : Int) := (by omega)
          have q142 : 0 < (l0.length : Int) := of_decide_eq_true (by first | (with_reducible assumption) | assumption)
          obtain ⟨ad142, A142_4, c142_4, e142, hx142_0, hx142_1, hx142_2, hx142_3, hx142_4, hl142_4, hi142_4⟩ := at_T33 HR0.out 0 p142 q142
          (try rw [← Nbq5.out] at hx142_1)
          obtain rfl : ad140 = ad142 := (by injection e142)
          have qi142 : (0 < l0.length) = True := eq_true (by omega)
          (try rw [show ((0 : Int)).toNat = 0 from rfl] at hx142_0)
          (try rw [show 0 * 5 = 0 from rfl] at hx142_0)
          (try rw [Addr.add_zero'] at hx142_0)
          (try rw [show ((0 : Int)).toNat = 0 from rfl] at hx142_1)
          (try rw [show 0 * 5 = 0 from rfl] at hx142_1)
          (try rw [Addr.add_zero'] at hx142_1)
          (try rw [show ((0 : Int)).toNat = 0 from rfl] at hx142_2)
          (try rw [show 0 * 5 = 0 from rfl] at hx142_2)
          (try rw [Addr.add_zero'] at hx142_2)
          (try rw [show ((0 : Int)).toNat = 0 from rfl] at hx142_3)
          (try rw [show 0 * 5 = 0 from rfl] at hx142_3)
          (try rw [Addr.add_zero'] at hx142_3)
          (try rw [show ((0 : Int)).toNat = 0 from rfl] at hx142_4)
          (try rw [show 0 * 5 = 0 from rfl] at hx142_4)
          (try rw [Addr.add_zero'] at hx142_4)
          have HR142_4 := Aside0.mk hi142_4
          have HC142_4 := Aside0.mk hl142_4
          clear hi142_4 hl142_4
          replace p142 := eq_true p142
          replace q142 := eq_true q142
          have ea_ := Option.some.inj (hx140_4.symm.trans hx142_4)
          injection ea_ with ea_ en_ ec_
          subst ea_
          subst ec_
          clear en_
          go_enter Tryd.func16, Tryd.ntmps16
          go_wp2
          go_ret2
          exact ⟨by first | rfl | (simp; done) | (simp [*]; done), by repeat (first | exact Drawn0.refl _ | apply Drawn0.step)⟩
      · rw [if_neg c4] at H
        have c4b0 : (((rd_T33 l0 0).f0) == 1) = false := beq_eq_false_iff_ne.mpr c4
        have c4b1 : (((rd_T33 l0 0).f0) != 1) = true := bne_iff_ne.mpr c4
        simp only [Option.some.injEq, Prod.mk.injEq] at H
        obtain ⟨rfl, rfl⟩ := H
        have p140 : 0 ≤ (0 : Int) := (by omega)
        have q140 : 0 < (l0.length : Int) := of_decide_eq_true (by first | (with_reducible assumption) | assumption)
        obtain ⟨ad140, A140_4, c140_4, e140, hx140_0, hx140_1, hx140_2, hx140_3, hx140_4, hl140_4, hi140_4⟩ := at_T33 HR0.out 0 p140 q140
        cases e140
        have qi140 : (0 < l0.length) = True := eq_true (by omega)
        (try rw [show ((0 : Int)).toNat = 0 from rfl] at hx140_0)
        (try rw [show 0 * 5 = 0 from rfl] at hx140_0)
        (try rw [Addr.add_zero'] at hx140_0)
        (try rw [show ((0 : Int)).toNat = 0 from rfl] at hx140_1)
        (try rw [show 0 * 5 = 0 from rfl] at hx140_1)
        (try rw [Addr.add_zero'] at hx140_1)
        (try rw [show ((0 : Int)).toNat = 0 from rfl] at hx140_2)
        (try rw [show 0 * 5 = 0 from rfl] at hx140_2)
        (try rw [Addr.add_zero'] at hx140_2)
        (try rw [show ((0 : Int)).toNat = 0 from rfl] at hx140_3)
        (try rw [show 0 * 5 = 0 from rfl] at hx140_3)
        (try rw [Addr.add_zero'] at hx140_3)
        (try rw [show ((0 : Int)).toNat = 0 from rfl] at hx140_4)
        (try rw [show 0 * 5 = 0 from rfl] at hx140_4)
        (try rw [Addr.add_zero'] at hx140_4)
        have HR140_4 := Aside0.mk hi140_4
        have HC140_4 := Aside0.mk hl140_4
        clear hi140_4 hl140_4
        replace p140 := eq_true p140
        replace q140 := eq_true q140
        go_enter Tryd.func16, Tryd.ntmps16
        go_wp2
        go_ret2
        exact ⟨by first | rfl | (simp; done) | (simp [*]; done), by repeat (first | exact Drawn0.refl _ | apply Drawn0.step)⟩
    · rw [if_neg c3] at H
      exact absurd H (by simp)
  · rw [if_neg c2] at H
    have c2b0 : ((l0.length : Int) == 1) = false := beq_eq_false_iff_ne.mpr c2
    have c2b1 : ((l0.length : Int) != 1) = true := bne_iff_ne.mpr c2
    simp only [Option.some.injEq, Prod.mk.injEq] at H
    obtain ⟨rfl, rfl⟩ := H
    go_enter Tryd.func16, Tryd.ntmps16
    go_wp2
    go_ret2
    exact ⟨by first | rfl | (simp; done) | (simp [*]; done), by repeat (first | exact Drawn0.refl _ | apply Drawn0.step)⟩

/-! ### deadfallref03_Quote: function 18 -/
def deadfallref03_Quote.l0 : Nat → ByteArray → List Int → Int → Option (ByteArray)
  | 0, _, _, _ => none
  | k + 1, x0, x3, x4 => if x4 < (x0.size : Int) then (if 0 ≤ x4 then (if x3.length < 140737488355328 then ((some (x3 ++ [bt x0 x4] : List Int)).bind fun y146 => (if (bt x0 x4) = 39 then ((some (([92, 39, 39] : List Int) : List Int)).bind fun y149 => (if y146.length + y149.length < 140737488355328 then (deadfallref03_Quote.l0 k x0 (y146 ++ y149) (wrap64 (x4 + 1))) else (none))) else (deadfallref03_Quote.l0 k x0 y146 (wrap64 (x4 + 1))))) else (none)) else (none)) else (if x3.length < 140737488355328 then (some (strOfNums (x3 ++ [39]))) else (none))
def deadfallref03_Quote.f (k : Nat) (a0 : ByteArray) : Option (ByteArray) := deadfallref03_Quote.l0 k a0 (([39] : List Int)) 0
theorem deadfallref03_Quote.mono_l : ∀ k, (∀ y0 y1 y2, LeO (deadfallref03_Quote.l0 k y0 y1 y2) (deadfallref03_Quote.l0 (k + 1) y0 y1 y2))
  | 0 => fun _ _ _ r h => by simp [deadfallref03_Quote.l0] at h
  | k + 1 => by
    have ih0 := deadfallref03_Quote.mono_l k
    · intro y0 y1 y2
      unfold deadfallref03_Quote.l0
      repeat' first
      | (with_reducible exact ih0 _ _ _)
      | (with_reducible exact LeO.refl _)
      | (with_reducible exact LeO.none _)
      | (with_reducible refine LeO.ite ?_ ?_)
      | (with_reducible refine LeO.bind ?_ (fun _ => ?_))
      | exact ih0 _ _ _
      | exact LeO.none _
      | refine LeO.ite ?_ ?_
      | refine LeO.bind ?_ (fun _ => ?_)
theorem deadfallref03_Quote.mono : ∀ a0 k, LeO (deadfallref03_Quote.f k a0) (deadfallref03_Quote.f (k + 1) a0) := by
  intro a0 k
  have ih0 := deadfallref03_Quote.mono_l k
  unfold deadfallref03_Quote.f
  repeat' first
      | (with_reducible exact ih0 _ _ _)
      | (with_reducible exact LeO.refl _)
      | (with_reducible exact LeO.none _)
      | (with_reducible refine LeO.ite ?_ ?_)
      | (with_reducible refine LeO.bind ?_ (fun _ => ?_))
      | exact ih0 _ _ _
      | exact LeO.none _
      | refine LeO.ite ?_ ?_
      | refine LeO.bind ?_ (fun _ => ?_)
set_option maxHeartbeats 8000000 in
set_option maxRecDepth 100000 in
theorem deadfallref03_Quote.calls (k : Nat) (a0 : ByteArray) (r : ByteArray) (w : World) (h : deadfallref03_Quote.f k a0 = some r) :
    Calls Tryd.prog 18 #[.string a0] w fun e w' => e = .returned (.string r) ∧ Below w.heap.size w w' := by
  have HB := Aside0.mk (Below.refl w.heap.size w)
  have H : (deadfallref03_Quote.l0 k a0 (([39] : List Int)) 0) = some r := h
  clear h
  obtain ⟨y143, hy143⟩ : ∃ y_ : List Int, y_ = (([39] : List Int)) := ⟨_, rfl⟩
  replace H : (deadfallref03_Quote.l0 k a0 y143 0) = some r := by first | (rw [hy143]; with_reducible exact H) | (have H2_ := (Option.bind_some _ _).symm.trans H; rw [hy143]; with_reducible exact H2_) | (have H2_ := (Option.bind_some _ _).symm.trans H; with_reducible exact H2_) | with_reducible exact H | (rw [hy143]; exact H) | exact H
  have Ny143 := Aside0.mk hy143
  clear hy143
  have H' := Aside0.mk H
  clear H
  go_enter Tryd.func18, Tryd.ntmps18
  go_wp2_with (first | ((with_reducible refine gate_dst (N := 5) rfl ?_); refine Kd.R_lit (Kd.int .u8) _ 5 ?hg (N := 5) ?hd (xs := ([39] : List Int)) (inner := [.int .u8 39]) (ok := fun _ => True) (okp := fun _ => True) ?hr ?hp (fun _ hk => hk) trivial (Below.refl _ _) (Nat.le_refl _) (by simp) ?_; (case hd => rfl); (case hg => rfl); (case hr => first | (go_simp; done) | (go_simp; rfl)); (case hp => exact (Reps.one (show Kd.M (Kd.int .u8) _ _ _ 39 [.int .u8 39] from rfl) (Reps.none _ _))); intro v144 w2 ho3 hb hg_ hnew_; clear hg_ hnew_; (first | rw [← Ny143.out] at ho3 | (simp only [Int.reduceToNat] at ho3; rw [← Ny143.out] at ho3)); have n0_ := Aside0.mk (Kd.R_lower ho3 (below_size (by repeat (first | (with_reducible first | exact HB.out | apply below_alloc | apply pw_below_drewN | apply below_drew1) | exact HB.out)))); have n1_ := Aside0.mk (below_step (by repeat (first | (with_reducible first | exact HB.out | apply below_alloc | apply pw_below_drewN | apply below_drew1) | exact HB.out)) hb); clear HB; have HO145 := n0_; have HB := n1_; clear n0_ n1_; clear hb ho3))
  go_loopg [3, 4] k (fun kq v3 v4 w' => ∃ (x3_1 : List Int) (x4_1 : Int), v4 = .int .i64 x4_1 ∧ Aside0 (deadfallref03_Quote.l0 kq a0 x3_1 x4_1 = some r) ∧ Aside0 (kq ≤ k) ∧ Aside0 (Kd.R (Kd.int .u8) 5 w' w.heap.size (fun _ => True) v3 x3_1) ∧ Aside0 (Below w.heap.size w w'))
  case atStart => exact ⟨(y143), (0), (by first | rfl | (simp; done) | (simp [*]; done)), H', ⟨Nat.le_refl _⟩, ⟨by (with_reducible repeat (first | apply Kd.R_alloc | apply Kd.R_drewN | apply Kd.R_drew)); exact HO145.out⟩, ⟨by repeat (first | (with_reducible first | exact HB.out | apply below_alloc | apply pw_below_drewN | apply below_drew1) | exact HB.out)⟩⟩
  case round =>
    clear H'
    try clear c1
    try clear p2
    obtain ⟨x3_1, x4_1, rfl, HA, HK1, HO_3, HB⟩ := hrel
    cases gk with
    | zero => exact absurd HA.out (by simp [deadfallref03_Quote.l0])
    | succ k1 =>
      have H := HA.out
      clear HA
      simp only [deadfallref03_Quote.l0] at H
      by_cases c4 : x4_1 < (a0.size : Int)
      · rw [if_pos c4] at H
        have c4b0 : decide (x4_1 < (a0.size : Int)) = true := decide_eq_true c4
        clear c4
        by_cases c5 : 0 ≤ x4_1
        · rw [if_pos c5] at H
          have c5b0 : decide (0 ≤ x4_1) = true := decide_eq_true c5
          clear c5
          by_cases c7 : x3_1.length < 140737488355328
          · rw [if_pos c7] at H
            have LMc7 := Aside0.mk c7
            clear c7
            obtain ⟨y146, hy146⟩ : ∃ y_ : List Int, y_ = (x3_1 ++ [bt a0 x4_1]) := ⟨_, rfl⟩
            replace H : (if (bt a0 x4_1) = 39 then ((some (([92, 39, 39] : List Int) : List Int)).bind fun y149 => (if y146.length + y149.length < 140737488355328 then (deadfallref03_Quote.l0 k1 a0 (y146 ++ y149) (wrap64 (x4_1 + 1))) else (none))) else (deadfallref03_Quote.l0 k1 a0 y146 (wrap64 (x4_1 + 1)))) = some r := by first | (rw [hy146]; with_reducible exact H) | (have H2_ := (Option.bind_some _ _).symm.trans H; rw [hy146]; with_reducible exact H2_) | (have H2_ := (Option.bind_some _ _).symm.trans H; with_reducible exact H2_) | with_reducible exact H | (rw [hy146]; exact H) | exact H
            have Ny146 := Aside0.mk hy146
            clear hy146
            by_cases c9 : (bt a0 x4_1) = 39
            · rw [if_pos c9] at H
              have c9b0 : ((bt a0 x4_1) == 39) = true := beq_iff_eq.mpr c9
              have c9b1 : ((bt a0 x4_1) != 39) = false := bne_eq_false_iff_eq.mpr c9
              clear c9
              obtain ⟨y149, hy149⟩ : ∃ y_ : List Int, y_ = (([92, 39, 39] : List Int)) := ⟨_, rfl⟩
              replace H : (if y146.length + y149.length < 140737488355328 then (deadfallref03_Quote.l0 k1 a0 (y146 ++ y149) (wrap64 (x4_1 + 1))) else (none)) = some r := by first | (rw [hy149]; with_reducible exact H) | (have H2_ := (Option.bind_some _ _).symm.trans H; rw [hy149]; with_reducible exact H2_) | (have H2_ := (Option.bind_some _ _).symm.trans H; with_reducible exact H2_) | with_reducible exact H | (rw [hy149]; exact H) | exact H
              have Ny149 := Aside0.mk hy149
              clear hy149
              by_cases c10 : y146.length + y149.length < 140737488355328
              · rw [if_pos c10] at H
                have LMc10 := Aside0.mk c10
                clear c10
                obtain ⟨y152, hy152⟩ : ∃ y_ : List Int, y_ = (y146 ++ y149) := ⟨_, rfl⟩
                replace H : (deadfallref03_Quote.l0 k1 a0 y152 (wrap64 (x4_1 + 1))) = some r := by first | (rw [hy152]; with_reducible exact H) | (have H2_ := (Option.bind_some _ _).symm.trans H; rw [hy152]; with_reducible exact H2_) | (have H2_ := (Option.bind_some _ _).symm.trans H; with_reducible exact H2_) | with_reducible exact H | (rw [hy152]; exact H) | exact H
                have Ny152 := Aside0.mk hy152
                clear hy152
                have H' := Aside0.mk H
                clear H
                have p6 : 0 ≤ (x4_1 : Int) := of_decide_eq_true (by first | (with_reducible assumption) | assumption)
                have q6 : x4_1 < (a0.size : Int) := of_decide_eq_true (by first | (with_reducible assumption) | assumption)
                have hx6 := bt_at a0 x4_1
                replace p6 := eq_true p6
                replace q6 := eq_true q6
                go_wp2_with (first | ((with_reducible refine gate_builtin (b := .append) (xs := #[.tmp 12, .tmp 16]) rfl ?_); at_builtin; refine Kd.R_append (Kd.int .u8) (w0 := w) w.heap.size rfl (.tmp 12) (.tmp 16) 45 5 (.int .u8 0) 1 rfl Tryd.underlying45 info5 rfl (by decide) (by omega) u3 x3_1 (bt a0 x4_1) [.int .u8 (bt a0 x4_1)] (fun _ => True) (fun _ => False) rfl rfl ?aP (fun _ hk => hk.elim) ?aF ?aO ?aB ?aS ?aL ?_; (case aP => exact rfl); (case aB => exact (by repeat (first | (with_reducible first | exact HB.out | apply below_alloc | apply pw_below_drewN | apply below_drew1) | exact HB.out))); (case aF => exact (fun _ _ => trivial)); (case aO => exact (by (with_reducible repeat (first | apply Kd.R_alloc | apply Kd.R_drewN | apply Kd.R_drew)); exact HO_3.out)); (case aS => exact (below_size (by repeat (first | (with_reducible first | exact HB.out | apply below_alloc | apply pw_below_drewN | apply below_drew1) | exact HB.out)))); (case aL => have := LMc7.out; omega); intro v147 w11 ho hb hg hat; rw [← Ny146.out] at ho; have n0_ := Aside0.mk (hb); have n1_ := Aside0.mk (ho); clear HB; clear HO_3; have HB := n0_; have HO148 := n1_; clear n0_ n1_; clear ho hb hg hat; have p8 : 0 ≤ (x4_1 : Int) := of_decide_eq_true (by first | (with_reducible assumption) | assumption); have q8 : x4_1 < (a0.size : Int) := of_decide_eq_true (by first | (with_reducible assumption) | assumption); have hx8 := bt_at a0 x4_1; replace p8 := eq_true p8; replace q8 := eq_true q8) | ((with_reducible refine gate_dst (N := 23) rfl ?_); refine Kd.R_lit (Kd.int .u8) _ 5 ?hg (N := 23) ?hd (xs := ([92, 39, 39] : List Int)) (inner := [.int .u8 92, .int .u8 39, .int .u8 39]) (ok := fun _ => True) (okp := fun _ => True) ?hr ?hp (fun _ hk => hk) trivial (Below.refl _ _) (Nat.le_refl _) (by simp) ?_; (case hd => rfl); (case hg => rfl); (case hr => first | (go_simp; done) | (go_simp; rfl)); (case hp => exact (Reps.one (show Kd.M (Kd.int .u8) _ _ _ 92 [.int .u8 92] from rfl) (Reps.one (show Kd.M (Kd.int .u8) _ _ _ 39 [.int .u8 39] from rfl) (Reps.one (show Kd.M (Kd.int .u8) _ _ _ 39 [.int .u8 39] from rfl) (Reps.none _ _))))); intro v150 w12 ho13 hb hg_ hnew_; clear hg_ hnew_; (first | rw [← Ny149.out] at ho13 | (simp only [Int.reduceToNat] at ho13; rw [← Ny149.out] at ho13)); have n0_ := Aside0.mk (Kd.R_elder' (by (with_reducible repeat (first | apply Kd.R_alloc | apply Kd.R_drewN | apply Kd.R_drew)); exact HO148.out) (Kd.R_base ho13) hb); have n1_ := Aside0.mk (Kd.R_lower (Kd.R_new' ho13 (Kd.R_lt (by (with_reducible repeat (first | apply Kd.R_alloc | apply Kd.R_drewN | apply Kd.R_drew)); exact HO148.out))) (below_size (by repeat (first | (with_reducible first | exact HB.out | apply below_alloc | apply pw_below_drewN | apply below_drew1) | exact HB.out)))); have n2_ := Aside0.mk (below_step (by repeat (first | (with_reducible first | exact HB.out | apply below_alloc | apply pw_below_drewN | apply below_drew1) | exact HB.out)) hb); clear HO148; clear HB; have HO148 := n0_; have HO151 := n1_; have HB := n2_; clear n0_ n1_ n2_; clear hb ho13; obtain ⟨Ao15, co15, eo15⟩ := Kd.R_slice HO151.out; subst eo15) | ((with_reducible refine gate_builtin (b := .append) (xs := #[.tmp 22, .tmp 23]) rfl ?_); at_builtin; refine Kd.R_append_rows (Kd.int .u8) (w0 := w) w.heap.size rfl (.tmp 22) (.tmp 23) 45 5 (.int .u8 0) 1 rfl Tryd.underlying45 info5 rfl (by decide) (by omega) v147 y146 y149 _ _ _ (fun k_ => some k_ ≠ (.slice Ao15 y149.length co15 : Value).ownBlock) (fun _ => False) rfl rfl ?aO ?aR (fun _ _ h => h) (fun _ h => h.elim) ?aF ?aB ?aS ?aL ?_; (case aR => repeat (first | exact (Kd.R_reads' HO151.out).2.2 | (with_reducible refine Kd.C_alloc ?_ _) | (with_reducible refine Kd.C_drewN ?_ _) | (with_reducible refine Kd.C_drew ?_))); (case aB => exact (by repeat (first | (with_reducible first | exact HB.out | apply below_alloc | apply pw_below_drewN | apply below_drew1) | exact HB.out))); (case aF => exact (fun k_ hk => Kd.fresh' (Kd.R_lt (by (with_reducible repeat (first | apply Kd.R_alloc | apply Kd.R_drewN | apply Kd.R_drew)); exact HO151.out)) k_ hk)); (case aO => exact (by (with_reducible repeat (first | apply Kd.R_alloc | apply Kd.R_drewN | apply Kd.R_drew)); exact Kd.R_mono HO148.out (fun _ hk => hk.2))); (case aS => exact (below_size (by repeat (first | (with_reducible first | exact HB.out | apply below_alloc | apply pw_below_drewN | apply below_drew1) | exact HB.out)))); (case aL => have := LMc10.out; omega); intro v153 w14 ho hb hg hat; rw [← Ny152.out] at ho; have n0_ := Aside0.mk (Kd.R_after (ok := (fun _ => True)) (by (with_reducible repeat (first | apply Kd.R_alloc | apply Kd.R_drewN | apply Kd.R_drew)); exact HO151.out) hg hat); have n1_ := Aside0.mk (hb); have n2_ := Aside0.mk (ho); clear HO151; clear HB; clear HO148; have HO151 := n0_; have HB := n1_; have HO154 := n2_; clear n0_ n1_ n2_; clear ho hb hg hat))
                go_roundg k1
                case measure => have := HK1.out; omega
                case rel => exact ⟨(y152), (wrap64 (x4_1 + 1)), (by first | rfl | (simp; done) | (simp [*]; done)), H', ⟨by have := HK1.out; omega⟩, ⟨by (with_reducible repeat (first | apply Kd.R_alloc | apply Kd.R_drewN | apply Kd.R_drew)); exact Kd.R_mono HO154.out (fun _ hk => trivial)⟩, ⟨by repeat (first | (with_reducible first | exact HB.out | apply below_alloc | apply pw_below_drewN | apply below_drew1) | exact HB.out)⟩⟩
              · rw [if_neg c10] at H
                exact absurd H (by simp)
            · rw [if_neg c9] at H
              have c9b0 : ((bt a0 x4_1) == 39) = false := beq_eq_false_iff_ne.mpr c9
              have c9b1 : ((bt a0 x4_1) != 39) = true := bne_iff_ne.mpr c9
              have H' := Aside0.mk H
              clear H
              have p6 : 0 ≤ (x4_1 : Int) := of_decide_eq_true (by first | (with_reducible assumption) | assumption)
              have q6 : x4_1 < (a0.size : Int) := of_decide_eq_true (by first | (with_reducible assumption) | assumption)
              have hx6 := bt_at a0 x4_1
              replace p6 := eq_true p6
              replace q6 := eq_true q6
              go_wp2_with (first | ((with_reducible refine gate_builtin (b := .append) (xs := #[.tmp 12, .tmp 16]) rfl ?_); at_builtin; refine Kd.R_append (Kd.int .u8) (w0 := w) w.heap.size rfl (.tmp 12) (.tmp 16) 45 5 (.int .u8 0) 1 rfl Tryd.underlying45 info5 rfl (by decide) (by omega) u3 x3_1 (bt a0 x4_1) [.int .u8 (bt a0 x4_1)] (fun _ => True) (fun _ => False) rfl rfl ?aP (fun _ hk => hk.elim) ?aF ?aO ?aB ?aS ?aL ?_; (case aP => exact rfl); (case aB => exact (by repeat (first | (with_reducible first | exact HB.out | apply below_alloc | apply pw_below_drewN | apply below_drew1) | exact HB.out))); (case aF => exact (fun _ _ => trivial)); (case aO => exact (by (with_reducible repeat (first | apply Kd.R_alloc | apply Kd.R_drewN | apply Kd.R_drew)); exact HO_3.out)); (case aS => exact (below_size (by repeat (first | (with_reducible first | exact HB.out | apply below_alloc | apply pw_below_drewN | apply below_drew1) | exact HB.out)))); (case aL => have := LMc7.out; omega); intro v147 w16 ho hb hg hat; rw [← Ny146.out] at ho; have n0_ := Aside0.mk (hb); have n1_ := Aside0.mk (ho); clear HB; clear HO_3; have HB := n0_; have HO148 := n1_; clear n0_ n1_; clear ho hb hg hat; have p8 : 0 ≤ (x4_1 : Int) := of_decide_eq_true (by first | (with_reducible assumption) | assumption); have q8 : x4_1 < (a0.size : Int) := of_decide_eq_true (by first | (with_reducible assumption) | assumption); have hx8 := bt_at a0 x4_1; replace p8 := eq_true p8; replace q8 := eq_true q8))
              go_roundg k1
              case measure => have := HK1.out; omega
              case rel => exact ⟨(y146), (wrap64 (x4_1 + 1)), (by first | rfl | (simp; done) | (simp [*]; done)), H', ⟨by have := HK1.out; omega⟩, ⟨by (with_reducible repeat (first | apply Kd.R_alloc | apply Kd.R_drewN | apply Kd.R_drew)); exact HO148.out⟩, ⟨by repeat (first | (with_reducible first | exact HB.out | apply below_alloc | apply pw_below_drewN | apply below_drew1) | exact HB.out)⟩⟩
          · rw [if_neg c7] at H
            exact absurd H (by simp)
        · rw [if_neg c5] at H
          exact absurd H (by simp)
      · rw [if_neg c4] at H
        have c4b0 : decide (x4_1 < (a0.size : Int)) = false := decide_eq_false c4
        clear c4
        by_cases c17 : x3_1.length < 140737488355328
        · rw [if_pos c17] at H
          have LMc17 := Aside0.mk c17
          clear c17
          obtain ⟨y155, hy155⟩ : ∃ y_ : List Int, y_ = (x3_1 ++ [39]) := ⟨_, rfl⟩
          replace H : (some (strOfNums y155)) = some r := by first | (rw [hy155]; with_reducible exact H) | (have H2_ := (Option.bind_some _ _).symm.trans H; rw [hy155]; with_reducible exact H2_) | (have H2_ := (Option.bind_some _ _).symm.trans H; with_reducible exact H2_) | with_reducible exact H | (rw [hy155]; exact H) | exact H
          have Ny155 := Aside0.mk hy155
          clear hy155
          obtain rfl := Option.some.inj H
          go_wp2_with (first | ((with_reducible refine gate_builtin (b := .append) (xs := #[.tmp 25, .tmp 26]) rfl ?_); at_builtin; refine Kd.R_append (Kd.int .u8) (w0 := w) w.heap.size rfl (.tmp 25) (.tmp 26) 45 5 (.int .u8 0) 1 rfl Tryd.underlying45 info5 rfl (by decide) (by omega) u3 x3_1 39 [.int .u8 39] (fun _ => True) (fun _ => False) rfl rfl ?aP (fun _ hk => hk.elim) ?aF ?aO ?aB ?aS ?aL ?_; (case aP => exact rfl); (case aB => exact (by repeat (first | (with_reducible first | exact HB.out | apply below_alloc | apply pw_below_drewN | apply below_drew1) | exact HB.out))); (case aF => exact (fun _ _ => trivial)); (case aO => exact (by (with_reducible repeat (first | apply Kd.R_alloc | apply Kd.R_drewN | apply Kd.R_drew)); exact HO_3.out)); (case aS => exact (below_size (by repeat (first | (with_reducible first | exact HB.out | apply below_alloc | apply pw_below_drewN | apply below_drew1) | exact HB.out)))); (case aL => have := LMc17.out; omega); intro v156 w18 ho hb hg hat; rw [← Ny155.out] at ho; have n0_ := Aside0.mk (hb); have n1_ := Aside0.mk (ho); clear HB; clear HO_3; have HB := n0_; have HO157 := n1_; clear n0_ n1_; clear ho hb hg hat; have hcv19 := own_string (P := Tryd.prog) Tryd.underlying45 Tryd.underlying5 Tryd.underlying9 (Kd.own_of_R HO157.out)))
          go_ret
          exact ⟨by first | rfl | (simp [errW_none, errW_some] <;> rfl) | (simp [*, errW_none, errW_some] <;> rfl), by repeat (first | (with_reducible first | exact HB.out | apply below_alloc | apply pw_below_drewN | apply below_drew1) | exact HB.out)⟩
        · rw [if_neg c17] at H
          exact absurd H (by simp)

/-! ### deadfallref02_among: function 56 -/
def deadfallref02_among.l0 : Nat → Int → ByteArray → Int → Option (Bool)
  | 0, _, _, _ => none
  | k + 1, x0, x1, x5 => if x5 < (x1.size : Int) then (if 0 ≤ x5 then (if (bt x1 x5) = x0 then (some true) else (deadfallref02_among.l0 k x0 x1 (wrap64 (x5 + 1)))) else (none)) else (some false)
def deadfallref02_among.f (k : Nat) (a0 : Int) (a1 : ByteArray) : Option (Bool) := deadfallref02_among.l0 k a0 a1 0
theorem deadfallref02_among.mono_l : ∀ k, (∀ y0 y1 y2, LeO (deadfallref02_among.l0 k y0 y1 y2) (deadfallref02_among.l0 (k + 1) y0 y1 y2))
  | 0 => fun _ _ _ r h => by simp [deadfallref02_among.l0] at h
  | k + 1 => by
    have ih0 := deadfallref02_among.mono_l k
    · intro y0 y1 y2
      unfold deadfallref02_among.l0
      repeat' first
      | (with_reducible exact ih0 _ _ _)
      | (with_reducible exact LeO.refl _)
      | (with_reducible exact LeO.none _)
      | (with_reducible refine LeO.ite ?_ ?_)
      | (with_reducible refine LeO.bind ?_ (fun _ => ?_))
      | exact ih0 _ _ _
      | exact LeO.none _
      | refine LeO.ite ?_ ?_
      | refine LeO.bind ?_ (fun _ => ?_)
theorem deadfallref02_among.mono : ∀ a0 a1 k, LeO (deadfallref02_among.f k a0 a1) (deadfallref02_among.f (k + 1) a0 a1) := by
  intro a0 a1 k
  have ih0 := deadfallref02_among.mono_l k
  unfold deadfallref02_among.f
  repeat' first
      | (with_reducible exact ih0 _ _ _)
      | (with_reducible exact LeO.refl _)
      | (with_reducible exact LeO.none _)
      | (with_reducible refine LeO.ite ?_ ?_)
      | (with_reducible refine LeO.bind ?_ (fun _ => ?_))
      | exact ih0 _ _ _
      | exact LeO.none _
      | refine LeO.ite ?_ ?_
      | refine LeO.bind ?_ (fun _ => ?_)
set_option maxHeartbeats 8000000 in
set_option maxRecDepth 100000 in
theorem deadfallref02_among.calls (k : Nat) (a0 : Int) (a1 : ByteArray) (r : Bool) (w : World) (h : deadfallref02_among.f k a0 a1 = some r) :
    Calls Tryd.prog 56 #[.int .u8 a0, .string a1] w fun e w' => e = .returned (.bool r) ∧ Drawn0 w w' := by
  have H : (deadfallref02_among.l0 k a0 a1 0) = some r := h
  clear h
  have H' := Aside0.mk H
  clear H
  go_enter Tryd.func56, Tryd.ntmps56
  go_wp2
  go_loopg [5] k (fun kq v5 w' => ∃ (x5_1 : Int), v5 = .int .i64 x5_1 ∧ Aside0 (deadfallref02_among.l0 kq a0 a1 x5_1 = some r) ∧ Aside0 (kq ≤ k) ∧ Drawn0 w w')
  case atStart => exact ⟨(0), (by first | rfl | (simp; done) | (simp [*]; done)), H', ⟨Nat.le_refl _⟩, by repeat (first | exact Drawn0.refl _ | apply Drawn0.step)⟩
  case round =>
    clear H'
    try clear p2
    obtain ⟨x5_1, rfl, HA, HK1, ⟨m1, rfl⟩⟩ := hrel
    cases gk with
    | zero => exact absurd HA.out (by simp [deadfallref02_among.l0])
    | succ k1 =>
      have H := HA.out
      clear HA
      simp only [deadfallref02_among.l0] at H
      by_cases c3 : x5_1 < (a1.size : Int)
      · rw [if_pos c3] at H
        have c3b0 : decide (x5_1 < (a1.size : Int)) = true := decide_eq_true c3
        clear c3
        by_cases c4 : 0 ≤ x5_1
        · rw [if_pos c4] at H
          have c4b0 : decide (0 ≤ x5_1) = true := decide_eq_true c4
          clear c4
          by_cases c6 : (bt a1 x5_1) = a0
          · rw [if_pos c6] at H
            have c6b0 : ((bt a1 x5_1) == a0) = true := beq_iff_eq.mpr c6
            have c6b1 : ((bt a1 x5_1) != a0) = false := bne_eq_false_iff_eq.mpr c6
            clear c6
            obtain rfl := Option.some.inj H
            have p5 : 0 ≤ (x5_1 : Int) := of_decide_eq_true (by first | (with_reducible assumption) | assumption)
            have q5 : x5_1 < (a1.size : Int) := of_decide_eq_true (by first | (with_reducible assumption) | assumption)
            have hx5 := bt_at a1 x5_1
            replace p5 := eq_true p5
            replace q5 := eq_true q5
            go_wp2
            go_ret
            exact ⟨by first | rfl | (simp; done) | (simp [*]; done), by repeat (first | exact Drawn0.refl _ | apply Drawn0.step)⟩
          · rw [if_neg c6] at H
            have c6b0 : ((bt a1 x5_1) == a0) = false := beq_eq_false_iff_ne.mpr c6
            have c6b1 : ((bt a1 x5_1) != a0) = true := bne_iff_ne.mpr c6
            have H' := Aside0.mk H
            clear H
            have p5 : 0 ≤ (x5_1 : Int) := of_decide_eq_true (by first | (with_reducible assumption) | assumption)
            have q5 : x5_1 < (a1.size : Int) := of_decide_eq_true (by first | (with_reducible assumption) | assumption)
            have hx5 := bt_at a1 x5_1
            replace p5 := eq_true p5
            replace q5 := eq_true q5
            go_wp2
            go_roundg k1
            case measure => have := HK1.out; omega
            case rel => exact ⟨(wrap64 (x5_1 + 1)), (by first | rfl | (simp; done) | (simp [*]; done)), H', ⟨by have := HK1.out; omega⟩, by repeat (first | exact Drawn0.refl _ | apply Drawn0.step)⟩
        · rw [if_neg c4] at H
          exact absurd H (by simp)
      · rw [if_neg c3] at H
        have c3b0 : decide (x5_1 < (a1.size : Int)) = false := decide_eq_false c3
        clear c3
        obtain rfl := Option.some.inj H
        go_wp2
        go_ret
        exact ⟨by first | rfl | (simp; done) | (simp [*]; done), by repeat (first | exact Drawn0.refl _ | apply Drawn0.step)⟩

/-! ### deadfallref02_Letter: function 47 -/
def deadfallref02_Letter.f (k : Nat) (a0 : Int) : Option (Bool) := (deadfallref02_among.f k a0 (⟨#[97, 98, 99, 100, 101, 102, 103, 104, 105, 106, 107, 108, 109, 110, 111, 112, 113, 114, 115, 116, 117, 118, 119, 120, 121, 122, 65, 66, 67, 68, 69, 70, 71, 72, 73, 74, 75, 76, 77, 78, 79, 80, 81, 82, 83, 84, 85, 86, 87, 88, 89, 90, 95]⟩ : ByteArray)).bind fun t161 => (some t161)
theorem deadfallref02_Letter.mono : ∀ a0 k, LeO (deadfallref02_Letter.f k a0) (deadfallref02_Letter.f (k + 1) a0) := by
  intro a0 k
  unfold deadfallref02_Letter.f
  repeat' first
      | (with_reducible exact deadfallref02_among.mono _ _ _)
      | (with_reducible exact LeO.refl _)
      | (with_reducible exact LeO.none _)
      | (with_reducible refine LeO.ite ?_ ?_)
      | (with_reducible refine LeO.bind ?_ (fun _ => ?_))
      | exact deadfallref02_among.mono _ _ _
      | exact LeO.none _
      | refine LeO.ite ?_ ?_
      | refine LeO.bind ?_ (fun _ => ?_)
set_option maxHeartbeats 8000000 in
set_option maxRecDepth 100000 in
theorem deadfallref02_Letter.calls (k : Nat) (a0 : Int) (r : Bool) (w : World) (h : deadfallref02_Letter.f k a0 = some r) :
    Calls Tryd.prog 47 #[.int .u8 a0] w fun e w' => e = .returned (.bool r) ∧ Drawn0 w w' := by
  have H : ((deadfallref02_among.f k a0 (⟨#[97, 98, 99, 100, 101, 102, 103, 104, 105, 106, 107, 108, 109, 110, 111, 112, 113, 114, 115, 116, 117, 118, 119, 120, 121, 122, 65, 66, 67, 68, 69, 70, 71, 72, 73, 74, 75, 76, 77, 78, 79, 80, 81, 82, 83, 84, 85, 86, 87, 88, 89, 90, 95]⟩ : ByteArray)).bind fun t161 => (some t161)) = some r := h
  clear h
  replace H := Option.bind_eq_some_iff.mp H
  obtain ⟨t161, A20, H⟩ := H
  replace H : (some t161) = some r := H
  have A2 := Aside0.mk A20
  clear A20
  obtain rfl := Option.some.inj H
  go_enter Tryd.func47, Tryd.ntmps47
  go_wp2_with (first | ((with_reducible refine gate_callee (f := 56) rfl ?_); refine goesL_ (some 4) rfl rfl Tryd.func56 (by kernel_rfl) rfl #[.int .u8 a0, .string (⟨#[97, 98, 99, 100, 101, 102, 103, 104, 105, 106, 107, 108, 109, 110, 111, 112, 113, 114, 115, 116, 117, 118, 119, 120, 121, 122, 65, 66, 67, 68, 69, 70, 71, 72, 73, 74, 75, 76, 77, 78, 79, 80, 81, 82, 83, 84, 85, 86, 87, 88, 89, 90, 95]⟩ : ByteArray)] rfl (by (try simp only [List.map_toArray, List.map_cons, List.map_nil]); first | done | rfl | (simp only [List.length_drop, List.length_take]; rfl)) ?_; (with_reducible refine (deadfallref02_among.calls k a0 (⟨#[97, 98, 99, 100, 101, 102, 103, 104, 105, 106, 107, 108, 109, 110, 111, 112, 113, 114, 115, 116, 117, 118, 119, 120, 121, 122, 65, 66, 67, 68, 69, 70, 71, 72, 73, 74, 75, 76, 77, 78, 79, 80, 81, 82, 83, 84, 85, 86, 87, 88, 89, 90, 95]⟩ : ByteArray) t161 _ A2.out).mono ?_); rintro e w' ⟨rfl, ⟨nd, rfl⟩⟩; refine ⟨_, rfl, ?_⟩))
  go_ret
  exact ⟨by first | rfl | (simp; done) | (simp [*]; done), by repeat (first | exact Drawn0.refl _ | apply Drawn0.step)⟩

/-! ### deadfallref02_Digit: function 48 -/
def deadfallref02_Digit.f (k : Nat) (a0 : Int) : Option (Bool) := (deadfallref02_among.f k a0 (⟨#[48, 49, 50, 51, 52, 53, 54, 55, 56, 57]⟩ : ByteArray)).bind fun t162 => (some t162)
theorem deadfallref02_Digit.mono : ∀ a0 k, LeO (deadfallref02_Digit.f k a0) (deadfallref02_Digit.f (k + 1) a0) := by
  intro a0 k
  unfold deadfallref02_Digit.f
  repeat' first
      | (with_reducible exact deadfallref02_among.mono _ _ _)
      | (with_reducible exact LeO.refl _)
      | (with_reducible exact LeO.none _)
      | (with_reducible refine LeO.ite ?_ ?_)
      | (with_reducible refine LeO.bind ?_ (fun _ => ?_))
      | exact deadfallref02_among.mono _ _ _
      | exact LeO.none _
      | refine LeO.ite ?_ ?_
      | refine LeO.bind ?_ (fun _ => ?_)
set_option maxHeartbeats 8000000 in
set_option maxRecDepth 100000 in
theorem deadfallref02_Digit.calls (k : Nat) (a0 : Int) (r : Bool) (w : World) (h : deadfallref02_Digit.f k a0 = some r) :
    Calls Tryd.prog 48 #[.int .u8 a0] w fun e w' => e = .returned (.bool r) ∧ Drawn0 w w' := by
  have H : ((deadfallref02_among.f k a0 (⟨#[48, 49, 50, 51, 52, 53, 54, 55, 56, 57]⟩ : ByteArray)).bind fun t162 => (some t162)) = some r := h
  clear h
  replace H := Option.bind_eq_some_iff.mp H
  obtain ⟨t162, A20, H⟩ := H
  replace H : (some t162) = some r := H
  have A2 := Aside0.mk A20
  clear A20
  obtain rfl := Option.some.inj H
  go_enter Tryd.func48, Tryd.ntmps48
  go_wp2_with (first | ((with_reducible refine gate_callee (f := 56) rfl ?_); refine goesL_ (some 4) rfl rfl Tryd.func56 (by kernel_rfl) rfl #[.int .u8 a0, .string (⟨#[48, 49, 50, 51, 52, 53, 54, 55, 56, 57]⟩ : ByteArray)] rfl (by (try simp only [List.map_toArray, List.map_cons, List.map_nil]); first | done | rfl | (simp only [List.length_drop, List.length_take]; rfl)) ?_; (with_reducible refine (deadfallref02_among.calls k a0 (⟨#[48, 49, 50, 51, 52, 53, 54, 55, 56, 57]⟩ : ByteArray) t162 _ A2.out).mono ?_); rintro e w' ⟨rfl, ⟨nd, rfl⟩⟩; refine ⟨_, rfl, ?_⟩))
  go_ret
  exact ⟨by first | rfl | (simp; done) | (simp [*]; done), by repeat (first | exact Drawn0.refl _ | apply Drawn0.step)⟩

end Go.Proofs.YtkecpfjmdokieaaDoor.P
/- class: contracts. -/
namespace Go.Proofs.YtkecpfjmdokieaaDoor.Class
open Go.RowKit Go.Proofs.YtkecpfjmdokieaaDoorW.PrintWords Go.Proofs.YtkecpfjmdokieaaDoorW.PrintLast Go.Proofs.YtkecpfjmdokieaaDoor.Base
set_option linter.unusedVariables false
set_option linter.unusedSimpArgs false
def blankB (c : Int) : Bool := c == 32 || c == 9
def breakB (c : Int) : Bool := blankB c || c == 10
set_option maxHeartbeats 400000 in
theorem blank_any (c : Int) (w : World) : Calls Tryd.prog 90 #[.int .u8 c] w fun e w' => e = .returned (.bool (blankB c)) ∧ w = w' := by
  unfold blankB
  by_cases h : (c == 32) = true
  · go_enter Tryd.func90, Tryd.ntmps90
    go_wp2
    go_ret
    exact ⟨by simp [h], rfl⟩
  · replace h := Bool.eq_false_iff.mpr h
    go_enter Tryd.func90, Tryd.ntmps90
    go_wp2
    go_ret
    exact ⟨by simp [h], rfl⟩
set_option maxHeartbeats 400000 in
theorem break_any (c : Int) (w : World) : Calls Tryd.prog 67 #[.int .u8 c] w fun e w' => e = .returned (.bool (breakB c)) ∧ w = w' := by
  unfold breakB
  by_cases h : blankB c = true
  · go_enter Tryd.func67, Tryd.ntmps67
    go_wp2_with (go_at_call 90; refine (blank_any _ _).mono ?_; rintro e w' ⟨rfl, rfl⟩)
    go_ret
    exact ⟨by simp [h], rfl⟩
  · replace h := Bool.eq_false_iff.mpr h
    go_enter Tryd.func67, Tryd.ntmps67
    go_wp2_with (go_at_call 90; refine (blank_any _ _).mono ?_; rintro e w' ⟨rfl, rfl⟩)
    go_ret
    exact ⟨by simp [h], rfl⟩
end Go.Proofs.YtkecpfjmdokieaaDoor.Class
/- class: the other functions of the program. -/
namespace Go.Proofs.YtkecpfjmdokieaaDoor.Class
open Go.RowKit Go.Proofs.YtkecpfjmdokieaaDoorW.PrintWords Go.Proofs.YtkecpfjmdokieaaDoorW.PrintLast Go.Proofs.YtkecpfjmdokieaaDoor.Base
set_option linter.unusedVariables false
set_option linter.unusedSimpArgs false
def digitB (c : Int) : Bool := decide (48 ≤ c) && decide (c ≤ 57)
def letterB (c : Int) : Bool := (decide (97 ≤ c) && decide (c ≤ 122)) || (decide (65 ≤ c) && decide (c ≤ 90)) || c == 95
def signB (c : Int) : Bool := [59, 38, 124, 40, 41, 60, 62].contains c
def bareB (c : Int) : Bool := !breakB c && !signB c && c != 36 && c != 92 && c != 34 && c != 39 && c != 96
theorem ret_b {a b : Bool} (h : a = b) : Ending.returned (.bool a) = .returned (.bool b) := by rw [h]
/-- A fact of all bytes. -/
theorem all_bytes {p : Int → Prop} (h : ∀ n : Fin 256, p ((n.val : Nat) : Int)) {c : Int} (h0 : 0 ≤ c) (h1 : c ≤ 255) : p c := by
  obtain ⟨n, rfl⟩ := Int.eq_ofNat_of_zero_le h0
  exact h ⟨n, by omega⟩
set_option maxHeartbeats 400000 in
theorem digit_any (c : Int) (w : World) : Calls Tryd.prog 46 #[.int .u8 c] w fun e w' => e = .returned (.bool (digitB c)) ∧ w = w' := by
  unfold digitB
  go_enter Tryd.func46, Tryd.ntmps46
  go_wp2
  all_goals
    go_ret
    exact ⟨ret_b (by first | (simp [*]; done) | (simp; omega)), rfl⟩
set_option maxHeartbeats 400000 in
theorem letter_any (c : Int) (w : World) : Calls Tryd.prog 45 #[.int .u8 c] w fun e w' => e = .returned (.bool (letterB c)) ∧ w = w' := by
  unfold letterB
  go_enter Tryd.func45, Tryd.ntmps45
  go_wp2
  all_goals
    go_ret
    refine ⟨ret_b ?_, rfl⟩
    simp at *
    first | done | omega
theorem sign_eq {c : Int} (h0 : 0 ≤ c) (h1 : c ≤ 255) : decide (0 ≤ Lib.indexByte [59, 38, 124, 40, 41, 60, 62] c.toNat.toUInt8) = signB c :=
  all_bytes (p := fun c => decide (0 ≤ Lib.indexByte [59, 38, 124, 40, 41, 60, 62] c.toNat.toUInt8) = signB c) (by decide +kernel) h0 h1
set_option maxHeartbeats 400000 in
theorem sign_any (c : Int) (w : World) (h0 : 0 ≤ c) (h1 : c ≤ 255) : Calls Tryd.prog 68 #[.int .u8 c] w fun e w' => e = .returned (.bool (signB c)) ∧ w = w' := by
  have hs := sign_eq h0 h1
  go_enter Tryd.func68, Tryd.ntmps68
  go_wp2_with (go_at_call 58; refine (Tryd.strings_IndexByte _ _ _).mono ?_; rintro e w' ⟨rfl, rfl⟩)
  go_ret
  exact ⟨ret_b (by first | rfl | exact hs), rfl⟩
set_option maxHeartbeats 400000 in
theorem bare_any (c : Int) (w : World) (h0 : 0 ≤ c) (h1 : c ≤ 255) : Calls Tryd.prog 50 #[.int .u8 c] w fun e w' => e = .returned (.bool (bareB c)) ∧ w = w' := by
  unfold bareB
  go_enter Tryd.func50, Tryd.ntmps50
  go_wp2_with (first
    | (go_at_call 67; refine (break_any _ _).mono ?_; rintro e w' ⟨rfl, rfl⟩)
    | (go_at_call 68; refine (sign_any _ _ h0 h1).mono ?_; rintro e w' ⟨rfl, rfl⟩))
  all_goals
    go_ret
    exact ⟨ret_b (by simp [*]), rfl⟩
/-- Names, parameters, of a text's bytes. -/
def nameL (l : List Int) : Bool := match l with
  | [] => false
  | c :: r => letterB c && r.all fun c => letterB c || digitB c
def nameB (s : ByteArray) : Bool := nameL (bytesOf s)
theorem bytes_get (s : ByteArray) (k : Nat) (h : k < s.size) : (bytesOf s)[k]'(by rw [bytesOf_length]; exact h) = bt s k := by
  rw [← rd_bytesOf]
  simp [rd, List.getD_eq_getElem?_getD, List.getElem?_eq_getElem (show k < (bytesOf s).length by rw [bytesOf_length]; exact h)]
/-- 'all' and 'contains' by places. -/
theorem all_iff (s : ByteArray) (p : Int → Bool) : (bytesOf s).all p = true ↔ ∀ k : Nat, k < s.size → p (bt s k) = true := by
  rw [List.all_eq_true]
  constructor
  · intro h k hk
    rw [← bytes_get s k hk]
    exact h _ (List.getElem_mem _)
  · intro h x hx
    obtain ⟨k, hk, rfl⟩ := List.getElem_of_mem hx
    rw [bytesOf_length] at hk
    rw [bytes_get s k hk]
    exact h k hk
theorem name_iff (s : ByteArray) : nameB s = true ↔ s.size ≠ 0 ∧ letterB (bt s 0) = true ∧ ∀ k : Nat, k < s.size → (letterB (bt s k) || digitB (bt s k)) = true := by
  unfold nameB
  have hl := bytesOf_length s
  have ha := all_iff s (fun c => letterB c || digitB c)
  cases hb : bytesOf s with
  | nil => rw [hb] at hl; simp at hl; simp [nameL, hl.symm]
  | cons c r =>
    rw [hb] at hl ha
    have h0 : 0 < s.size := by simp at hl; omega
    have hc : c = bt s 0 := by
      have := bytes_get s 0 h0
      simp only [hb, List.getElem_cons_zero] at this
      exact this
    simp only [nameL, Bool.and_eq_true]
    rw [← hc, ← ha]
    simp only [List.all_cons, Bool.and_eq_true, Bool.or_eq_true]
    constructor
    · rintro ⟨h1, h2⟩; exact ⟨by omega, h1, .inl h1, h2⟩
    · rintro ⟨_, h1, _, h2⟩; exact ⟨h1, h2⟩
set_option maxHeartbeats 1000000 in
set_option maxRecDepth 100000 in
theorem name_any (s : ByteArray) (w : World) (hs : s.size ≤ 140737488355328) : Calls Tryd.prog 32 #[.string s] w fun e w' => e = .returned (.bool (nameB s)) ∧ w = w' := by
  go_enter Tryd.func32, Tryd.ntmps32
  go_wp2
  go_loop [6] (fun v6 => ∃ k : Nat, k ≤ s.size ∧ v6 = .int .i64 k ∧ Aside0 (∀ j : Nat, j < k → (letterB (bt s j) || digitB (bt s j)) = true ∧ (j = 0 → letterB (bt s 0) = true))) (fun v6 => s.size - (intOf v6).toNat)
  case atStart => exact ⟨0, Nat.zero_le _, rfl, ⟨by omega⟩⟩
  case round =>
    obtain ⟨k, hk, rfl, HA⟩ := hrel
    by_cases hlt : k < s.size
    · have hbt := bt_nat s k
      have hi0 : (0 : Int) ≤ (k : Int) := by omega
      have hi1 : (k : Int) < (s.size : Int) := by omega
      by_cases h1 : letterB (bt s k) = true
      · go_wp2_with (first
          | (go_at_call 45; refine (letter_any _ _).mono ?_; rintro e w' ⟨rfl, rfl⟩)
          | (go_at_call 46; refine (digit_any _ _).mono ?_; rintro e w' ⟨rfl, rfl⟩))
        go_round
        case measure => simp [intOf]; omega
        case rel =>
          refine ⟨k + 1, by omega, by go_num, ⟨fun j hj => ?_⟩⟩
          rcases Nat.lt_or_ge j k with h | h
          · exact HA.out j h
          · obtain rfl : j = k := by omega
            exact ⟨by rw [h1]; rfl, by rintro rfl; exact h1⟩
      · replace h1 := Bool.eq_false_iff.mpr h1
        by_cases hk0 : k = 0
        · subst hk0
          have h10 : letterB (bt s 0) = false := h1
          have hb0 : ∀ h : 0 < s.size, ((s[0]'h).toNat : Int) = bt s 0 := bt_nat s 0
          clear hbt
          go_wp2_with (first
            | (go_at_call 45; refine (letter_any _ _).mono ?_; rintro e w' ⟨rfl, rfl⟩)
            | (go_at_call 46; refine (digit_any _ _).mono ?_; rintro e w' ⟨rfl, rfl⟩))
          go_ret
          refine ⟨ret_b ?_, rfl⟩
          cases hn : nameB s with
          | false => rfl
          | true => have := ((name_iff s).1 hn).2.1; rw [show ((0 : Nat) : Int) = 0 from rfl] at h1; rw [h1] at this; cases this
        · have hd0 : ((k : Int) == 0) = false := by simpa using hk0
          by_cases h2 : digitB (bt s k) = true
          · go_wp2_with (first
              | (go_at_call 45; refine (letter_any _ _).mono ?_; rintro e w' ⟨rfl, rfl⟩)
              | (go_at_call 46; refine (digit_any _ _).mono ?_; rintro e w' ⟨rfl, rfl⟩))
            go_round
            case measure => simp [intOf]; omega
            case rel =>
              refine ⟨k + 1, by omega, by go_num, ⟨fun j hj => ?_⟩⟩
              rcases Nat.lt_or_ge j k with h | h
              · exact HA.out j h
              · obtain rfl : j = k := by omega
                exact ⟨by rw [h1, h2]; rfl, fun h => absurd h hk0⟩
          · replace h2 := Bool.eq_false_iff.mpr h2
            go_wp2_with (first
              | (go_at_call 45; refine (letter_any _ _).mono ?_; rintro e w' ⟨rfl, rfl⟩)
              | (go_at_call 46; refine (digit_any _ _).mono ?_; rintro e w' ⟨rfl, rfl⟩))
            go_ret
            refine ⟨ret_b ?_, rfl⟩
            cases hn : nameB s with
            | false => rfl
            | true => have := ((name_iff s).1 hn).2.2 k hlt; rw [h1, h2] at this; cases this
    · obtain rfl : k = s.size := by omega
      have HN := Aside0.mk (name_iff s)
      by_cases hz : s.size = 0
      · have he : s.toList = [] := by rw [ByteArray.toList_eq]; exact List.eq_nil_of_length_eq_zero (by rw [data_length]; exact hz)
        have hnf : nameB s = false := by
          cases hn : nameB s with
          | false => rfl
          | true => exact absurd hz ((name_iff s).1 hn).1
        have HF := Aside0.mk hnf
        clear hnf
        go_wp2
        go_ret
        exact ⟨ret_b (by rw [HF.out] <;> simp [he]), rfl⟩
      · obtain ⟨he0, he1, he2⟩ := str_ne_empty hz
        have hnt : nameB s = true := (name_iff s).2 ⟨hz, (HA.out 0 (by omega)).2 rfl, fun k hk => (HA.out k hk).1⟩
        have HT := Aside0.mk hnt
        clear hnt
        go_wp2
        go_ret
        exact ⟨ret_b (by rw [HT.out] <;> simp [he1, he2, he0]), rfl⟩
end Go.Proofs.YtkecpfjmdokieaaDoor.Class
/- class: Param and Reserved. -/
namespace Go.Proofs.YtkecpfjmdokieaaDoor.Class
open Go.RowKit Go.Proofs.YtkecpfjmdokieaaDoorW.PrintWords Go.Proofs.YtkecpfjmdokieaaDoorW.PrintLast Go.Proofs.YtkecpfjmdokieaaDoor.Base
set_option linter.unusedVariables false
set_option linter.unusedSimpArgs false
def setB (c : Int) : Bool := [64, 42, 35, 63, 36, 33].contains c
def allD (s : ByteArray) : Bool := (bytesOf s).all digitB
def paramB (s : ByteArray) : Bool := (decide (s.size = 1) && (digitB (bt s 0) || setB (bt s 0))) || nameB s || (allD s && decide (1 < s.size) && decide (s.size ≤ 3) && bt s 0 != 48)
theorem set_eq (c : UInt8) : decide (0 ≤ Lib.indexByte [64, 42, 35, 63, 36, 33] c) = setB (c.toNat : Int) := by
  have h : ∀ n : Fin 256, decide (0 ≤ Lib.indexByte [64, 42, 35, 63, 36, 33] (UInt8.ofNat n.val)) = setB ((n.val : Nat) : Int) := by decide +kernel
  have := h ⟨c.toNat, c.toNat_lt⟩
  simpa using this
theorem contains_set (c : UInt8) (w : World) : Calls Tryd.prog 69 #[.string ⟨#[64, 42, 35, 63, 36, 33]⟩, .string ⟨#[c]⟩] w fun e w' => e = .returned (.bool (setB (c.toNat : Int))) ∧ w = w' := by
  refine (Tryd.strings_Contains_one _ c w).mono ?_
  rintro e w' ⟨rfl, rfl⟩
  exact ⟨ret_b (set_eq c), rfl⟩
def notDigit (x : Nat) : Bool := decide (x < 48) || decide (57 < x)
set_option maxHeartbeats 400000 in
theorem closure_any (x : Nat) (w : World) : Calls Tryd.prog 71 #[.int .i32 (x : Int)] w fun e w' => e = .returned (.bool (notDigit x)) ∧ w = w' := by
  unfold notDigit
  have e1 : decide ((x : Int) < 48) = decide (x < 48) := by simp; omega
  have e2 : decide ((57 : Int) < (x : Int)) = decide (57 < x) := by simp; omega
  by_cases h1 : x < 48
  · have d1 : decide ((x : Int) < 48) = true := by rw [e1]; simpa using h1
    clear e1 e2
    go_enter Tryd.func71, Tryd.ntmps71
    go_wp2
    go_ret
    exact ⟨ret_b (by rw [decide_eq_true h1]; rfl), rfl⟩
  · have d1 : decide ((x : Int) < 48) = false := by rw [e1]; simpa using h1
    have d2 : decide ((57 : Int) < (x : Int)) = decide (57 < x) := e2
    have D2 := Aside0.mk d2
    clear e1 e2 d2
    go_enter Tryd.func71, Tryd.ntmps71
    go_wp2
    go_ret
    exact ⟨ret_b (by rw [decide_eq_false h1]; first | exact D2.out | (simp; done) | rfl), rfl⟩
theorem idx_from (s : ByteArray) : ∀ (f pos : Nat), s.size ≤ pos + f → (0 ≤ Lib.idxFuncFrom notDigit true s f pos ↔ ∃ j : Nat, pos ≤ j ∧ j < s.size ∧ digitB (bt s j) = false)
  | 0, pos, h => by
    simp only [Lib.idxFuncFrom]
    constructor
    · intro h; omega
    · rintro ⟨j, h1, h2, _⟩; omega
  | f + 1, pos, h => by
    unfold Lib.idxFuncFrom
    by_cases hp : pos < s.size
    · rw [if_pos hp]
      have hbt : bt s pos = ((s[pos]'hp).toNat : Int) := (bt_nat s pos hp).symm
      by_cases ha : (s[pos]'hp).toNat < 128
      · rw [decode_ascii s pos hp ha]
        by_cases hd : notDigit (s[pos]'hp).toNat = true
        · rw [if_pos hd]
          refine ⟨fun _ => ⟨pos, Nat.le_refl _, hp, ?_⟩, fun _ => by omega⟩
          rw [hbt]
          simp only [notDigit, digitB, Bool.or_eq_true, decide_eq_true_eq] at hd ⊢
          simp
          omega
        · rw [if_neg hd]
          rw [idx_from s f (pos + 1) (by omega)]
          constructor
          · rintro ⟨j, h1, h2, h3⟩; exact ⟨j, by omega, h2, h3⟩
          · rintro ⟨j, h1, h2, h3⟩
            rcases Nat.lt_or_ge pos j with h4 | h4
            · exact ⟨j, h4, h2, h3⟩
            · obtain rfl : j = pos := by omega
              rw [hbt] at h3
              simp only [notDigit, digitB, Bool.or_eq_true, decide_eq_true_eq] at hd h3
              simp at h3
              omega
      · have hh := decode_high s pos hp (by omega)
        have hd : notDigit (Utf8.decode s pos).1 = true := by simp only [notDigit, Bool.or_eq_true, decide_eq_true_eq]; omega
        rw [if_pos hd]
        refine ⟨fun _ => ⟨pos, Nat.le_refl _, hp, ?_⟩, fun _ => by omega⟩
        rw [hbt]
        simp only [digitB]
        simp
        omega
    · rw [if_neg hp]
      constructor
      · intro h; omega
      · rintro ⟨j, h1, h2, _⟩; omega
theorem idx_digits (s : ByteArray) : decide (0 ≤ Lib.idxFunc notDigit true s) = !allD s := by
  have h := idx_from s s.size 0 (by omega)
  have ha := all_iff s digitB
  unfold Lib.idxFunc
  cases hd : allD s with
  | true =>
    simp only [Bool.not_true, decide_eq_false_iff_not]
    rw [h]
    rintro ⟨j, _, h2, h3⟩
    rw [ha.1 hd j h2] at h3
    cases h3
  | false =>
    simp only [Bool.not_false, decide_eq_true_eq]
    rw [h]
    apply Classical.byContradiction
    intro hn
    have : allD s = true := ha.2 fun k hk => by
      cases hb : digitB (bt s k) with
      | true => rfl
      | false => exact absurd ⟨k, Nat.zero_le _, hk, hb⟩ hn
    rw [hd] at this
    cases this
theorem containsFunc_any (s : ByteArray) (w : World) : Calls Tryd.prog 70 #[.string s, .func (.func 71) #[] #[]] w fun e w' => e = .returned (.bool (!allD s)) ∧ Below w.heap.size w w' := by
  refine (Tryd.strings_ContainsFunc_grows 71 #[] (enters_of Tryd.func71 (by kernel_rfl) rfl) notDigit s w ?_).mono ?_
  · intro W x hx hb
    refine (closure_any x W).mono ?_
    rintro e w' ⟨rfl, rfl⟩
    exact ⟨rfl, Below.refl _ _⟩
  · rintro e w' ⟨rfl, hB⟩
    exact ⟨ret_b (idx_digits s), hB⟩
set_option maxHeartbeats 1000000 in
set_option maxRecDepth 100000 in
theorem param_one (c : UInt8) (w : World) : Calls Tryd.prog 51 #[.string ⟨#[c]⟩] w fun e w' => e = .returned (.bool (paramB ⟨#[c]⟩)) ∧ Below w.heap.size w w' := by
  have hb0 : bt ⟨#[c]⟩ 0 = (c.toNat : Int) := by unfold bt; rw [dif_pos (by show (0 : Nat) < 1; omega)]; rfl
  have hix : ∀ h : 0 < (⟨#[c]⟩ : ByteArray).size, (((⟨#[c]⟩ : ByteArray)[0]'h).toNat : Int) = (c.toNat : Int) := fun _ => rfl
  have hA : allD ⟨#[c]⟩ = digitB (c.toNat : Int) := by simp [allD, bytesOf]
  have hP : paramB ⟨#[c]⟩ = (digitB (c.toNat : Int) || setB (c.toNat : Int) || nameB ⟨#[c]⟩) := by
    unfold paramB
    rw [hb0, show (⟨#[c]⟩ : ByteArray).size = 1 from rfl]
    simp
  have HA := Aside0.mk hA
  rw [hP]
  clear hA hP
  generalize hN : nameB ⟨#[c]⟩ = nm
  have HN := Aside0.mk hN
  clear hN hb0
  by_cases h1 : digitB (c.toNat : Int) = true
  · go_enter Tryd.func51, Tryd.ntmps51
    go_wp2_with (go_at_call 46; refine (digit_any _ _).mono ?_; rintro e w' ⟨rfl, rfl⟩)
    go_ret
    exact ⟨ret_b (by simp [h1]), Below.refl _ _⟩
  · replace h1 := Bool.eq_false_iff.mpr h1
    by_cases h2 : setB (c.toNat : Int) = true
    · go_enter Tryd.func51, Tryd.ntmps51
      go_wp2_with (first
        | (go_at_call 46; refine (digit_any _ _).mono ?_; rintro e w' ⟨rfl, rfl⟩)
        | (go_at_call 69; refine (contains_set _ _).mono ?_; rintro e w' ⟨rfl, rfl⟩))
      go_ret
      exact ⟨ret_b (by simp [h2]), Below.refl _ _⟩
    · replace h2 := Bool.eq_false_iff.mpr h2
      cases nm with
      | true =>
        go_enter Tryd.func51, Tryd.ntmps51
        go_wp2_with (first
          | (go_at_call 46; refine (digit_any _ _).mono ?_; rintro e w' ⟨rfl, rfl⟩)
          | (go_at_call 69; refine (contains_set _ _).mono ?_; rintro e w' ⟨rfl, rfl⟩)
          | (go_at_call 32; refine (name_any _ _ (by show (1 : Nat) ≤ 140737488355328; omega)).mono ?_; rintro e w' ⟨rfl, rfl⟩; rw [HN.out]))
        go_ret
        exact ⟨ret_b (by simp), Below.refl _ _⟩
      | false =>
        go_enter Tryd.func51, Tryd.ntmps51
        go_wp2_with (first
          | (go_at_call 46; refine (digit_any _ _).mono ?_; rintro e w' ⟨rfl, rfl⟩)
          | (go_at_call 69; refine (contains_set _ _).mono ?_; rintro e w' ⟨rfl, rfl⟩)
          | (go_at_call 32; refine (name_any _ _ (by show (1 : Nat) ≤ 140737488355328; omega)).mono ?_; rintro e w' ⟨rfl, rfl⟩; rw [HN.out])
          | (go_at_call 70; refine (containsFunc_any _ _).mono ?_; rintro e w1 ⟨rfl, hB⟩; rw [HA.out]; have HB := Aside0.mk hB; clear hB))
        go_ret
        exact ⟨ret_b (by simp [h1, h2]), HB.out⟩
set_option maxHeartbeats 1000000 in
set_option maxRecDepth 100000 in
theorem param_many (s : ByteArray) (w : World) (hs : s.size ≤ 140737488355328) (h1 : s.size ≠ 1) : Calls Tryd.prog 51 #[.string s] w fun e w' => e = .returned (.bool (paramB s)) ∧ Below w.heap.size w w' := by
  have hP : paramB s = (nameB s || (allD s && decide (1 < s.size) && decide (s.size ≤ 3) && bt s 0 != 48)) := by
    unfold paramB
    simp [h1]
  rw [hP]
  clear hP
  have hn1 : ((s.size : Int) == 1) = false := by simp; omega
  have hn2 : (s.size == 1) = false := by simp; omega
  clear h1
  generalize hN : nameB s = nm
  have HN := Aside0.mk hN
  clear hN
  generalize hD : allD s = ad
  have HD := Aside0.mk hD
  clear hD
  cases nm with
  | true =>
    go_enter Tryd.func51, Tryd.ntmps51
    go_wp2_with (first
      | (go_at_call 32; refine (name_any _ _ hs).mono ?_; rintro e w' ⟨rfl, rfl⟩; rw [HN.out]))
    go_ret
    exact ⟨ret_b (by simp), Below.refl _ _⟩
  | false =>
    by_cases h2 : 1 < s.size
    · have hbt : ∀ h : 0 < s.size, ((s[0]'h).toNat : Int) = bt s 0 := bt_nat s 0
      have hi1 : (0 : Int) < (s.size : Int) := by omega
      have hi2 : 0 < s.size := by omega
      have hd1 : decide ((1 : Int) < (s.size : Int)) = true := by simp; omega
      by_cases h3 : s.size ≤ 3
      · have hd3 : decide ((s.size : Int) ≤ 3) = true := by simp; omega
        cases ad
        all_goals
          go_enter Tryd.func51, Tryd.ntmps51
          go_wp2_with (first
            | (go_at_call 32; refine (name_any _ _ hs).mono ?_; rintro e w' ⟨rfl, rfl⟩; rw [HN.out])
            | (go_at_call 70; refine (containsFunc_any _ _).mono ?_; rintro e w1 ⟨rfl, hB⟩; rw [HD.out]; have HB := Aside0.mk hB; clear hB))
          go_ret
          exact ⟨ret_b (by simp [h2, h3]), HB.out⟩
      · have hd3 : decide ((s.size : Int) ≤ 3) = false := by simp; omega
        cases ad
        all_goals
          go_enter Tryd.func51, Tryd.ntmps51
          go_wp2_with (first
            | (go_at_call 32; refine (name_any _ _ hs).mono ?_; rintro e w' ⟨rfl, rfl⟩; rw [HN.out])
            | (go_at_call 70; refine (containsFunc_any _ _).mono ?_; rintro e w1 ⟨rfl, hB⟩; rw [HD.out]; have HB := Aside0.mk hB; clear hB))
          go_ret
          exact ⟨ret_b (by simp [h2, h3]), HB.out⟩
    · have hd1 : decide ((1 : Int) < (s.size : Int)) = false := by simp; omega
      cases ad
      all_goals
        go_enter Tryd.func51, Tryd.ntmps51
        go_wp2_with (first
          | (go_at_call 32; refine (name_any _ _ hs).mono ?_; rintro e w' ⟨rfl, rfl⟩; rw [HN.out])
          | (go_at_call 70; refine (containsFunc_any _ _).mono ?_; rintro e w1 ⟨rfl, hB⟩; rw [HD.out]; have HB := Aside0.mk hB; clear hB))
        go_ret
        exact ⟨ret_b (by simp [h2]), HB.out⟩
theorem one_byte {s : ByteArray} (h : s.size = 1) : ∃ c, s = ⟨#[c]⟩ := by
  obtain ⟨⟨l⟩⟩ := s
  match l, h with
  | [c], _ => exact ⟨c, rfl⟩
theorem param_any (s : ByteArray) (w : World) (hs : s.size ≤ 140737488355328) : Calls Tryd.prog 51 #[.string s] w fun e w' => e = .returned (.bool (paramB s)) ∧ Below w.heap.size w w' := by
  by_cases h1 : s.size = 1
  · obtain ⟨c, rfl⟩ := one_byte h1
    exact param_one c w
  · exact param_many s w hs h1
def RES : List ByteArray := [⟨#[33]⟩, ⟨#[123]⟩, ⟨#[125]⟩, ⟨#[105, 102]⟩, ⟨#[116, 104, 101, 110]⟩, ⟨#[101, 108, 115, 101]⟩, ⟨#[101, 108, 105, 102]⟩, ⟨#[102, 105]⟩, ⟨#[119, 104, 105, 108, 101]⟩, ⟨#[117, 110, 116, 105, 108]⟩, ⟨#[100, 111]⟩, ⟨#[100, 111, 110, 101]⟩, ⟨#[102, 111, 114]⟩, ⟨#[105, 110]⟩, ⟨#[99, 97, 115, 101]⟩, ⟨#[101, 115, 97, 99]⟩]
def reservedB (s : ByteArray) : Bool := Lib.containsS RES s
theorem cells_of_list {w : World} {g t : Nat} {zs : List ByteArray} {cs : Array Value} (hg : w.heap[g]? = some (.cells cs t (0, 0))) (hc : cs = (zs.map Value.string).toArray) : ∀ j, j < zs.length → w.cell? ⟨g, 0 + j, none⟩ = some (.string (zs.getD j ByteArray.empty)) := by
  intro j hj
  rw [Nat.zero_add, blk_cell hg, hc]
  simp [List.getElem?_eq_getElem hj, List.getD_eq_getElem?_getD]
end Go.Proofs.YtkecpfjmdokieaaDoor.Class
/- class: the reference. -/
namespace Go.Proofs.YtkecpfjmdokieaaDoor.Class
open Go.RowKit Go.Proofs.YtkecpfjmdokieaaDoorW.PrintWords Go.Proofs.YtkecpfjmdokieaaDoorW.PrintLast Go.Proofs.YtkecpfjmdokieaaDoor.Base
set_option linter.unusedVariables false
set_option linter.unusedSimpArgs false
set_option maxHeartbeats 400000 in
theorem rbreak_any (c : Int) (w : World) : Calls Tryd.prog 75 #[.int .u8 c] w fun e w' => e = .returned (.bool (breakB c)) ∧ w = w' := by
  unfold breakB blankB
  go_enter Tryd.func75, Tryd.ntmps75
  go_wp2
  all_goals
    go_ret
    exact ⟨ret_b (by simp [*]), rfl⟩
theorem u8_range {c : Int} (h : (Lit.int .u8 c).wf = true) : 0 ≤ c ∧ c ≤ 255 := by
  simp only [Lit.wf, Bool.and_eq_true, decide_eq_true_eq] at h
  have h1 : IntKind.u8.min = 0 := rfl
  have h2 : IntKind.u8.max = 255 := rfl
  rw [h1, h2] at h
  exact h
theorem contains_iff (s : ByteArray) (c : Int) : (bytesOf s).contains c = true ↔ ∃ k : Nat, k < s.size ∧ bt s k = c := by
  rw [List.contains_iff_mem]
  constructor
  · intro h
    obtain ⟨k, hk, rfl⟩ := List.getElem_of_mem h
    rw [bytesOf_length] at hk
    exact ⟨k, hk, (bytes_get s k hk).symm⟩
  · rintro ⟨k, hk, rfl⟩
    rw [← bytes_get s k hk]
    exact List.getElem_mem _
set_option maxHeartbeats 400000 in
theorem among_any (c : Int) (s : ByteArray) (w : World) (hs : s.size ≤ 140737488355328) : Calls Tryd.prog 56 #[.int .u8 c, .string s] w fun e w' => e = .returned (.bool ((bytesOf s).contains c)) ∧ w = w' := by
  have HI := Aside0.mk (contains_iff s c)
  generalize (bytesOf s).contains c = r at *
  go_enter Tryd.func56, Tryd.ntmps56
  go_wp2
  go_loop [5] (fun v5 => ∃ k : Nat, k ≤ s.size ∧ v5 = .int .i64 k ∧ Aside0 (∀ j : Nat, j < k → bt s j ≠ c)) (fun v5 => s.size - (intOf v5).toNat)
  case atStart => exact ⟨0, Nat.zero_le _, rfl, ⟨by omega⟩⟩
  case round =>
    obtain ⟨k, hk, rfl, HA⟩ := hrel
    by_cases hlt : k < s.size
    · have hbt := bt_nat s k
      have hi0 : (0 : Int) ≤ (k : Int) := by omega
      have hi1 : (k : Int) < (s.size : Int) := by omega
      by_cases h1 : bt s k = c
      · have hq : (bt s k == c) = true := beq_iff_eq.2 h1
        have H1 := Aside0.mk h1
        clear h1
        go_wp2
        go_ret
        exact ⟨ret_b (HI.out.2 ⟨k, hlt, H1.out⟩).symm, rfl⟩
      · have hq : (bt s k == c) = false := beq_eq_false_iff_ne.2 h1
        have H1 := Aside0.mk h1
        clear h1
        go_wp2
        go_round
        case measure => simp [intOf]; omega
        case rel =>
          refine ⟨k + 1, by omega, by go_num, ⟨fun j hj => ?_⟩⟩
          rcases Nat.lt_or_ge j k with h | h
          · exact HA.out j h
          · obtain rfl : j = k := by omega
            exact H1.out
    · go_wp2
      go_ret
      refine ⟨ret_b ?_, rfl⟩
      cases hr : r with
      | false => rfl
      | true =>
        obtain ⟨j, h1, h2⟩ := HI.out.1 hr
        exact absurd h2 (HA.out j (by omega))
theorem rsign_eq {c : Int} (h0 : 0 ≤ c) (h1 : c ≤ 255) : (bytesOf ⟨#[59, 38, 124, 40, 41, 60, 62]⟩).contains c = signB c :=
  all_bytes (p := fun c => (bytesOf ⟨#[59, 38, 124, 40, 41, 60, 62]⟩).contains c = signB c) (by decide +kernel) h0 h1
set_option maxHeartbeats 400000 in
theorem rsign_any (c : Int) (w : World) (h0 : 0 ≤ c) (h1 : c ≤ 255) : Calls Tryd.prog 76 #[.int .u8 c] w fun e w' => e = .returned (.bool (signB c)) ∧ w = w' := by
  have HE := Aside0.mk (rsign_eq h0 h1)
  go_enter Tryd.func76, Tryd.ntmps76
  go_wp2_with (go_at_call 56; refine (among_any _ ⟨#[59, 38, 124, 40, 41, 60, 62]⟩ _ (by decide)).mono ?_; rintro e w' ⟨rfl, rfl⟩; rw [HE.out])
  go_ret
  exact ⟨rfl, rfl⟩
theorem rletter_eq {c : Int} (h0 : 0 ≤ c) (h1 : c ≤ 255) : (bytesOf ⟨#[97, 98, 99, 100, 101, 102, 103, 104, 105, 106, 107, 108, 109, 110, 111, 112, 113, 114, 115, 116, 117, 118, 119, 120, 121, 122, 65, 66, 67, 68, 69, 70, 71, 72, 73, 74, 75, 76, 77, 78, 79, 80, 81, 82, 83, 84, 85, 86, 87, 88, 89, 90, 95]⟩).contains c = letterB c :=
  all_bytes (p := fun c => (bytesOf ⟨#[97, 98, 99, 100, 101, 102, 103, 104, 105, 106, 107, 108, 109, 110, 111, 112, 113, 114, 115, 116, 117, 118, 119, 120, 121, 122, 65, 66, 67, 68, 69, 70, 71, 72, 73, 74, 75, 76, 77, 78, 79, 80, 81, 82, 83, 84, 85, 86, 87, 88, 89, 90, 95]⟩).contains c = letterB c) (by decide +kernel) h0 h1
set_option maxHeartbeats 400000 in
theorem rletter_any (c : Int) (w : World) (h0 : 0 ≤ c) (h1 : c ≤ 255) : Calls Tryd.prog 47 #[.int .u8 c] w fun e w' => e = .returned (.bool (letterB c)) ∧ w = w' := by
  have HE := Aside0.mk (rletter_eq h0 h1)
  go_enter Tryd.func47, Tryd.ntmps47
  go_wp2_with (go_at_call 56; refine (among_any _ ⟨#[97, 98, 99, 100, 101, 102, 103, 104, 105, 106, 107, 108, 109, 110, 111, 112, 113, 114, 115, 116, 117, 118, 119, 120, 121, 122, 65, 66, 67, 68, 69, 70, 71, 72, 73, 74, 75, 76, 77, 78, 79, 80, 81, 82, 83, 84, 85, 86, 87, 88, 89, 90, 95]⟩ _ (by decide)).mono ?_; rintro e w' ⟨rfl, rfl⟩; rw [HE.out])
  go_ret
  exact ⟨rfl, rfl⟩
theorem rdigit_eq {c : Int} (h0 : 0 ≤ c) (h1 : c ≤ 255) : (bytesOf ⟨#[48, 49, 50, 51, 52, 53, 54, 55, 56, 57]⟩).contains c = digitB c :=
  all_bytes (p := fun c => (bytesOf ⟨#[48, 49, 50, 51, 52, 53, 54, 55, 56, 57]⟩).contains c = digitB c) (by decide +kernel) h0 h1
set_option maxHeartbeats 400000 in
theorem rdigit_any (c : Int) (w : World) (h0 : 0 ≤ c) (h1 : c ≤ 255) : Calls Tryd.prog 48 #[.int .u8 c] w fun e w' => e = .returned (.bool (digitB c)) ∧ w = w' := by
  have HE := Aside0.mk (rdigit_eq h0 h1)
  go_enter Tryd.func48, Tryd.ntmps48
  go_wp2_with (go_at_call 56; refine (among_any _ ⟨#[48, 49, 50, 51, 52, 53, 54, 55, 56, 57]⟩ _ (by decide)).mono ?_; rintro e w' ⟨rfl, rfl⟩; rw [HE.out])
  go_ret
  exact ⟨rfl, rfl⟩
set_option maxHeartbeats 400000 in
theorem rbare_any (c : Int) (w : World) (h0 : 0 ≤ c) (h1 : c ≤ 255) : Calls Tryd.prog 55 #[.int .u8 c] w fun e w' => e = .returned (.bool (bareB c)) ∧ w = w' := by
  have e : bareB c = (!breakB c && !signB c && c != 34 && c != 36 && c != 39 && c != 92 && c != 96) := by
    unfold bareB
    cases breakB c <;> cases signB c <;> cases c != 34 <;> cases c != 36 <;> cases c != 39 <;> cases c != 92 <;> cases c != 96 <;> rfl
  rw [e]
  clear e
  go_enter Tryd.func55, Tryd.ntmps55
  go_wp2_with (first
    | (go_at_call 75; refine (rbreak_any _ _).mono ?_; rintro e w' ⟨rfl, rfl⟩)
    | (go_at_call 76; refine (rsign_any _ _ h0 h1).mono ?_; rintro e w' ⟨rfl, rfl⟩))
  all_goals
    go_ret
    exact ⟨ret_b (by simp [*]), rfl⟩
set_option maxHeartbeats 1000000 in
set_option maxRecDepth 100000 in
theorem rname_any (s : ByteArray) (w : World) (hs : s.size ≤ 140737488355328) : Calls Tryd.prog 34 #[.string s] w fun e w' => e = .returned (.bool (nameB s)) ∧ w = w' := by
  have HN := Aside0.mk (name_iff s)
  generalize nameB s = nm at *
  by_cases hz : s.size = 0
  · have h1 : ((s.size : Int) == 0) = true := by simp [hz]
    have HZ := Aside0.mk hz
    clear hz
    go_enter Tryd.func34, Tryd.ntmps34
    go_wp2
    go_ret
    refine ⟨ret_b ?_, rfl⟩
    cases hn : nm with
    | false => rfl
    | true => exact absurd HZ.out (HN.out.1 hn).1
  · have h1 : ((s.size : Int) == 0) = false := by simp [hz]
    have hp : 0 < s.size := by omega
    have hpi : (0 : Int) < (s.size : Int) := by omega
    have hbt0 : ∀ h : 0 < s.size, ((s[0]'h).toNat : Int) = bt s 0 := bt_nat s 0
    have hr0 := bt_range s 0
    by_cases hl0 : letterB (bt s 0) = true
    · go_enter Tryd.func34, Tryd.ntmps34
      go_wp2_with (go_at_call 47; refine (rletter_any _ _ (by first | exact hr0.1 | omega) (by first | exact hr0.2 | omega)).mono ?_; rintro e w' ⟨rfl, rfl⟩)
      clear hbt0
      go_loop [3] (fun v3 => ∃ k : Nat, 1 ≤ k ∧ k ≤ s.size ∧ v3 = .int .i64 k ∧ Aside0 (∀ j : Nat, j < k → (letterB (bt s j) || digitB (bt s j)) = true)) (fun v3 => s.size - (intOf v3).toNat)
      case atStart =>
        refine ⟨1, Nat.le_refl _, hp, rfl, ⟨fun j hj => ?_⟩⟩
        obtain rfl : j = 0 := by omega
        have : letterB (bt s ((0 : Nat) : Int)) = true := hl0
        rw [this]
        rfl
      case round =>
        obtain ⟨k, hk1, hk, rfl, HA⟩ := hrel
        by_cases hlt : k < s.size
        · have hbt := bt_nat s k
          have hr := bt_range s k
          have hi0 : (0 : Int) ≤ (k : Int) := by omega
          have hi1 : (k : Int) < (s.size : Int) := by omega
          by_cases h2 : letterB (bt s k) = true
          · go_wp2_with (go_at_call 47; refine (rletter_any _ _ hr.1 hr.2).mono ?_; rintro e w' ⟨rfl, rfl⟩)
            go_round
            case measure => simp [intOf]; omega
            case rel =>
              refine ⟨k + 1, by omega, by omega, by go_num, ⟨fun j hj => ?_⟩⟩
              rcases Nat.lt_or_ge j k with h | h
              · exact HA.out j h
              · obtain rfl : j = k := by omega
                rw [h2]; rfl
          · replace h2 := Bool.eq_false_iff.mpr h2
            by_cases h3 : digitB (bt s k) = true
            · go_wp2_with (first
                | (go_at_call 47; refine (rletter_any _ _ hr.1 hr.2).mono ?_; rintro e w' ⟨rfl, rfl⟩)
                | (go_at_call 48; refine (rdigit_any _ _ hr.1 hr.2).mono ?_; rintro e w' ⟨rfl, rfl⟩))
              go_round
              case measure => simp [intOf]; omega
              case rel =>
                refine ⟨k + 1, by omega, by omega, by go_num, ⟨fun j hj => ?_⟩⟩
                rcases Nat.lt_or_ge j k with h | h
                · exact HA.out j h
                · obtain rfl : j = k := by omega
                  rw [h2, h3]; rfl
            · replace h3 := Bool.eq_false_iff.mpr h3
              go_wp2_with (first
                | (go_at_call 47; refine (rletter_any _ _ hr.1 hr.2).mono ?_; rintro e w' ⟨rfl, rfl⟩)
                | (go_at_call 48; refine (rdigit_any _ _ hr.1 hr.2).mono ?_; rintro e w' ⟨rfl, rfl⟩))
              go_ret
              refine ⟨ret_b ?_, rfl⟩
              cases hn : nm with
              | false => rfl
              | true => have := (HN.out.1 hn).2.2 k hlt; rw [h2, h3] at this; cases this
        · obtain rfl : k = s.size := by omega
          have hnt : nm = true := HN.out.2 ⟨hz, hl0, fun k hk => HA.out k hk⟩
          have HT := Aside0.mk hnt
          clear hnt
          go_wp2
          go_ret
          exact ⟨ret_b (by rw [HT.out]), rfl⟩
    · replace hl0 := Bool.eq_false_iff.mpr hl0
      go_enter Tryd.func34, Tryd.ntmps34
      go_wp2_with (go_at_call 47; refine (rletter_any _ _ (by first | exact hr0.1 | omega) (by first | exact hr0.2 | omega)).mono ?_; rintro e w' ⟨rfl, rfl⟩)
      go_ret
      refine ⟨ret_b ?_, rfl⟩
      cases hn : nm with
      | false => rfl
      | true => have := (HN.out.1 hn).2.1; rw [hl0] at this; cases this
set_option maxHeartbeats 1000000 in
theorem rdigits_any (s : ByteArray) (w : World) (hs : s.size ≤ 140737488355328) : Calls Tryd.prog 57 #[.string s] w fun e w' => e = .returned (.bool (allD s && decide (0 < s.size))) ∧ w = w' := by
  have HD := Aside0.mk (all_iff s digitB)
  rw [show allD s = (bytesOf s).all digitB from rfl]
  generalize (bytesOf s).all digitB = ad at *
  go_enter Tryd.func57, Tryd.ntmps57
  go_wp2
  go_loop [3] (fun v3 => ∃ k : Nat, k ≤ s.size ∧ v3 = .int .i64 k ∧ Aside0 (∀ j : Nat, j < k → digitB (bt s j) = true)) (fun v3 => s.size - (intOf v3).toNat)
  case atStart => exact ⟨0, Nat.zero_le _, rfl, ⟨by omega⟩⟩
  case round =>
    obtain ⟨k, hk, rfl, HA⟩ := hrel
    by_cases hlt : k < s.size
    · have hbt := bt_nat s k
      have hr := bt_range s k
      have hi0 : (0 : Int) ≤ (k : Int) := by omega
      have hi1 : (k : Int) < (s.size : Int) := by omega
      by_cases h2 : digitB (bt s k) = true
      · go_wp2_with (go_at_call 48; refine (rdigit_any _ _ hr.1 hr.2).mono ?_; rintro e w' ⟨rfl, rfl⟩)
        go_round
        case measure => simp [intOf]; omega
        case rel =>
          refine ⟨k + 1, by omega, by go_num, ⟨fun j hj => ?_⟩⟩
          rcases Nat.lt_or_ge j k with h | h
          · exact HA.out j h
          · obtain rfl : j = k := by omega
            exact h2
      · replace h2 := Bool.eq_false_iff.mpr h2
        go_wp2_with (go_at_call 48; refine (rdigit_any _ _ hr.1 hr.2).mono ?_; rintro e w' ⟨rfl, rfl⟩)
        go_ret
        refine ⟨ret_b ?_, rfl⟩
        cases hn : ad with
        | false => rfl
        | true => have := HD.out.1 hn k hlt; rw [h2] at this; cases this
    · obtain rfl : k = s.size := by omega
      have ht : ad = true := HD.out.2 fun k hk => HA.out k hk
      have HT := Aside0.mk ht
      have e1 : decide ((0 : Int) < (s.size : Int)) = decide (0 < s.size) := by simp
      have E1 := Aside0.mk e1
      clear ht e1
      go_wp2
      go_ret
      exact ⟨ret_b (by rw [HT.out, Bool.true_and] <;> first | rfl | exact E1.out), rfl⟩
theorem rset_eq {c : Int} (h0 : 0 ≤ c) (h1 : c ≤ 255) : (bytesOf ⟨#[64, 42, 35, 63, 36, 33, 48]⟩).contains c = (setB c || c == 48) :=
  all_bytes (p := fun c => (bytesOf ⟨#[64, 42, 35, 63, 36, 33, 48]⟩).contains c = (setB c || c == 48)) (by decide +kernel) h0 h1
theorem digit_48 {c : Int} : (c == 48) = true → digitB c = true := by
  intro h
  have : c = 48 := by simpa using h
  subst this
  rfl
theorem paramB_eq (s : ByteArray) : paramB s = ((decide (s.size = 1) && (setB (bt s 0) || bt s 0 == 48)) || nameB s || ((allD s && decide (0 < s.size)) && decide (s.size ≤ 3) && bt s 0 != 48)) := by
  unfold paramB
  by_cases h1 : s.size = 1
  · obtain ⟨c, rfl⟩ := one_byte h1
    have hb0 : bt ⟨#[c]⟩ 0 = (c.toNat : Int) := by unfold bt; rw [dif_pos (by show (0 : Nat) < 1; omega)]; rfl
    have hA : allD ⟨#[c]⟩ = digitB (c.toNat : Int) := by simp [allD, bytesOf]
    rw [hb0, hA, show (⟨#[c]⟩ : ByteArray).size = 1 from rfl]
    have hd := @digit_48 (c.toNat : Int)
    simp only [decide_true, Bool.true_and, bne]
    cases h : ((c.toNat : Int) == 48) <;> cases hh : digitB (c.toNat : Int) <;> simp_all
  · by_cases h0 : s.size = 0
    · simp [h0]
    · have h2 : (1 < s.size) = (0 < s.size) := by apply propext; omega
      simp [h1, h2]
set_option maxHeartbeats 2000000 in
set_option maxRecDepth 100000 in
theorem rparam_any (s : ByteArray) (w : World) (hs : s.size ≤ 140737488355328) : Calls Tryd.prog 38 #[.string s] w fun e w' => e = .returned (.bool (paramB s)) ∧ w = w' := by
  have HP := Aside0.mk (paramB_eq s)
  generalize paramB s = r at *
  have hr0 := bt_range s 0
  have hset := rset_eq hr0.1 hr0.2
  have hbt0 : ∀ h : 0 < s.size, ((s[0]'h).toNat : Int) = bt s 0 := bt_nat s 0
  by_cases h1 : s.size = 1
  · have e1 : ((s.size : Int) == 1) = true := by simp [h1]
    have hp : 0 < s.size := by omega
    have hpi : (0 : Int) < (s.size : Int) := by omega
    have HS := Aside0.mk hset
    have H1 := Aside0.mk h1
    clear hset h1
    cases hq : (setB (bt s 0) || bt s 0 == 48) with
    | true =>
      have HQ := Aside0.mk hq
      clear hq
      go_enter Tryd.func38, Tryd.ntmps38
      go_wp2_with (go_at_call 56; refine (among_any _ _ _ (by decide)).mono ?_; rintro e w' ⟨rfl, rfl⟩; rw [HS.out, HQ.out])
      go_ret
      exact ⟨ret_b (by rw [HP.out, HQ.out]; simp [H1.out]), rfl⟩
    | false =>
      have HQ := Aside0.mk hq
      clear hq
      generalize hN : nameB s = nm at *
      have HN := Aside0.mk hN
      clear hN
      cases nm with
      | true =>
        go_enter Tryd.func38, Tryd.ntmps38
        go_wp2_with (first
          | (go_at_call 56; refine (among_any _ _ _ (by decide)).mono ?_; rintro e w' ⟨rfl, rfl⟩; rw [HS.out, HQ.out])
          | (go_at_call 34; refine (rname_any _ _ hs).mono ?_; rintro e w' ⟨rfl, rfl⟩; rw [HN.out]))
        go_ret
        exact ⟨ret_b (by rw [HP.out]; simp), rfl⟩
      | false =>
        cases hd : (allD s && decide (0 < s.size)) with
        | true =>
          have HD := Aside0.mk hd
          have hd3 : decide ((s.size : Int) ≤ 3) = true := by simp; have := H1.out; omega
          clear hd
          go_enter Tryd.func38, Tryd.ntmps38
          go_wp2_with (first
            | (go_at_call 56; refine (among_any _ _ _ (by decide)).mono ?_; rintro e w' ⟨rfl, rfl⟩; rw [HS.out, HQ.out])
            | (go_at_call 34; refine (rname_any _ _ hs).mono ?_; rintro e w' ⟨rfl, rfl⟩; rw [HN.out])
            | (go_at_call 57; refine (rdigits_any _ _ hs).mono ?_; rintro e w' ⟨rfl, rfl⟩; rw [HD.out]))
          go_ret
          exact ⟨ret_b (by rw [HP.out, HQ.out, HD.out]; simp [H1.out]), rfl⟩
        | false =>
          have HD := Aside0.mk hd
          clear hd
          go_enter Tryd.func38, Tryd.ntmps38
          go_wp2_with (first
            | (go_at_call 56; refine (among_any _ _ _ (by decide)).mono ?_; rintro e w' ⟨rfl, rfl⟩; rw [HS.out, HQ.out])
            | (go_at_call 34; refine (rname_any _ _ hs).mono ?_; rintro e w' ⟨rfl, rfl⟩; rw [HN.out])
            | (go_at_call 57; refine (rdigits_any _ _ hs).mono ?_; rintro e w' ⟨rfl, rfl⟩; rw [HD.out]))
          go_ret
          exact ⟨ret_b (by rw [HP.out, HQ.out, HD.out]; simp), rfl⟩
  · have e1 : ((s.size : Int) == 1) = false := by simp; omega
    have H1 := Aside0.mk h1
    clear h1 hset
    generalize hN : nameB s = nm at *
    have HN := Aside0.mk hN
    clear hN
    cases nm with
    | true =>
      go_enter Tryd.func38, Tryd.ntmps38
      go_wp2_with (go_at_call 34; refine (rname_any _ _ hs).mono ?_; rintro e w' ⟨rfl, rfl⟩; rw [HN.out])
      go_ret
      exact ⟨ret_b (by rw [HP.out]; simp), rfl⟩
    | false =>
      cases hd : (allD s && decide (0 < s.size)) with
      | true =>
        have hp : 0 < s.size := by simp at hd; exact hd.2
        have hpi : (0 : Int) < (s.size : Int) := by omega
        have HD := Aside0.mk hd
        clear hd
        by_cases h3 : s.size ≤ 3
        · have hd3 : decide ((s.size : Int) ≤ 3) = true := by simp; omega
          go_enter Tryd.func38, Tryd.ntmps38
          go_wp2_with (first
            | (go_at_call 34; refine (rname_any _ _ hs).mono ?_; rintro e w' ⟨rfl, rfl⟩; rw [HN.out])
            | (go_at_call 57; refine (rdigits_any _ _ hs).mono ?_; rintro e w' ⟨rfl, rfl⟩; rw [HD.out]))
          go_ret
          exact ⟨ret_b (by rw [HP.out, HD.out]; simp [H1.out, h3]), rfl⟩
        · have hd3 : decide ((s.size : Int) ≤ 3) = false := by simp; omega
          go_enter Tryd.func38, Tryd.ntmps38
          go_wp2_with (first
            | (go_at_call 34; refine (rname_any _ _ hs).mono ?_; rintro e w' ⟨rfl, rfl⟩; rw [HN.out])
            | (go_at_call 57; refine (rdigits_any _ _ hs).mono ?_; rintro e w' ⟨rfl, rfl⟩; rw [HD.out]))
          go_ret
          exact ⟨ret_b (by rw [HP.out, HD.out]; simp [H1.out, h3]), rfl⟩
      | false =>
        have HD := Aside0.mk hd
        clear hd
        go_enter Tryd.func38, Tryd.ntmps38
        go_wp2_with (first
          | (go_at_call 34; refine (rname_any _ _ hs).mono ?_; rintro e w' ⟨rfl, rfl⟩; rw [HN.out])
          | (go_at_call 57; refine (rdigits_any _ _ hs).mono ?_; rintro e w' ⟨rfl, rfl⟩; rw [HD.out]))
        go_ret
        exact ⟨ret_b (by rw [HP.out, HD.out]; simp [H1.out]), rfl⟩
end Go.Proofs.YtkecpfjmdokieaaDoor.Class
/- class and deadfallref02, as if printed. -/
namespace Go.Proofs.YtkecpfjmdokieaaDoor.P
open Go.RowKit Go.Proofs.YtkecpfjmdokieaaDoorW.PrintWords Go.Proofs.YtkecpfjmdokieaaDoorW.PrintLast Go.Proofs.YtkecpfjmdokieaaDoor.Base Go.Proofs.YtkecpfjmdokieaaDoor.Class
set_option linter.unusedVariables false
def class_Name.f (a0 : ByteArray) : Option Bool := if a0.size ≤ 140737488355328 then some (nameB a0) else none
theorem class_Name.calls (a0 : ByteArray) (r : Bool) (w : World) (h : class_Name.f a0 = some r) : Calls Tryd.prog 32 #[.string a0] w fun e w' => e = .returned (.bool r) ∧ Below w.heap.size w w' := by
  unfold class_Name.f at h
  split at h
  · rename_i h1
    injection h with h
    subst h
    refine (name_any a0 w h1).mono ?_
    rintro e w' ⟨rfl, rfl⟩
    exact ⟨rfl, Below.refl _ _⟩
  · cases h
def deadfallref02_Name.f (a0 : ByteArray) : Option Bool := if a0.size ≤ 140737488355328 then some (nameB a0) else none
theorem deadfallref02_Name.calls (a0 : ByteArray) (r : Bool) (w : World) (h : deadfallref02_Name.f a0 = some r) : Calls Tryd.prog 34 #[.string a0] w fun e w' => e = .returned (.bool r) ∧ Below w.heap.size w w' := by
  unfold deadfallref02_Name.f at h
  split at h
  · rename_i h1
    injection h with h
    subst h
    refine (rname_any a0 w h1).mono ?_
    rintro e w' ⟨rfl, rfl⟩
    exact ⟨rfl, Below.refl _ _⟩
  · cases h
def class_Param.f (a0 : ByteArray) : Option Bool := if a0.size ≤ 140737488355328 then some (paramB a0) else none
theorem class_Param.calls (a0 : ByteArray) (r : Bool) (w : World) (h : class_Param.f a0 = some r) : Calls Tryd.prog 51 #[.string a0] w fun e w' => e = .returned (.bool r) ∧ Below w.heap.size w w' := by
  unfold class_Param.f at h
  split at h
  · rename_i h1
    injection h with h
    subst h
    exact param_any a0 w h1
  · cases h
def deadfallref02_Param.f (a0 : ByteArray) : Option Bool := if a0.size ≤ 140737488355328 then some (paramB a0) else none
theorem deadfallref02_Param.calls (a0 : ByteArray) (r : Bool) (w : World) (h : deadfallref02_Param.f a0 = some r) : Calls Tryd.prog 38 #[.string a0] w fun e w' => e = .returned (.bool r) ∧ Below w.heap.size w w' := by
  unfold deadfallref02_Param.f at h
  split at h
  · rename_i h1
    injection h with h
    subst h
    refine (rparam_any a0 w h1).mono ?_
    rintro e w' ⟨rfl, rfl⟩
    exact ⟨rfl, Below.refl _ _⟩
  · cases h
def class_Bare.f (a0 : Int) : Option Bool := if 0 ≤ a0 then (if a0 ≤ 255 then some (bareB a0) else none) else none
theorem class_Bare.calls (a0 : Int) (r : Bool) (w : World) (h : class_Bare.f a0 = some r) : Calls Tryd.prog 50 #[.int .u8 a0] w fun e w' => e = .returned (.bool r) ∧ Below w.heap.size w w' := by
  unfold class_Bare.f at h
  split at h
  · rename_i h1
    split at h
    · rename_i h2
      injection h with h
      subst h
      refine (bare_any a0 w h1 h2).mono ?_
      rintro e w' ⟨rfl, rfl⟩
      exact ⟨rfl, Below.refl _ _⟩
    · cases h
  · cases h
def deadfallref02_Bare.f (a0 : Int) : Option Bool := if 0 ≤ a0 then (if a0 ≤ 255 then some (bareB a0) else none) else none
theorem deadfallref02_Bare.calls (a0 : Int) (r : Bool) (w : World) (h : deadfallref02_Bare.f a0 = some r) : Calls Tryd.prog 55 #[.int .u8 a0] w fun e w' => e = .returned (.bool r) ∧ Below w.heap.size w w' := by
  unfold deadfallref02_Bare.f at h
  split at h
  · rename_i h1
    split at h
    · rename_i h2
      injection h with h
      subst h
      refine (rbare_any a0 w h1 h2).mono ?_
      rintro e w' ⟨rfl, rfl⟩
      exact ⟨rfl, Below.refl _ _⟩
    · cases h
  · cases h
end Go.Proofs.YtkecpfjmdokieaaDoor.P
