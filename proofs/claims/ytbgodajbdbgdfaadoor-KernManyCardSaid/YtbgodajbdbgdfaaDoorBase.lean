/- small laws on rows and worlds. -/
import Derived.Test.YtbgodajbdbgdfaaDoorProg
import Derived.Test.YtbgodajbdbgdfaaDoorWWords
import Derived.Test.YtbgodajbdbgdfaaDoorWLast
import Derived.Test.YtbgodajbdbgdfaaDoorWTab
import Derived.WalkKit
import Derived.KernelRfl
import Derived.RowKit3
import Derived.Deep.LoopGhost
import Derived.Deep.QuietTactic
import Derived.BigQuiet
import Derived.WideLaws
import Derived.Deep.DeepCutAuto
import Derived.Deep.CutBlock
import Derived.Test.YtbgodajbdbgdfaaDoorSeq
namespace Go.Proofs.YtbgodajbdbgdfaaDoor.Base
open Go.RowKit Go.Proofs.YtbgodajbdbgdfaaDoorW.PrintWords Go.Proofs.YtbgodajbdbgdfaaDoorW.PrintLast
set_option linter.unusedVariables false
abbrev ok0 : Nat → Prop := fun _ => True
theorem R_slice3 {α : Type} {d : Kd α} {e : Nat} {w : World} {base : Nat} {ok : Nat → Prop} {v : Value} {xs : List α} (h : d.R e w base ok v xs) : ∃ A n c, v = .slice A n c := by
  obtain ⟨A, c, h⟩ := Kd.R_slice h
  exact ⟨A, _, c, h⟩

theorem R_C {α : Type} {d : Kd α} {e : Nat} {w : World} {base : Nat} {ok : Nat → Prop} {A : Option Addr} {n c : Nat} {xs : List α} (h : d.R e w base ok (.slice A n c) xs) : d.C w A n xs := by
  obtain ⟨rfl, _, h⟩ := Kd.R_reads' h
  exact h
theorem str_ne_empty {s : ByteArray} (h : s.size ≠ 0) : s.toList ≠ [] ∧ (s.toList == []) = false ∧ s.toList.isEmpty = false := by
  have h1 : s.toList.length ≠ 0 := by
    rw [ByteArray.toList_eq, data_length]
    exact h
  cases hl : s.toList with
  | nil => rw [hl] at h1; exact absurd rfl h1
  | cons c l => exact ⟨by simp, rfl, rfl⟩
theorem str_app (l : List UInt8) (s : ByteArray) : (⟨l.toArray⟩ : ByteArray) ++ s = ⟨(l ++ s.data.toList).toArray⟩ := by
  apply ByteArray.ext
  rw [ByteArray.data_append]
  simp
theorem below_trans {B : Nat} {w w1 w2 : World} (h : Below B w w1) (k : Below B w1 w2) : Below B w w2 := h.trans k
theorem below_sub {B B' : Nat} {w w1 : World} (h : Below B w w1) (hB : B' ≤ B) : Below B' w w1 := ⟨h.os, h.tape, h.output, h.size, fun i hi => h.block i (Nat.lt_of_lt_of_le hi hB)⟩
theorem bt_nat (s : ByteArray) (k : Nat) : ∀ h : k < s.size, ((s[k]'h).toNat : Int) = bt s k := fun h => by simp [bt, h]
section
variable {P : Program} {ops : Array Oper} {rest : List Oper} {o : Oper} {a : Act} {Q : Exit → Act → World → Prop}
/-- append(bytes, text...): 'hd' picks the operation. -/
theorem R_append_str {w0 W : World} (base : Nat) {N : Tmp} (_hd : o.dst = some N) (hgd : o.guard = none) (s x : Operand) (t u e : TypeId)
    (ho : o.op = .call { callee := .builtin .append, args := #[s, x], argTypes := #[t, u] })
    (ht : P.underlying t = some (.slice e)) (hu : P.underlying u = some .string) (hinfo : (P.info? e).map (fun i => (i.zero, i.size, i.bytes)) = some (some (.int .u8 0), 1, 1))
    (v : Value) (xs : List Int) (y : ByteArray) (hs : a.eval s = v) (hx : a.eval x = .string y)
    (HO : (Kd.int .u8).R e W base ok0 v xs) (HB : Below base w0 W) (hbase : base ≤ W.heap.size) (hl : xs.length + y.size ≤ 140737488355328)
    (h : ∀ v1 w1, (Kd.int .u8).R e w1 base ok0 v1 (xs ++ bytesOf y) → Below base w0 w1 → W.grownBy w1 v.ownBlock → wpList P ops Q rest (a.put o.dst v1) w1) :
    wpList P ops Q (o :: rest) a W := by
  refine print_append_str base hgd s x t u e ho ht hu hinfo v xs y hs hx (Kd.own_of_R (enc := Value.int .u8) (h1 := fun _ => rfl) HO) HB hbase hl ?_
  intro v1 w1 hown hB hG
  exact h v1 w1 (Kd.R_of_own (enc := Value.int .u8) (h1 := fun _ => rfl) hown (fun _ _ => trivial)) hB hG
end
theorem below_at {w W : World} (h : Below w.heap.size w W) {i : Nat} (hi : i < w.heap.size) : W.heap[i]? = w.heap[i]? := h.block i hi
/-- api.Piece -/
structure Piece where
  text : ByteArray
  quoted : Bool
  cut : Bool
instance : Inhabited Piece := ⟨⟨⟨#[]⟩, false, false⟩⟩
def kPiece : Kd Piece := Kd.iso (Kd.pair Kd.string (Kd.pair Kd.bool Kd.bool)) (fun x : Piece => (x.text, x.quoted, x.cut))
theorem kPiece_open {w : World} {x : Piece} {cs : List Value} (h : kPiece.K w x cs) : cs = [.string x.text, .bool x.quoted, .bool x.cut] := by
  obtain ⟨_, _, rfl, rfl, ⟨_, _, rfl, rfl, rfl⟩⟩ := h
  exact rfl
theorem kPiece_mk (w : World) (x : Piece) : kPiece.K w x [.string x.text, .bool x.quoted, .bool x.cut] := ⟨[.string x.text], [.bool x.quoted, .bool x.cut], rfl, rfl, ⟨[.bool x.quoted], [.bool x.cut], rfl, rfl, rfl⟩⟩
theorem kPiece_mkM (w : World) (base : Nat) (ok : Nat → Prop) (x : Piece) : kPiece.M w base ok x [.string x.text, .bool x.quoted, .bool x.cut] := ⟨[.string x.text], [.bool x.quoted, .bool x.cut], rfl, rfl, ⟨[.bool x.quoted], [.bool x.cut], rfl, rfl, rfl⟩⟩
/-- An element of a row that is read, at a Nat. -/
theorem at_piece {w : World} {A : Option Addr} {n : Nat} {xs : List Piece} (h : Kd.C kPiece w A n xs) (i : Nat) (hi : i < xs.length) : ∃ ad, A = some ad ∧ w.cell? (ad.add (i * 3)) = some (.string xs[i].text) ∧ w.cell? ⟨(ad.add (i * 3)).block, (ad.add (i * 3)).off + 1, none⟩ = some (.bool xs[i].quoted) ∧ w.cell? ⟨(ad.add (i * 3)).block, (ad.add (i * 3)).off + 2, none⟩ = some (.bool xs[i].cut) := by
  obtain ⟨ad, c, e, _, hK, hc0⟩ := Kd.C_get h default (i : Int) (by omega) (by have := h.1; omega)
  rw [Int.toNat_natCast] at hK hc0
  have hc : ∀ j u, c[j]? = some u → w.cell? (ad.add (i * 3 + j)) = some u := hc0
  have hd : xs.getD i default = xs[i] := by simp [List.getD_eq_getElem?_getD, List.getElem?_eq_getElem hi]
  rw [hd] at hK
  obtain rfl := kPiece_open hK
  exact ⟨ad, e, hc 0 _ rfl, by rw [← add_field _ _ 1 (by omega)]; exact hc 1 _ rfl, by rw [← add_field _ _ 2 (by omega)]; exact hc 2 _ rfl⟩
theorem C_one {α : Type} {d : Kd α} {w : World} {g t : Nat} {cs : Array Value} {p : α} (hg : w.heap[g]? = some (.cells cs t (0, 0))) (hK : d.K w p cs.toList) : d.C w (some ⟨g, 0, none⟩) 1 [p] := by
  refine ⟨rfl, by omega, fun _ => ⟨_, rfl, fun j q hj => ?_⟩⟩
  have hj0 : j = 0 := by
    have := (List.getElem?_eq_some_iff.1 hj).1
    simp at this
    exact this
  subst hj0
  have hq : p = q := by simpa using hj
  subst hq
  refine ⟨cs.toList, d.K_len hK, hK, fun i u hu => ?_⟩
  rw [Nat.zero_mul, Nat.zero_add, add_plain, blk_cell hg]
  simpa using hu
theorem at_str {w : World} {A : Option Addr} {n : Nat} {xs : List ByteArray} (h : Kd.string.C w A n xs) (i : Nat) (hi : i < xs.length) : ∃ ad, A = some ad ∧ w.cell? (ad.add i) = some (.string xs[i]) := by
  obtain ⟨ad, e, hc⟩ := Kd.at_string h (i : Int) (by omega) (by have := h.1; omega)
  refine ⟨ad, e, ?_⟩
  rw [Int.toNat_natCast] at hc
  rw [hc]
  simp [rdOf, List.getD_eq_getElem?_getD, List.getElem?_eq_getElem hi]
/-- Elements without rows of their own: read is made. -/
def Flat {α : Type} (d : Kd α) : Prop := ∀ w W base ok x cs, d.K w x cs → d.M W base ok x cs
theorem flat_piece : Flat kPiece := fun w W base ok x cs h => by
  obtain rfl := kPiece_open h
  exact kPiece_mkM _ _ _ _
theorem flat_string : Flat Kd.string := fun _ _ _ _ _ _ h => h
theorem flat_int (k : IntKind) : Flat (Kd.int k) := fun _ _ _ _ _ _ h => h
theorem flat_bool : Flat Kd.bool := fun _ _ _ _ _ _ h => h
theorem R_empty {α : Type} {d : Kd α} {w : World} {base g e : Nat} (hg : w.heap[g]? = some (.cells #[] e (0, 0))) (hb : base ≤ g) : d.R e w base ok0 (.slice (some ⟨g, 0, none⟩) 0 0) [] :=
  ⟨fun _ _ => trivial, [], ⟨by simp, .inr ⟨g, 0, #[], rfl, hb, hg, Nat.le_refl _, by simp, by simp, by simp⟩⟩, Reps.none _ _⟩
section
variable {P : Program} {ops : Array Oper} {rest : List Oper} {o : Oper} {a : Act} {Q : Exit → Act → World → Prop}
/-- append(xs, ys...) of flat elements. -/
theorem R_app {α : Type} (d : Kd α) (hflat : Flat d) {w0 W : World} (base : Nat) {N : Tmp} (_hd : o.dst = some N) (hgd : o.guard = none) (s x : Operand) (t e : TypeId) (z : Value) (bytes : Nat)
    (ho : o.op = .call { callee := .builtin .append, args := #[s, x], argTypes := #[t, t] })
    (ht : P.underlying t = some (.slice e)) (hinfo : (P.info? e).map (fun i => (i.zero, i.size, i.bytes)) = some (some z, d.sz, bytes)) (hz : z.cells.size = d.sz) (hs0 : 0 < d.sz) (hb0 : 0 < bytes)
    (v : Value) (xs ys : List α) (A : Option Addr) (m c : Nat) (hs : a.eval s = v) (hx : a.eval x = .slice A m c)
    (HO : d.R e W base ok0 v xs) (HR : d.C W A m ys) (HB : Below base w0 W) (hbase : base ≤ W.heap.size) (hl : (xs.length + m) * bytes ≤ 140737488355328)
    (h : ∀ v1 w1, d.R e w1 base ok0 v1 (xs ++ ys) → Below base w0 w1 → W.grownBy w1 v.ownBlock → wpList P ops Q rest (a.put o.dst v1) w1) :
    wpList P ops Q (o :: rest) a W :=
  Kd.R_append_rows d base hgd s x t e z bytes ho ht hinfo hz hs0 hb0 v xs ys A m c ok0 (fun _ => False) hs hx HO HR (fun x cs hk => hflat W W base _ x cs hk) (fun _ h => h.elim) (fun _ _ => trivial) HB hbase hl (fun v1 w1 hR hB hG _ => h v1 w1 hR hB hG)
end
end Go.Proofs.YtbgodajbdbgdfaaDoor.Base
