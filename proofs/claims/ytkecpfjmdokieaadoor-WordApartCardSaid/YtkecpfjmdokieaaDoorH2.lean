/- texts of this claim, one behind the other: Seq Base Shelf BuilderW BuilderX Opens OpenRec P0 WordOps P6 WordWt Class Class2 Class3 WordOracle WordUtf SeqMore WordAny WordHas WordHasO P3 P7 P8 WordLit P9 P10 WordParts P11 WordQuote WordRight WordInj P12 P13 WordWrit WordSplit -/
import Derived.Test.YtkecpfjmdokieaaDoorH1
import Derived.WalkKit
import Derived.KernelRfl
import Derived.Test.YtkecpfjmdokieaaDoorProg
import Derived.RowKit3
import Derived.Deep.LoopGhost
import Derived.Deep.QuietTactic
import Derived.BigQuiet
import Derived.WideLaws
import Derived.Deep.DeepCutAuto
import Derived.Deep.CutBlock
import Derived.Shelf.Strings.Builder1
import Derived.Shelf.Strings.Builder2
import Derived.Shelf.Small.Utf8
import Derived.Shelf.Small.Strs
import Derived.Shelf.Strings.Search1
import Derived.Shelf.Strings.Search2
import Derived.Shelf.Strings.Search3
import Derived.Shelf.Strings.Cut
import Derived.Shelf.Strings.Count
import Derived.Shelf.LaysM
import Derived.Shelf.Strings.Shaped
import Derived.Shelf.GgClosure.StringsIndexFunc
import Derived.Ground.GgwProg
import Derived.Shelf.GgClosure.StringsIndexFuncTop
import Derived.Shelf.GgClosure.StringsRunes
import Derived.Shelf.Strings.Prefix
import Derived.Shelf.Strings.Split
import Derived.Shelf.Strings.Replace
import Derived.Shelf.Strings.Runes
import Derived.Shelf.Strings.IndexAny
import Derived.Shelf.Strings.AsciiSet
import Derived.Shelf.Strings.IndexAnyAll
import Derived.Shelf.Unicode.DecodeSlow
import Derived.Shelf.Unicode.DecodeAny
import Derived.Shelf.Strings.FuncGrows
import Derived.Shelf.Slices.Turned
import Derived.Lib.Builder
import Derived.Lib.AppendStr
import Derived.Lib.UnsafeStr
import Derived.Laws.Externs
import Derived.Lib.OthersKept
import Derived.Deep.Slices
import Derived.Deep.Fields
import Derived.ChangeSame
import Derived.SizedLaws
import Derived.Below
import Derived.Deep.Draws
import Derived.Deep.AppendLies
import Derived.Maps.AppendAt
import Derived.OwnWalk
import Derived.Laws.BytesArg
import Derived.Laws.MakeOwn
import Derived.Laws.OwnMore
import Derived.Deep.OwnRows
import Derived.Tactics
import Derived.Lib.ConvBytes
import Derived.Laws.Slices
import Derived.Deep.RegionHeld3
import Derived.Laws.Rows
import Derived.ArgAppend
import Derived.Laws.IdiomCopy
import Derived.OrdersHeld
import Derived.Laws.BitsLemmas
import Derived.RowKit
import Derived.Lib.DecodeN
import Derived.Lib.TrimUEq
import Derived.Laws.Runes
import Derived.Lib.IndexAny
import Derived.Laws.RangeAny
import Derived.WalkMore
import Derived.Lib.Replace
import Derived.Lib.SplitLaws
import Derived.Lib.SliceRun
namespace Go.Proofs.YtkecpfjmdokieaaDoor.Seq
open Go Go.RowKit Go.Proofs.YtkecpfjmdokieaaDoorW.PrintLast
inductive K where
  | pure | held | one | last
section
variable {P : Program} {ops : Array Oper} {Q : Exit → Act → World → Prop} {md : Region.Mode} {S : World → Prop} {ds : List Nat}
def wpSeq (P : Program) (ops : Array Oper) (Q : Exit → Act → World → Prop) (S : World → Prop) : List (Nat × Option Tmp × K) → Act → World → Prop
  | [], a, w => Q .normal a w
  | (i, N, .pure) :: r, a, w => ∃ o v, ops[i]? = some o ∧ (∀ c a w, Q (.panic c) (a.put N v) w → Q (.panic c) a w) ∧ Yields P ops o v a ∧ wpSeq P ops Q S r (a.put N v) w
  | (i, N, .held) :: r, a, w => ∃ o v, ops[i]? = some o ∧ (∀ c a w, Q (.panic c) (a.put N v) w → Q (.panic c) a w) ∧ YieldsIf P ops S o v a ∧ S w ∧ wpSeq P ops Q S r (a.put N v) w
  | (i, _, .one) :: r, a, w => wpOp P ops Q i (fun a' w' => (S w → S w') ∧ wpSeq P ops Q S r a' w') a w
  | (i, _, .last) :: r, a, w => wpOp P ops Q i (fun a' w' => wpSeq P ops Q S r a' w') a w
def dstB (ops : Array Oper) (i : Nat) (N : Option Tmp) : Bool := match ops[i]? with
  | some o => o.dst == N
  | none => false
theorem dst_of {i : Nat} {N : Option Tmp} {o : Oper} (h : dstB ops i N = true) (ho : ops[i]? = some o) : o.dst = N := by
  unfold dstB at h
  rw [ho] at h
  simpa using h
def checkB (md : Region.Mode) (ops : Array Oper) (ds : List Nat) : Array Bool → List (Nat × Option Tmp × K) → Bool
  | l, [] => Region.ready md ops l == []
  | l, (i, N, .pure) :: r => anyB md ops l (l.setIfInBounds i true) i && dstB ops i N && checkB md ops ds (l.setIfInBounds i true) r
  | l, (i, N, .held) :: r => takeB md ops ds l (l.setIfInBounds i true) i && dstB ops i N && checkB md ops ds (l.setIfInBounds i true) r
  | l, (i, N, .one) :: r => Region.ready md ops l == [i] && !ds.contains i && dstB ops i N && checkB md ops ds (l.setIfInBounds i true) r
  | l, (i, N, .last) :: r => Region.ready md ops l == [i] && ds.contains i && dstB ops i N && checkB md ops ds (l.setIfInBounds i true) r
theorem seq_sound : ∀ (ks : List (Nat × Option Tmp × K)) (l : Array Bool) (a : Act) (w : World), checkB md ops ds l ks = true → wpSeq P ops Q S ks a w → wpAnyLast P md ops Q S ds ks.length l a w
  | [], l, a, w, hc, h => wpAnyLast_done (by simpa [checkB] using hc) h 0
  | (i, N, .pure) :: r, l, a, w, hc, h => by
    simp only [checkB, Bool.and_eq_true] at hc
    obtain ⟨o, v, ho, hQ, hy, h⟩ := h
    have hN := dst_of hc.1.2 ho
    exact pure_ (l.setIfInBounds i true) ho hN hc.1.1 (by rw [hN]; exact hQ) hy rfl (seq_sound r _ _ _ hc.2 h)
  | (i, N, .held) :: r, l, a, w, hc, h => by
    simp only [checkB, Bool.and_eq_true] at hc
    obtain ⟨o, v, ho, hQ, hy, hS, h⟩ := h
    have hN := dst_of hc.1.2 ho
    exact take_ (l.setIfInBounds i true) ho hN hc.1.1 (by rw [hN]; exact hQ) hy hS rfl (seq_sound r _ _ _ hc.2 h)
  | (i, N, .one) :: r, l, a, w, hc, h => by
    simp only [checkB, Bool.and_eq_true, beq_iff_eq] at hc
    obtain ⟨⟨⟨h1, h2⟩, _⟩, h3⟩ := hc
    refine wpAnyLast_all h1 (by simp) fun j hj => ?_
    obtain rfl : j = i := by simpa using hj
    exact wpOp_mono (fun a' w' h' => ⟨fun _ => h'.1, seq_sound r _ _ _ h3 h'.2⟩) h
  | (i, N, .last) :: r, l, a, w, hc, h => by
    simp only [checkB, Bool.and_eq_true, beq_iff_eq] at hc
    obtain ⟨⟨⟨h1, h2⟩, _⟩, h3⟩ := hc
    refine wpAnyLast_all h1 (by simp) fun j hj => ?_
    obtain rfl : j = i := by simpa using hj
    exact wpOp_mono (fun a' w' h' => ⟨fun hn => absurd (by simpa using h2) hn, seq_sound r _ _ _ h3 h'⟩) h
theorem region_seq {id : Nat} {a : Act} {w : World} (S : World → Prop) (ds : List Nat) (ks : List (Nat × Option Tmp × K)) (hm : P.follows .mixedOrders = true)
    (hc : (ks.length == ops.size && checkB .any ops ds (Array.replicate ops.size false) ks) = true) (h : wpSeq P ops Q S ks a w.drew) : (Code.region id ops true).wp P Q a w := by
  rw [Bool.and_eq_true] at hc
  refine wp_region_last (S := S) (ds := ds) hm ?_
  have := seq_sound (P := P) (Q := Q) (S := S) ks _ _ _ hc.2 h
  rw [beq_iff_eq.1 hc.1] at this
  exact this
theorem s_pure {i : Nat} {N : Option Tmp} {r : List (Nat × Option Tmp × K)} {o : Oper} {v : Value} {a a' : Act} {w : World} (ho : ops[i]? = some o) (hQ : ∀ c a w, Q (.panic c) (a.put N v) w → Q (.panic c) a w)
    (hw : Region.wanted o (yielded ops a.tmps) = true) (hy : ∀ w, (execOp a.eval o).run P w = .ok (.value v) w) (ha : a.put N v = a') (h : wpSeq P ops Q S r a' w) : wpSeq P ops Q S ((i, N, .pure) :: r) a w := by
  subst ha; exact ⟨o, v, ho, hQ, .inl ⟨hw, hy⟩, h⟩
theorem s_held {i : Nat} {N : Option Tmp} {r : List (Nat × Option Tmp × K)} {o : Oper} {v : Value} {a a' : Act} {w : World} (hS : S w) (ho : ops[i]? = some o) (hQ : ∀ c a w, Q (.panic c) (a.put N v) w → Q (.panic c) a w)
    (hw : Region.wanted o (yielded ops a.tmps) = true) (hy : ∀ w, S w → (execOp a.eval o).run P w = .ok (.value v) w) (ha : a.put N v = a') (h : wpSeq P ops Q S r a' w) : wpSeq P ops Q S ((i, N, .held) :: r) a w := by
  subst ha; exact ⟨o, v, ho, hQ, .inl ⟨hw, hy⟩, hS, h⟩
theorem s_off {i : Nat} {N : Option Tmp} {r : List (Nat × Option Tmp × K)} {o : Oper} {a a' : Act} {w : World} (ho : ops[i]? = some o) (hQ : ∀ c a w, Q (.panic c) (a.put N undef) w → Q (.panic c) a w)
    (hw : Region.wanted o (yielded ops a.tmps) = false) (ha : a.put N undef = a') (h : wpSeq P ops Q S r a' w) : wpSeq P ops Q S ((i, N, .pure) :: r) a w := by
  subst ha; exact ⟨o, undef, ho, hQ, .inr ⟨hw, rfl⟩, h⟩
theorem s_offHeld {i : Nat} {N : Option Tmp} {r : List (Nat × Option Tmp × K)} {o : Oper} {a a' : Act} {w : World} (hS : S w) (ho : ops[i]? = some o) (hQ : ∀ c a w, Q (.panic c) (a.put N undef) w → Q (.panic c) a w)
    (hw : Region.wanted o (yielded ops a.tmps) = false) (ha : a.put N undef = a') (h : wpSeq P ops Q S r a' w) : wpSeq P ops Q S ((i, N, .held) :: r) a w := by
  subst ha; exact ⟨o, undef, ho, hQ, .inr ⟨hw, rfl⟩, hS, h⟩
def tailB (ops : Array Oper) : Nat → List (Nat × Option Tmp × K) → Bool
  | n, [] => decide (ops.size ≤ n)
  | n, (i, _, .last) :: r => i == n && n < ops.size && tailB ops (n + 1) r
  | _, _ => false
theorem s_tail : ∀ (n : Nat) (r : List (Nat × Option Tmp × K)) {a : Act} {w : World}, tailB ops n r = true → wpList P ops Q (ops.toList.drop n) a w → wpSeq P ops Q S r a w
  | n, [], a, w, ht, h => by
    simp only [tailB, decide_eq_true_eq] at ht
    rw [List.drop_of_length_le (by simpa using ht)] at h
    exact h
  | n, (i, _, .last) :: r, a, w, ht, h => by
    simp only [tailB, Bool.and_eq_true, beq_iff_eq, decide_eq_true_eq] at ht
    obtain ⟨⟨rfl, hlt⟩, ht⟩ := ht
    have ho : ops[i]? = some ops[i] := Array.getElem?_eq_getElem hlt
    have hd : ops.toList.drop i = ops[i] :: ops.toList.drop (i + 1) := by
      rw [List.drop_eq_getElem_cons (by simpa using hlt)]
      simp
    rw [hd] at h
    unfold wpSeq wpOp
    simp only [ho]
    unfold wpList at h
    split
    · rename_i hw
      simp only [hw, if_true] at h
      exact h.imp (Oper.wp_mono fun a w hk => s_tail (i + 1) r ht hk) id
    · rename_i hw
      simp only [hw] at h
      exact s_tail (i + 1) r ht h
  | n, (i, _, .pure) :: r, a, w, ht, h => by simp [tailB] at ht
  | n, (i, _, .held) :: r, a, w, ht, h => by simp [tailB] at ht
  | n, (i, _, .one) :: r, a, w, ht, h => by simp [tailB] at ht
end
end Go.Proofs.YtkecpfjmdokieaaDoor.Seq
namespace Go.Proofs.YtkecpfjmdokieaaDoor.Base
open Go.RowKit Go.Proofs.YtkecpfjmdokieaaDoorW.PrintWords Go.Proofs.YtkecpfjmdokieaaDoorW.PrintLast
set_option linter.unusedVariables false
theorem R_slice3 {α : Type} {d : Kd α} {e : Nat} {w : World} {base : Nat} {ok : Nat → Prop} {v : Value} {xs : List α} (h : d.R e w base ok v xs) : ∃ A n c, v = .slice A n c := by
  obtain ⟨A, c, h⟩ := Kd.R_slice h
  exact ⟨A, _, c, h⟩
theorem str_ne_empty {s : ByteArray} (h : s.size ≠ 0) : s.toList ≠ [] ∧ (s.toList == []) = false ∧ s.toList.isEmpty = false := by
  have h1 : s.toList.length ≠ 0 := by
    rw [ByteArray.toList_eq, data_length]
    exact h
  cases hl : s.toList with
  | nil => rw [hl] at h1; exact absurd rfl h1
  | cons c l => exact ⟨by simp, rfl, rfl⟩
theorem below_sub {B B' : Nat} {w w1 : World} (h : Below B w w1) (hB : B' ≤ B) : Below B' w w1 := ⟨h.os, h.tape, h.output, h.size, fun i hi => h.block i (Nat.lt_of_lt_of_le hi hB)⟩
theorem bt_nat (s : ByteArray) (k : Nat) : ∀ h : k < s.size, ((s[k]'h).toNat : Int) = bt s k := fun h => by simp [bt, h]
section
variable {P : Program} {ops : Array Oper} {rest : List Oper} {o : Oper} {a : Act} {Q : Exit → Act → World → Prop}
end
structure Piece where
  text : ByteArray
  quoted : Bool
  cut : Bool
instance : Inhabited Piece := ⟨⟨⟨#[]⟩, false, false⟩⟩
section
variable {P : Program} {ops : Array Oper} {rest : List Oper} {o : Oper} {a : Act} {Q : Exit → Act → World → Prop}
end
end Go.Proofs.YtkecpfjmdokieaaDoor.Base
namespace Go.Proofs
open Go.Shelf
def Tryd.lays119_ren : Go.Shelf.Ren := ⟨fun | 119 => 96 | n => n, fun | 21 => 21 | 4 => 4 | n => n, fun | n => n⟩
theorem Tryd.lays119 : Go.Proofs.Lays.n119 Tryd.prog Tryd.lays119_ren := {
  mixed := by kernel_rfl
  f119 := Tryd.func96.trans (congrArg some (by kernel_rfl))
  t4 := Tryd.underlying4
  a4 := Tryd.isAgg4
  z4 := Tryd.sizeOf4
  v4 := Tryd.zeroValue4
  t21 := Tryd.underlying21
  a21 := Tryd.isAgg21
  z21 := Tryd.sizeOf21
  v21 := Tryd.zeroValue21 }
theorem Tryd.utf8_ValidRune (r : Int) (w : World) :
    Calls Tryd.prog 96 #[.int .i32 r] w fun e w' => e = .returned (.bool (Lib.validRune r)) ∧ w' = w := Any.utf8_ValidRune Tryd.lays119 r w
def Tryd.lays137_ren : Go.Shelf.Ren := ⟨fun | 137 => 58 | 217 => 77 | 266 => 93 | n => n, fun | 9 => 9 | 5 => 5 | 3 => 3 | n => n, fun | n => n⟩
theorem Tryd.lays137 : Go.Proofs.Lays.n137 Tryd.prog Tryd.lays137_ren := {
  mixed := by kernel_rfl
  f137 := Tryd.func58.trans (congrArg some (by kernel_rfl))
  f217 := Tryd.func77.trans (congrArg some (by kernel_rfl))
  f266 := Tryd.func93.trans (congrArg some (by kernel_rfl))
  t3 := Tryd.underlying3
  a3 := Tryd.isAgg3
  z3 := Tryd.sizeOf3
  v3 := Tryd.zeroValue3
  t5 := Tryd.underlying5
  a5 := Tryd.isAgg5
  z5 := Tryd.sizeOf5
  v5 := Tryd.zeroValue5
  t9 := Tryd.underlying9
  a9 := Tryd.isAgg9
  z9 := Tryd.sizeOf9
  v9 := Tryd.zeroValue9 }
open Go.RowKit in
theorem Tryd.strings_IndexByte (s : ByteArray) (c : Int) (w : World) :
    Calls Tryd.prog 58 #[.string s, .int .u8 c] w fun e w' => e = .returned (.int .i64 (Lib.indexByte s.data.toList c.toNat.toUInt8)) ∧ w' = w := Any.strings_IndexByte Tryd.lays137 s c w
def Tryd.lays144_ren : Go.Shelf.Ren := ⟨fun | 144 => 69 | 143 => 63 | 219 => 65 | 217 => 77 | 225 => 83 | 224 => 84 | 267 => 85 | 266 => 93 | 314 => 95 | n => n, fun | 9 => 9 | 4 => 4 | 3 => 3 | 5 => 5 | 46 => 90 | 146 => 104 | 51 => 103 | n => n, fun | 1 => 0 | n => n⟩
theorem Tryd.lays144 : Go.Proofs.Lays.n144 Tryd.prog Tryd.lays144_ren := {
  mixed := by kernel_rfl
  f143 := Tryd.func63.trans (congrArg some (by kernel_rfl))
  f144 := Tryd.func69.trans (congrArg some (by kernel_rfl))
  f217 := Tryd.func77.trans (congrArg some (by kernel_rfl))
  f219 := Tryd.func65.trans (congrArg some (by kernel_rfl))
  f224 := Tryd.func84.trans (congrArg some (by kernel_rfl))
  f225 := Tryd.func83.trans (congrArg some (by kernel_rfl))
  f266 := Tryd.func93.trans (congrArg some (by kernel_rfl))
  f267 := Tryd.func85.trans (congrArg some (by kernel_rfl))
  f314 := Tryd.func95.trans (congrArg some (by kernel_rfl))
  t3 := Tryd.underlying3
  a3 := Tryd.isAgg3
  z3 := Tryd.sizeOf3
  v3 := Tryd.zeroValue3
  t4 := Tryd.underlying4
  a4 := Tryd.isAgg4
  z4 := Tryd.sizeOf4
  v4 := Tryd.zeroValue4
  t5 := Tryd.underlying5
  a5 := Tryd.isAgg5
  z5 := Tryd.sizeOf5
  v5 := Tryd.zeroValue5
  t9 := Tryd.underlying9
  a9 := Tryd.isAgg9
  z9 := Tryd.sizeOf9
  v9 := Tryd.zeroValue9
  t46 := Tryd.underlying90
  a46 := Tryd.isAgg90
  z46 := Tryd.sizeOf90
  v46 := Tryd.zeroValue90
  t51 := Tryd.underlying103
  a51 := Tryd.isAgg103
  z51 := Tryd.sizeOf103
  v51 := Tryd.zeroValue103
  t146 := Tryd.underlying104
  a146 := Tryd.isAgg104
  z146 := Tryd.sizeOf104
  v146 := Tryd.zeroValue104
  g1 := by kernel_rfl }
open Go.RowKit Go.Lib in
theorem Tryd.strings_Contains_one (s : ByteArray) (c : UInt8) (w : World) :
    Calls Tryd.prog 69 #[.string s, .string ⟨#[c]⟩] w fun e w' => e = .returned (.bool (decide (0 ≤ Lib.indexByte s.data.toList c))) ∧ w' = w := Any.strings_Contains_one Tryd.lays144 s c w
def Tryd.laysGw17_ren : Go.Shelf.Ren := ⟨fun | 17 => 70 | 15 => 91 | 20 => 97 | n => n, fun | 9 => 9 | 23 => 84 | 4 => 4 | 3 => 3 | 0 => 0 | 21 => 21 | n => n, fun | n => n⟩
theorem Tryd.laysGw17 : Go.Proofs.LaysGw.n17 Tryd.prog Tryd.laysGw17_ren := {
  mixed := by kernel_rfl
  f15 := Tryd.func91.trans (congrArg some (by kernel_rfl))
  f17 := Tryd.func70.trans (congrArg some (by kernel_rfl))
  f20 := Tryd.func97.trans (congrArg some (by kernel_rfl))
  t0 := Tryd.underlying0
  a0 := Tryd.isAgg0
  z0 := Tryd.sizeOf0
  v0 := Tryd.zeroValue0
  i0 := by kernel_rfl
  t3 := Tryd.underlying3
  a3 := Tryd.isAgg3
  z3 := Tryd.sizeOf3
  v3 := Tryd.zeroValue3
  i3 := by kernel_rfl
  t4 := Tryd.underlying4
  a4 := Tryd.isAgg4
  z4 := Tryd.sizeOf4
  v4 := Tryd.zeroValue4
  i4 := by kernel_rfl
  t9 := Tryd.underlying9
  a9 := Tryd.isAgg9
  z9 := Tryd.sizeOf9
  v9 := Tryd.zeroValue9
  i9 := by kernel_rfl
  t21 := Tryd.underlying21
  a21 := Tryd.isAgg21
  z21 := Tryd.sizeOf21
  v21 := Tryd.zeroValue21
  i21 := by kernel_rfl
  t23 := Tryd.underlying84
  a23 := Tryd.isAgg84
  z23 := Tryd.sizeOf84
  v23 := Tryd.zeroValue84
  i23 := by kernel_rfl }
def Tryd.lays206_ren : Go.Shelf.Ren := ⟨fun | 206 => 92 | n => n, fun | 9 => 9 | 4 => 4 | 3 => 3 | n => n, fun | n => n⟩
theorem Tryd.lays206 : Go.Proofs.Lays.n206 Tryd.prog Tryd.lays206_ren := {
  mixed := by kernel_rfl
  f206 := Tryd.func92.trans (congrArg some (by kernel_rfl))
  t3 := Tryd.underlying3
  a3 := Tryd.isAgg3
  z3 := Tryd.sizeOf3
  v3 := Tryd.zeroValue3
  t4 := Tryd.underlying4
  a4 := Tryd.isAgg4
  z4 := Tryd.sizeOf4
  v4 := Tryd.zeroValue4
  t9 := Tryd.underlying9
  a9 := Tryd.isAgg9
  z9 := Tryd.sizeOf9
  v9 := Tryd.zeroValue9 }
open Go.RowKit Go.Lib in
theorem Tryd.stringslite_HasPrefix (s p : ByteArray) (w : World) :
    Calls Tryd.prog 92 #[.string s, .string p] w fun e w' => e = .returned (.bool (Lib.hasPrefix s.data.toList p.data.toList)) ∧ w' = w := Any.stringslite_HasPrefix Tryd.lays206 s p w
def Tryd.lays207_ren : Go.Shelf.Ren := ⟨fun | 207 => 74 | n => n, fun | 9 => 9 | 4 => 4 | 3 => 3 | n => n, fun | n => n⟩
theorem Tryd.lays207 : Go.Proofs.Lays.n207 Tryd.prog Tryd.lays207_ren := {
  mixed := by kernel_rfl
  f207 := Tryd.func74.trans (congrArg some (by kernel_rfl))
  t3 := Tryd.underlying3
  a3 := Tryd.isAgg3
  z3 := Tryd.sizeOf3
  v3 := Tryd.zeroValue3
  t4 := Tryd.underlying4
  a4 := Tryd.isAgg4
  z4 := Tryd.sizeOf4
  v4 := Tryd.zeroValue4
  t9 := Tryd.underlying9
  a9 := Tryd.isAgg9
  z9 := Tryd.sizeOf9
  v9 := Tryd.zeroValue9 }
open Go.RowKit Go.Lib in
theorem Tryd.stringslite_HasSuffix (s p : ByteArray) (w : World) (hs : s.size ≤ 9223372036854775807) :
    Calls Tryd.prog 74 #[.string s, .string p] w fun e w' => e = .returned (.bool (Lib.hasSuffix s.data.toList p.data.toList)) ∧ w' = w := Any.stringslite_HasSuffix Tryd.lays207 s p w hs
def Tryd.lays100_ren : Go.Shelf.Ren := ⟨fun | 100 => 54 | 207 => 74 | n => n, fun | 9 => 9 | 4 => 4 | 3 => 3 | n => n, fun | n => n⟩
theorem Tryd.lays100 : Go.Proofs.Lays.n100 Tryd.prog Tryd.lays100_ren := {
  mixed := by kernel_rfl
  f100 := Tryd.func54.trans (congrArg some (by kernel_rfl))
  f207 := Tryd.func74.trans (congrArg some (by kernel_rfl))
  t3 := Tryd.underlying3
  a3 := Tryd.isAgg3
  z3 := Tryd.sizeOf3
  v3 := Tryd.zeroValue3
  t4 := Tryd.underlying4
  a4 := Tryd.isAgg4
  z4 := Tryd.sizeOf4
  v4 := Tryd.zeroValue4
  t9 := Tryd.underlying9
  a9 := Tryd.isAgg9
  z9 := Tryd.sizeOf9
  v9 := Tryd.zeroValue9 }
open Go.RowKit Go.Lib in
theorem Tryd.strings_HasSuffix (s p : ByteArray) (w : World) (hs : s.size ≤ 9223372036854775807) :
    Calls Tryd.prog 54 #[.string s, .string p] w fun e w' => e = .returned (.bool (Lib.hasSuffix s.data.toList p.data.toList)) ∧ w' = w := Any.strings_HasSuffix Tryd.lays100 s p w hs
def Tryd.lays208_ren : Go.Shelf.Ren := ⟨fun | 208 => 73 | 206 => 92 | n => n, fun | 9 => 9 | 4 => 4 | 3 => 3 | n => n, fun | n => n⟩
theorem Tryd.lays208 : Go.Proofs.Lays.n208 Tryd.prog Tryd.lays208_ren := {
  mixed := by kernel_rfl
  f206 := Tryd.func92.trans (congrArg some (by kernel_rfl))
  f208 := Tryd.func73.trans (congrArg some (by kernel_rfl))
  t3 := Tryd.underlying3
  a3 := Tryd.isAgg3
  z3 := Tryd.sizeOf3
  v3 := Tryd.zeroValue3
  t4 := Tryd.underlying4
  a4 := Tryd.isAgg4
  z4 := Tryd.sizeOf4
  v4 := Tryd.zeroValue4
  t9 := Tryd.underlying9
  a9 := Tryd.isAgg9
  z9 := Tryd.sizeOf9
  v9 := Tryd.zeroValue9 }
open Go.RowKit Go.Lib in
theorem Tryd.stringslite_TrimPrefix (s p : ByteArray) (w : World) :
    Calls Tryd.prog 73 #[.string s, .string p] w fun e w' => e = .returned (.string ⟨(Lib.trimPrefix s.data.toList p.data.toList).toArray⟩) ∧ w' = w := Any.stringslite_TrimPrefix Tryd.lays208 s p w
def Tryd.lays101_ren : Go.Shelf.Ren := ⟨fun | 101 => 53 | 208 => 73 | 206 => 92 | n => n, fun | 9 => 9 | 4 => 4 | 3 => 3 | n => n, fun | n => n⟩
theorem Tryd.lays101 : Go.Proofs.Lays.n101 Tryd.prog Tryd.lays101_ren := {
  mixed := by kernel_rfl
  f101 := Tryd.func53.trans (congrArg some (by kernel_rfl))
  f206 := Tryd.func92.trans (congrArg some (by kernel_rfl))
  f208 := Tryd.func73.trans (congrArg some (by kernel_rfl))
  t3 := Tryd.underlying3
  a3 := Tryd.isAgg3
  z3 := Tryd.sizeOf3
  v3 := Tryd.zeroValue3
  t4 := Tryd.underlying4
  a4 := Tryd.isAgg4
  z4 := Tryd.sizeOf4
  v4 := Tryd.zeroValue4
  t9 := Tryd.underlying9
  a9 := Tryd.isAgg9
  z9 := Tryd.sizeOf9
  v9 := Tryd.zeroValue9 }
open Go.RowKit Go.Lib in
theorem Tryd.strings_TrimPrefix (s p : ByteArray) (w : World) :
    Calls Tryd.prog 53 #[.string s, .string p] w fun e w' => e = .returned (.string ⟨(Lib.trimPrefix s.data.toList p.data.toList).toArray⟩) ∧ w' = w := Any.strings_TrimPrefix Tryd.lays101 s p w
def Tryd.lays155_ren : Go.Shelf.Ren := ⟨fun | 155 => 30 | 154 => 43 | 138 => 61 | 165 => 62 | 143 => 63 | 166 => 41 | 197 => 64 | 169 => 26 | 195 => 79 | 218 => 80 | 240 => 60 | 241 => 81 | 219 => 65 | 260 => 82 | 276 => 78 | 277 => 94 | 217 => 77 | 225 => 83 | 224 => 84 | 267 => 85 | 266 => 93 | 314 => 95 | n => n, fun | 9 => 9 | 3 => 3 | 4 => 4 | 72 => 47 | 0 => 0 | 76 => 67 | 105 => 81 | 21 => 21 | 5 => 5 | 70 => 44 | 20 => 20 | 37 => 45 | 75 => 66 | 127 => 69 | 164 => 86 | 46 => 90 | 119 => 99 | 139 => 102 | 138 => 101 | 146 => 104 | 51 => 103 | 80 => 51 | n => n, fun | 1 => 0 | 3 => 1 | 4 => 2 | n => n⟩
theorem Tryd.lays155 : Go.Proofs.Lays.n155 Tryd.prog Tryd.lays155_ren := {
  mixed := by kernel_rfl
  f138 := Tryd.func61.trans (congrArg some (by kernel_rfl))
  f143 := Tryd.func63.trans (congrArg some (by kernel_rfl))
  f154 := Tryd.func43.trans (congrArg some (by kernel_rfl))
  f155 := Tryd.func30.trans (congrArg some (by kernel_rfl))
  f165 := Tryd.func62.trans (congrArg some (by kernel_rfl))
  f166 := Tryd.func41.trans (congrArg some (by kernel_rfl))
  f169 := Tryd.func26.trans (congrArg some (by kernel_rfl))
  f195 := Tryd.func79.trans (congrArg some (by kernel_rfl))
  f197 := Tryd.func64.trans (congrArg some (by kernel_rfl))
  f217 := Tryd.func77.trans (congrArg some (by kernel_rfl))
  f218 := Tryd.func80.trans (congrArg some (by kernel_rfl))
  f219 := Tryd.func65.trans (congrArg some (by kernel_rfl))
  f224 := Tryd.func84.trans (congrArg some (by kernel_rfl))
  f225 := Tryd.func83.trans (congrArg some (by kernel_rfl))
  f240 := Tryd.func60.trans (congrArg some (by kernel_rfl))
  f241 := Tryd.func81.trans (congrArg some (by kernel_rfl))
  f260 := Tryd.func82.trans (congrArg some (by kernel_rfl))
  f266 := Tryd.func93.trans (congrArg some (by kernel_rfl))
  f267 := Tryd.func85.trans (congrArg some (by kernel_rfl))
  f276 := Tryd.func78.trans (congrArg some (by kernel_rfl))
  f277 := Tryd.func94.trans (congrArg some (by kernel_rfl))
  f314 := Tryd.func95.trans (congrArg some (by kernel_rfl))
  t0 := Tryd.underlying0
  a0 := Tryd.isAgg0
  z0 := Tryd.sizeOf0
  v0 := Tryd.zeroValue0
  t3 := Tryd.underlying3
  a3 := Tryd.isAgg3
  z3 := Tryd.sizeOf3
  v3 := Tryd.zeroValue3
  t4 := Tryd.underlying4
  a4 := Tryd.isAgg4
  z4 := Tryd.sizeOf4
  v4 := Tryd.zeroValue4
  t5 := Tryd.underlying5
  a5 := Tryd.isAgg5
  z5 := Tryd.sizeOf5
  v5 := Tryd.zeroValue5
  t9 := Tryd.underlying9
  a9 := Tryd.isAgg9
  z9 := Tryd.sizeOf9
  v9 := Tryd.zeroValue9
  t20 := Tryd.underlying20
  a20 := Tryd.isAgg20
  z20 := Tryd.sizeOf20
  v20 := Tryd.zeroValue20
  t21 := Tryd.underlying21
  a21 := Tryd.isAgg21
  z21 := Tryd.sizeOf21
  v21 := Tryd.zeroValue21
  t37 := Tryd.underlying45
  a37 := Tryd.isAgg45
  z37 := Tryd.sizeOf45
  v37 := Tryd.zeroValue45
  t46 := Tryd.underlying90
  a46 := Tryd.isAgg90
  z46 := Tryd.sizeOf90
  v46 := Tryd.zeroValue90
  t51 := Tryd.underlying103
  a51 := Tryd.isAgg103
  z51 := Tryd.sizeOf103
  v51 := Tryd.zeroValue103
  t70 := Tryd.underlying44
  a70 := Tryd.isAgg44
  z70 := Tryd.sizeOf44
  v70 := Tryd.zeroValue44
  t72 := Tryd.underlying47
  a72 := Tryd.isAgg47
  z72 := Tryd.sizeOf47
  v72 := Tryd.zeroValue47
  t75 := Tryd.underlying66
  a75 := Tryd.isAgg66
  z75 := Tryd.sizeOf66
  v75 := Tryd.zeroValue66
  t76 := Tryd.underlying67
  a76 := Tryd.isAgg67
  z76 := Tryd.sizeOf67
  v76 := Tryd.zeroValue67
  t105 := Tryd.underlying81
  a105 := Tryd.isAgg81
  z105 := Tryd.sizeOf81
  v105 := Tryd.zeroValue81
  t119 := Tryd.underlying99
  a119 := Tryd.isAgg99
  z119 := Tryd.sizeOf99
  t127 := Tryd.underlying69
  a127 := Tryd.isAgg69
  z127 := Tryd.sizeOf69
  v127 := Tryd.zeroValue69
  t138 := Tryd.underlying101
  a138 := Tryd.isAgg101
  z138 := Tryd.sizeOf101
  v138 := Tryd.zeroValue101
  t139 := Tryd.underlying102
  a139 := Tryd.isAgg102
  z139 := Tryd.sizeOf102
  v139 := Tryd.zeroValue102
  t146 := Tryd.underlying104
  a146 := Tryd.isAgg104
  z146 := Tryd.sizeOf104
  v146 := Tryd.zeroValue104
  t164 := Tryd.underlying86
  a164 := Tryd.isAgg86
  z164 := Tryd.sizeOf86
  v164 := Tryd.zeroValue86
  g1 := by kernel_rfl
  g3 := by kernel_rfl
  g4 := by kernel_rfl }
theorem Tryd.Builder_Extra_155 : Builder.Extra Tryd.prog Tryd.lays155_ren := {
  sizeBuilder := by kernel_rfl
  liesBuilder := by kernel_rfl
  t5 := Tryd.underlying5
  a5 := Tryd.isAgg5
  z5 := Tryd.sizeOf5
  v5 := Tryd.zeroValue5
  infoByte := by kernel_rfl
  cellsByte := by kernel_rfl
  sizeByte := by kernel_rfl
  neB5 := by decide }
open Go.RowKit Go.Lib in
theorem Tryd.strings_ReplaceAll (s old new : ByteArray) (m : Int) (w : World) (hs : s.size < 4294967281) (hm : w.cell? ⟨0, 0, none⟩ = some (.int .i64 m)) (h1 : 1 ≤ old.size) (hlen : s.size + Lib.countB s old * new.size ≤ 140737488355328) :
    Calls Tryd.prog 30 #[.string s, .string old, .string new] w fun e w' =>
      e = .returned (.string ⟨(Lib.replaceAll s.data.toList old.data.toList new.data.toList).toArray⟩) ∧ Below w.heap.size w w' := Any.strings_ReplaceAll Tryd.lays155 Tryd.Builder_Extra_155 s old new m w hs hm h1 hlen
def Tryd.lays152_ren : Go.Shelf.Ren := ⟨fun | 152 => 86 | 137 => 58 | 119 => 96 | 224 => 84 | 225 => 83 | 217 => 77 | 266 => 93 | n => n, fun | 9 => 9 | 21 => 21 | 3 => 3 | 4 => 4 | 5 => 5 | 0 => 0 | 46 => 90 | n => n, fun | n => n⟩
theorem Tryd.lays152 : Go.Proofs.Lays.n152 Tryd.prog Tryd.lays152_ren := {
  mixed := by kernel_rfl
  f119 := Tryd.func96.trans (congrArg some (by kernel_rfl))
  f137 := Tryd.func58.trans (congrArg some (by kernel_rfl))
  f152 := Tryd.func86.trans (congrArg some (by kernel_rfl))
  f217 := Tryd.func77.trans (congrArg some (by kernel_rfl))
  f224 := Tryd.func84.trans (congrArg some (by kernel_rfl))
  f225 := Tryd.func83.trans (congrArg some (by kernel_rfl))
  f266 := Tryd.func93.trans (congrArg some (by kernel_rfl))
  t0 := Tryd.underlying0
  a0 := Tryd.isAgg0
  z0 := Tryd.sizeOf0
  v0 := Tryd.zeroValue0
  t3 := Tryd.underlying3
  a3 := Tryd.isAgg3
  z3 := Tryd.sizeOf3
  v3 := Tryd.zeroValue3
  t4 := Tryd.underlying4
  a4 := Tryd.isAgg4
  z4 := Tryd.sizeOf4
  v4 := Tryd.zeroValue4
  t5 := Tryd.underlying5
  a5 := Tryd.isAgg5
  z5 := Tryd.sizeOf5
  v5 := Tryd.zeroValue5
  t9 := Tryd.underlying9
  a9 := Tryd.isAgg9
  z9 := Tryd.sizeOf9
  v9 := Tryd.zeroValue9
  t21 := Tryd.underlying21
  a21 := Tryd.isAgg21
  z21 := Tryd.sizeOf21
  v21 := Tryd.zeroValue21
  t46 := Tryd.underlying90
  a46 := Tryd.isAgg90
  z46 := Tryd.sizeOf90
  v46 := Tryd.zeroValue90 }
open Go.RowKit Go.Lib in
theorem Tryd.strings_IndexRune_ascii (s : ByteArray) (r : Int) (w : World) (h0 : 0 ≤ r) (h1 : r < 128) :
    Calls Tryd.prog 86 #[.string s, .int .i32 r] w fun e w' => e = .returned (.int .i64 (Lib.indexByte s.data.toList r.toNat.toUInt8)) ∧ w' = w := Any.strings_IndexRune_ascii Tryd.lays152 s r w h0 h1
def Tryd.lays226_ren : Go.Shelf.Ren := ⟨fun | 226 => 87 | n => n, fun | 3 => 3 | 4 => 4 | n => n, fun | n => n⟩
theorem Tryd.lays226 : Go.Proofs.Lays.n226 Tryd.prog Tryd.lays226_ren := {
  mixed := by kernel_rfl
  f226 := Tryd.func87.trans (congrArg some (by kernel_rfl))
  t3 := Tryd.underlying3
  a3 := Tryd.isAgg3
  z3 := Tryd.sizeOf3
  v3 := Tryd.zeroValue3
  t4 := Tryd.underlying4
  a4 := Tryd.isAgg4
  z4 := Tryd.sizeOf4
  v4 := Tryd.zeroValue4 }
open Go.RowKit Go.Lib in
theorem Tryd.strings_shouldUseASCIISet (n : Int) (w : World) :
    Calls Tryd.prog 87 #[.int .i64 n] w fun e w' => e = .returned (.bool (decide (8 < n))) ∧ w' = w := Any.strings_shouldUseASCIISet Tryd.lays226 n w
def Tryd.lays153_ren : Go.Shelf.Ren := ⟨fun | 153 => 66 | 152 => 86 | 226 => 87 | 227 => 88 | 228 => 89 | 137 => 58 | 119 => 96 | 224 => 84 | 225 => 83 | 217 => 77 | 266 => 93 | n => n, fun | 9 => 9 | 3 => 3 | 4 => 4 | 5 => 5 | 21 => 21 | 117 => 95 | 116 => 94 | 0 => 0 | 46 => 90 | 124 => 106 | n => n, fun | n => n⟩
theorem Tryd.lays153 : Go.Proofs.Lays.n153 Tryd.prog Tryd.lays153_ren := {
  mixed := by kernel_rfl
  f119 := Tryd.func96.trans (congrArg some (by kernel_rfl))
  f137 := Tryd.func58.trans (congrArg some (by kernel_rfl))
  f152 := Tryd.func86.trans (congrArg some (by kernel_rfl))
  f153 := Tryd.func66.trans (congrArg some (by kernel_rfl))
  f217 := Tryd.func77.trans (congrArg some (by kernel_rfl))
  f224 := Tryd.func84.trans (congrArg some (by kernel_rfl))
  f225 := Tryd.func83.trans (congrArg some (by kernel_rfl))
  f226 := Tryd.func87.trans (congrArg some (by kernel_rfl))
  f227 := Tryd.func88.trans (congrArg some (by kernel_rfl))
  f228 := Tryd.func89.trans (congrArg some (by kernel_rfl))
  f266 := Tryd.func93.trans (congrArg some (by kernel_rfl))
  t0 := Tryd.underlying0
  a0 := Tryd.isAgg0
  z0 := Tryd.sizeOf0
  v0 := Tryd.zeroValue0
  t3 := Tryd.underlying3
  a3 := Tryd.isAgg3
  z3 := Tryd.sizeOf3
  v3 := Tryd.zeroValue3
  t4 := Tryd.underlying4
  a4 := Tryd.isAgg4
  z4 := Tryd.sizeOf4
  v4 := Tryd.zeroValue4
  t5 := Tryd.underlying5
  a5 := Tryd.isAgg5
  z5 := Tryd.sizeOf5
  v5 := Tryd.zeroValue5
  t9 := Tryd.underlying9
  a9 := Tryd.isAgg9
  z9 := Tryd.sizeOf9
  v9 := Tryd.zeroValue9
  t21 := Tryd.underlying21
  a21 := Tryd.isAgg21
  z21 := Tryd.sizeOf21
  v21 := Tryd.zeroValue21
  t46 := Tryd.underlying90
  a46 := Tryd.isAgg90
  z46 := Tryd.sizeOf90
  v46 := Tryd.zeroValue90
  t116 := Tryd.underlying94
  a116 := Tryd.isAgg94
  z116 := Tryd.sizeOf94
  t117 := Tryd.underlying95
  a117 := Tryd.isAgg95
  z117 := Tryd.sizeOf95
  v117 := Tryd.zeroValue95
  t124 := Tryd.underlying106
  a124 := Tryd.isAgg106
  z124 := Tryd.sizeOf106
  v124 := Tryd.zeroValue106 }
open Go.RowKit Go.Lib in
theorem Tryd.strings_IndexAny_long (hv116 : ∀ w, (zeroValue 94).run Tryd.prog w = .ok (.agg (Array.replicate 256 (.bool false))) w) (s chars : ByteArray) (w : World) (h2 : 2 ≤ chars.size) (h8 : 8 < s.size) (hs : s.size < 4294967281) (hcs : chars.size < 4294967281) (hascii : ∀ (j : Nat) b, chars.data.toList[j]? = some b → b.toNat < 128) :
    Calls Tryd.prog 66 #[.string s, .string chars] w fun e w' => e = .returned (.int .i64 (Lib.indexAny s.data.toList chars.data.toList)) ∧ w' = ((w.alloc (.cells (Lib.setCells chars.data.toList) 94)).alloc (.cells (Lib.setCells chars.data.toList) 94)) := Any.strings_IndexAny_long Tryd.lays153 hv116 (by kernel_rfl) s chars w h2 h8 hs hcs hascii
def Tryd.lays150_ren : Go.Shelf.Ren := ⟨fun | 150 => 49 | 153 => 66 | 152 => 86 | 226 => 87 | 227 => 88 | 228 => 89 | 137 => 58 | 119 => 96 | 224 => 84 | 225 => 83 | 217 => 77 | 266 => 93 | n => n, fun | 9 => 9 | 4 => 4 | 3 => 3 | 5 => 5 | 21 => 21 | 117 => 95 | 116 => 94 | 0 => 0 | 46 => 90 | 124 => 106 | n => n, fun | n => n⟩
theorem Tryd.lays150 : Go.Proofs.Lays.n150 Tryd.prog Tryd.lays150_ren := {
  mixed := by kernel_rfl
  f119 := Tryd.func96.trans (congrArg some (by kernel_rfl))
  f137 := Tryd.func58.trans (congrArg some (by kernel_rfl))
  f150 := Tryd.func49.trans (congrArg some (by kernel_rfl))
  f152 := Tryd.func86.trans (congrArg some (by kernel_rfl))
  f153 := Tryd.func66.trans (congrArg some (by kernel_rfl))
  f217 := Tryd.func77.trans (congrArg some (by kernel_rfl))
  f224 := Tryd.func84.trans (congrArg some (by kernel_rfl))
  f225 := Tryd.func83.trans (congrArg some (by kernel_rfl))
  f226 := Tryd.func87.trans (congrArg some (by kernel_rfl))
  f227 := Tryd.func88.trans (congrArg some (by kernel_rfl))
  f228 := Tryd.func89.trans (congrArg some (by kernel_rfl))
  f266 := Tryd.func93.trans (congrArg some (by kernel_rfl))
  t0 := Tryd.underlying0
  a0 := Tryd.isAgg0
  z0 := Tryd.sizeOf0
  v0 := Tryd.zeroValue0
  t3 := Tryd.underlying3
  a3 := Tryd.isAgg3
  z3 := Tryd.sizeOf3
  v3 := Tryd.zeroValue3
  t4 := Tryd.underlying4
  a4 := Tryd.isAgg4
  z4 := Tryd.sizeOf4
  v4 := Tryd.zeroValue4
  t5 := Tryd.underlying5
  a5 := Tryd.isAgg5
  z5 := Tryd.sizeOf5
  v5 := Tryd.zeroValue5
  t9 := Tryd.underlying9
  a9 := Tryd.isAgg9
  z9 := Tryd.sizeOf9
  v9 := Tryd.zeroValue9
  t21 := Tryd.underlying21
  a21 := Tryd.isAgg21
  z21 := Tryd.sizeOf21
  v21 := Tryd.zeroValue21
  t46 := Tryd.underlying90
  a46 := Tryd.isAgg90
  z46 := Tryd.sizeOf90
  v46 := Tryd.zeroValue90
  t116 := Tryd.underlying94
  a116 := Tryd.isAgg94
  z116 := Tryd.sizeOf94
  t117 := Tryd.underlying95
  a117 := Tryd.isAgg95
  z117 := Tryd.sizeOf95
  v117 := Tryd.zeroValue95
  t124 := Tryd.underlying106
  a124 := Tryd.isAgg106
  z124 := Tryd.sizeOf106
  v124 := Tryd.zeroValue106 }
open Go.RowKit Go.Lib in
theorem Tryd.strings_ContainsAny (hv116 : ∀ w, (zeroValue 94).run Tryd.prog w = .ok (.agg (Array.replicate 256 (.bool false))) w) (s chars : ByteArray) (w : World) (hs : s.size < 4294967281) (hcs : chars.size < 4294967281) (has : ∀ (j : Nat) b, s.data.toList[j]? = some b → b.toNat < 128) (hac : ∀ (j : Nat) b, chars.data.toList[j]? = some b → b.toNat < 128) :
    Calls Tryd.prog 49 #[.string s, .string chars] w fun e w' => e = .returned (.bool (Lib.containsAny s.data.toList chars.data.toList)) ∧ Below w.heap.size w w' := Any.strings_ContainsAny Tryd.lays150 hv116 (by kernel_rfl) s chars w hs hcs has hac
open Go.RowKit Go.Lib in
theorem Tryd.strings_ContainsFunc_grows (g : Nat) (lb : Array Value) (eg : ∀ args w, (callFunc g args).run Tryd.prog w = .ok (.enter g args) w) (p : Nat → Bool) (s : ByteArray) (w : World) (hp : PredGrows Tryd.prog g lb p w) :
    Calls Tryd.prog 70 #[.string s, .func (.func g) #[] lb] w fun e w' => e = .returned (.bool (decide (0 ≤ Lib.idxFunc p true s))) ∧ Below w.heap.size w w' := Any.strings_ContainsFunc_grows Tryd.laysGw17 g lb eg p s w hp
end Go.Proofs
namespace Go.Proofs.YtkecpfjmdokieaaDoor.BuilderW
open Go Go.RowKit Go.Proofs.YtkecpfjmdokieaaDoorW.PrintWords Go.Proofs.YtkecpfjmdokieaaDoor.Base
set_option linter.unusedVariables false
def Bld (w : World) (B b : Nat) (l : List UInt8) : Prop := Lib.IsBuilder 49 5 B b (Lib.byteCells l) w
theorem sizeBuilder : (Tryd.prog.info? 47).map (·.size) = some 2 := by kernel_rfl
theorem infoByte : (Tryd.prog.info? 5).map (fun i => (i.zero, i.size, i.bytes)) = some (some (.int .u8 0), 1, 1) := by kernel_rfl
theorem Bld_new {w : World} {g : Nat} {B : Nat} (hg : w.heap[g]? = some (.cells #[.pointer none, .slice none 0 0] 49 (0, 0))) (hB : B ≤ g) : Bld w B g [] :=
  .inl ⟨hB, _, hg, ⟨rfl, .inl ⟨rfl, rfl⟩⟩, by simp [Value.ownBlock]⟩
theorem Bld_below {w w1 : World} {B b : Nat} {l : List UInt8} (h : Bld w B b l) (hb : Below w.heap.size w w1) : Bld w1 B b l := by
  rcases h with ⟨hB, v, hg, hown, hne⟩ | ⟨hB, v, hg, hown, hne⟩
  · exact .inl ⟨hB, v, blk_below hg hb, pw_own_below hown hb, hne⟩
  · exact .inr ⟨hB, v, blk_below hg hb, pw_own_below hown hb, hne⟩
set_option maxHeartbeats 1000000 in
set_option maxRecDepth 100000 in
theorem check_used (b : Nat) (w : World) (h0 : w.cell? ⟨b, 0, none⟩ = some (.pointer (some ⟨b, 0, none⟩))) :
    Calls Tryd.prog 60 #[.pointer (some ⟨b, 0, none⟩)] w fun e w' => e = .returned (.tuple #[]) ∧ w = w' := by
  obtain ⟨j, hj, _⟩ := Option.map_eq_some_iff.1 sizeBuilder
  go_enter Tryd.func60, Tryd.ntmps60
  go_wp2
  rw [Lib.run_neq_ptr_same w _ Tryd.underlying44 hj]
  go_wp2
  go_end0
  exact ⟨rfl, rfl⟩
set_option maxHeartbeats 1000000 in
set_option maxRecDepth 100000 in
theorem check_fresh (b : Nat) (w : World) (h0 : w.cell? ⟨b, 0, none⟩ = some (.pointer none)) (hsh : w.shape? b = some (49, 2)) (hfz : w.frozen? ⟨b, 0, none⟩ = false) :
    Calls Tryd.prog 60 #[.pointer (some ⟨b, 0, none⟩)] w fun e w' => e = .returned (.tuple #[]) ∧ w' = w.setCell ⟨b, 0, none⟩ (.pointer (some ⟨b, 0, none⟩)) := by
  obtain ⟨j, hj, hjs⟩ := Option.map_eq_some_iff.1 sizeBuilder
  go_enter Tryd.func60, Tryd.ntmps60
  go_wp2
  rw [Lib.run_to_unsafe w ⟨b, 0, none⟩ Tryd.underlying44 Tryd.underlying86 hj (by rw [hjs]; decide) hsh (Nat.zero_lt_succ 1)]
  simp only [Result.andThen]
  rw [Oper.upon_value]
  go_wp2
  rw [run_callFunc_extern Tryd.func78 (by kernel_rfl) (by kernel_rfl) (by kernel_rfl) (e := Extern.AbiNoEscape.same) (by kernel_rfl)]
  rw [Lib.run_noEscape]
  simp only [Result.andThen]
  rw [Oper.upon_value]
  go_wp2
  rw [Lib.run_from_unsafe w ⟨b, 0, none⟩ Tryd.underlying86 Tryd.underlying44 hj hsh (by kernel_rfl)]
  simp only [Result.andThen]
  rw [Oper.upon_value]
  go_wp2
  go_end0
  exact ⟨rfl, rfl⟩
theorem check_any (B b : Nat) (l : List UInt8) (w : World) (h : Bld w B b l) :
    Calls Tryd.prog 60 #[.pointer (some ⟨b, 0, none⟩)] w fun e w' => e = .returned (.tuple #[]) ∧ (Lib.BuilderAt 49 5 B b (.pointer (some ⟨b, 0, none⟩)) (Lib.byteCells l) w' ∧ Below B w w') := by
  rcases h with h | h
  · refine (check_fresh b w h.cell0 h.shape h.frozen0).mono ?_
    rintro e w' ⟨rfl, rfl⟩
    exact ⟨rfl, h.used _, (Below.refl B w).setCell (p := ⟨b, 0, none⟩) h.1 _⟩
  · refine (check_used b w h.cell0).mono ?_
    rintro e w' ⟨rfl, rfl⟩
    exact ⟨rfl, h, Below.refl B _⟩
set_option maxHeartbeats 2000000 in
set_option maxRecDepth 100000 in
theorem writeString_any (B b : Nat) (l : List UInt8) (s : ByteArray) (w : World) (h : Bld w B b l) (hlen : l.length + s.size ≤ 140737488355328) (hBw : B ≤ w.heap.size) :
    Calls Tryd.prog 41 #[.pointer (some ⟨b, 0, none⟩), .string s] w fun e w' => e = .returned (.tuple #[.int .i64 s.size, .nilIface]) ∧ Bld w' B b (l ++ s.data.toList) ∧ Below B w w' := by
  obtain ⟨i0, hi, hz0, hz1, hz2⟩ := info_parts infoByte
  go_enter Tryd.func41, Tryd.ntmps41
  go_wp2_with fail
  refine (check_any B b l _ h).mono ?_
  rintro e w1 ⟨rfl, h1, hb1⟩
  obtain ⟨hB, v, hbk, hown, hne⟩ := h1
  have c0 : w1.cell? ⟨b, 0, none⟩ = some (.pointer (some ⟨b, 0, none⟩)) := by rw [Lib.cell_of_heap hbk]; rfl
  have c1 : w1.cell? ⟨b, 1, none⟩ = some v := by rw [Lib.cell_of_heap hbk]; rfl
  have HBK := Aside0.mk hbk
  have HOWN := Aside0.mk hown
  have HNE := Aside0.mk hne
  have HB1 := Aside0.mk hb1
  clear hbk hown hne hb1
  go_wp2_with ((with_reducible refine gate_dst (N := 14) rfl ?_)
               refine Lib.wpList_append_own_string w1 rfl _ _ 45 9 rfl B 5 i0 Tryd.underlying45 Tryd.underlying9 hi hz0 hz1 hz2 v _ _ rfl HOWN.out s rfl ?c3 ?c4 ?c5 ?_)
  case c3 => rw [Lib.byteCells_length]; unfold maxLen; omega
  case c4 => rw [Lib.byteCells_length]; omega
  case c5 => have := HB1.out.size; omega
  intro v' w2 hown' hgrow _
  have hlt := blk_lt HBK.out
  have hb2 : w2.heap[b]? = some (.cells #[.pointer (some ⟨b, 0, none⟩), v] 49 (0, 0)) := by
    rw [hgrow.block b hlt (fun e => HNE.out e.symm)]
    exact HBK.out
  have d0 : w2.cell? ⟨b, 0, none⟩ = some (.pointer (some ⟨b, 0, none⟩)) := by rw [Lib.cell_of_heap hb2]; rfl
  have d1 : w2.cell? ⟨b, 1, none⟩ = some v := by rw [Lib.cell_of_heap hb2]; rfl
  have f1 : w2.frozen? ⟨b, 1, none⟩ = false := Lib.frozen_of_heap hb2 1
  obtain ⟨g, n', cap, rfl⟩ : ∃ g n' cap, v' = .slice g n' cap := by
    rcases hown'.2 with ⟨hv, h0⟩ | ⟨g, cap, cur, hv, _⟩
    · exact ⟨none, 0, 0, hv⟩
    · exact ⟨_, _, cap, hv⟩
  have HB2 := Aside0.mk hb2
  have HO2 := Aside0.mk hown'
  have HG2 := Aside0.mk hgrow
  clear hb2 hown' hgrow
  go_wp2
  go_ret2
  refine ⟨rfl, .inr ?_, ?_⟩
  · exact Lib.BuilderAt.put (T := 49) (e := 5) hB HB2.out (bs' := Lib.byteCells (l ++ s.data.toList)) (by
      have e1 : Lib.byteCells (l ++ s.data.toList) = Lib.byteCells l ++ Lib.strCells s := by unfold Lib.byteCells Lib.strCells; rw [List.map_append]
      have e2 : (Lib.byteCells (l ++ s.data.toList)).length = (Lib.byteCells l).length + s.size := by rw [e1, List.length_append, Lib.strCells_length]
      rw [e2, e1]
      exact HO2.out) (by decide)
  · exact ((HB1.out).grown HG2.out (by have := HB1.out.size; omega) (fun k hk => (HOWN.out.lt k hk).1)).setCell (p := ⟨b, 1, none⟩) hB _
set_option maxHeartbeats 2000000 in
set_option maxRecDepth 100000 in
theorem string_any (B b : Nat) (l : List UInt8) (w : World) (h : Bld w B b l) (h0 : l ≠ []) :
    Calls Tryd.prog 26 #[.pointer (some ⟨b, 0, none⟩)] w fun e w' => e = .returned (.string ⟨l.toArray⟩) ∧ Below B w w' := by
  obtain ⟨p, hB, v, hbk, hown, hne⟩ : ∃ p, Lib.BuilderAt 49 5 B b p (Lib.byteCells l) w := by
    rcases h with h | h
    · exact ⟨_, h⟩
    · exact ⟨_, h⟩
  have hl0 : l.length ≠ 0 := by simpa using h0
  rw [Lib.byteCells_length] at hown
  rcases hown.2 with ⟨_, hz⟩ | ⟨g, cap, cur, rfl, hbg, hg, hnc, hcm, hcs, htake⟩
  · exact absurd hz hl0
  have c1 : w.drew.cell? ⟨b, 1, none⟩ = some (.slice (some ⟨g, 0, none⟩) l.length cap) := by
    have : w.drew.heap[b]? = some (.cells #[p, .slice (some ⟨g, 0, none⟩) l.length cap] 49 (0, 0)) := hbk
    rw [Lib.cell_of_heap this]; rfl
  have hSD : (Builtin.unsafeSliceData_ #[45] 69 #[.slice (some ⟨g, 0, none⟩) l.length cap]).run Tryd.prog w.drew = .ok (.pointer (some ⟨g, 0, none⟩)) w.drew :=
    Lib.run_unsafeSliceData_row _ _ _ _ _ _ (by omega)
  have hUS : (Builtin.unsafeString_ #[69, 3] 9 #[.pointer (some ⟨g, 0, none⟩), .int .i64 l.length]).run Tryd.prog w.drew = .ok (.string ⟨l.toArray⟩) (w.drew.freeze ⟨g, 0, none⟩ l.length) := by
    refine Lib.run_unsafeString_row w.drew 69 3 9 5 Tryd.underlying69 (by kernel_rfl) g cur.size (by have hg' : w.drew.heap[g]? = some (.cells cur 5 (0, 0)) := hg; simp [World.shape?, hg']) l h0 (by omega) (by unfold maxLen at hcm; omega) ?_
    intro j x hx
    exact hown.cells (g := g) rfl j (.int .u8 x.toNat) (by simp [Lib.byteCells, hx])
  clear hown hg hnc hcm hcs htake hne h h0 hl0
  have mixed : Tryd.prog.follows .mixedOrders = true := by kernel_rfl
  go_enter Tryd.func26, Tryd.ntmps26
  go_wp2
  go_region_o
  all_goals (go_wp2; go_ret; exact ⟨rfl, Lib.below_freeze (Below.drew (Below.refl B w)) (p := ⟨g, 0, none⟩) hbg _⟩)
set_option maxHeartbeats 2000000 in
set_option maxRecDepth 100000 in
theorem string_nil (B b : Nat) (p : Value) (w : World) (hbk : w.heap[b]? = some (.cells #[p, .slice none 0 0] 49 (0, 0))) :
    Calls Tryd.prog 26 #[.pointer (some ⟨b, 0, none⟩)] w fun e w' => e = .returned (.string ⟨#[]⟩) ∧ Below B w w' := by
  have hUS : ∀ W : World, (Builtin.unsafeString_ #[69, 3] 9 #[.pointer none, .int .i64 0]).run Tryd.prog W = .ok (.string .empty) W := fun W => Lib.run_unsafeString_none W _ _ _ none
  have c1 : w.drew.cell? ⟨b, 1, none⟩ = some (.slice none 0 0) := by
    have : w.drew.heap[b]? = some (.cells #[p, .slice none 0 0] 49 (0, 0)) := hbk
    rw [Lib.cell_of_heap this]; rfl
  have hSD : (Builtin.unsafeSliceData_ #[45] 69 #[.slice none 0 0]).run Tryd.prog w.drew = .ok (.pointer none) w.drew := rfl
  clear hbk
  have mixed : Tryd.prog.follows .mixedOrders = true := by kernel_rfl
  go_enter Tryd.func26, Tryd.ntmps26
  go_wp2
  go_region_o
  all_goals (go_wp2; go_ret; exact ⟨rfl, Below.drew (Below.refl B w)⟩)
end Go.Proofs.YtkecpfjmdokieaaDoor.BuilderW
namespace Go.Proofs.YtkecpfjmdokieaaDoor.BuilderW
open Go Go.RowKit Go.Proofs.YtkecpfjmdokieaaDoorW.PrintWords Go.Proofs.YtkecpfjmdokieaaDoor.Base
set_option linter.unusedVariables false
theorem ownsRow_kind {w : World} {B : Nat} {e : TypeId} {v : Value} {n : Nat} {xs : List Value} (h : w.ownsRow B e 1 v n xs) : ∀ g, v.ownBlock = some g → ∃ c fz, w.heap[g]? = some (.cells c e fz) := by
  intro g hg
  rcases h.2 with ⟨rfl, _⟩ | ⟨g', cap, cur, rfl, _, hgg, _⟩
  · simp [Value.ownBlock] at hg
  · simp [Value.ownBlock] at hg
    subst hg
    exact ⟨cur, _, hgg⟩
abbrev Kp (b : Nat) (w w' : World) : Prop := Lib.OthersKept 5 (some b) w w'
theorem kp_below {b : Nat} {w w' : World} (h : Below w.heap.size w w') : Kp b w w' := fun k o hk _ _ => blk_below hk h
theorem check_keep (B b : Nat) (l : List UInt8) (w : World) (h : Bld w B b l) :
    Calls Tryd.prog 60 #[.pointer (some ⟨b, 0, none⟩)] w fun e w' => e = .returned (.tuple #[]) ∧ (Lib.BuilderAt 49 5 B b (.pointer (some ⟨b, 0, none⟩)) (Lib.byteCells l) w' ∧ Below B w w' ∧ Lib.OthersKept 5 (some b) w w') := by
  rcases h with h | h
  · refine (check_fresh b w h.cell0 h.shape h.frozen0).mono ?_
    rintro e w' ⟨rfl, rfl⟩
    exact ⟨rfl, h.used _, (Below.refl B w).setCell (p := ⟨b, 0, none⟩) h.1 _, (Lib.OthersKept.refl _ _ w).setCell ⟨b, 0, none⟩ rfl _⟩
  · refine (check_used b w h.cell0).mono ?_
    rintro e w' ⟨rfl, rfl⟩
    exact ⟨rfl, h, Below.refl B _, Lib.OthersKept.refl _ _ _⟩
set_option maxHeartbeats 2000000 in
set_option maxRecDepth 100000 in
theorem writeByte_keep (B b : Nat) (l : List UInt8) (c : UInt8) (w : World) (h : Bld w B b l) (hlen : l.length + 1 ≤ 140737488355328) (hBw : B ≤ w.heap.size) :
    Calls Tryd.prog 59 #[.pointer (some ⟨b, 0, none⟩), .int .u8 c.toNat] w fun e w' => e = .returned .nilIface ∧ Bld w' B b (l ++ [c]) ∧ Below B w w' ∧ Lib.OthersKept 5 (some b) w w' := by
  obtain ⟨i0, hi, hz0, hz1, hz2⟩ := info_parts infoByte
  go_enter Tryd.func59, Tryd.ntmps59
  go_wp2_with fail
  refine (check_keep B b l _ h).mono ?_
  rintro e w1 ⟨rfl, h1, hb1, hk1⟩
  obtain ⟨hB, v, hbk, hown, hne⟩ := h1
  have c0 : w1.cell? ⟨b, 0, none⟩ = some (.pointer (some ⟨b, 0, none⟩)) := by rw [Lib.cell_of_heap hbk]; rfl
  have c1 : w1.cell? ⟨b, 1, none⟩ = some v := by rw [Lib.cell_of_heap hbk]; rfl
  have HBK := Aside0.mk hbk
  have HOWN := Aside0.mk hown
  have HNE := Aside0.mk hne
  have HB1 := Aside0.mk hb1
  have HK1 := Aside0.mk hk1
  clear hbk hown hne hb1 hk1
  go_wp2_with ((with_reducible refine gate_dst (N := 14) rfl ?_)
               refine wpList_append_own _ rfl _ _ 45 rfl B 5 i0 (.int .u8 0) 1 1 Tryd.underlying45 hi hz0 hz1 hz2 rfl (by decide) _ _ _ rfl (HOWN.out.alloc _) ⟨w1.heap.size, 0, none⟩ 1 1 [.int .u8 c.toNat] rfl rfl ?c1 ?c2 ?c3 ?c4 ?c5 ?_)
  case c1 =>
    intro j u hj
    match j, hj with
    | 0, hj => simp at hj; subst hj; simp [Addr.add]
  case c2 => intro u hu; simp at hu; subst hu; rfl
  case c3 => rw [Lib.byteCells_length]; unfold maxLen; omega
  case c4 => rw [Lib.byteCells_length]; omega
  case c5 => have := HB1.out.size; simp; omega
  intro v' w2 hown' hgrow _
  have hlt := blk_lt HBK.out
  have hb2 : w2.heap[b]? = some (.cells #[.pointer (some ⟨b, 0, none⟩), v] 49 (0, 0)) := by
    rw [hgrow.block b (by simp; omega) (fun e => HNE.out e.symm), Lib.alloc_old w1 _ b hlt]
    exact HBK.out
  have d0 : w2.cell? ⟨b, 0, none⟩ = some (.pointer (some ⟨b, 0, none⟩)) := by rw [Lib.cell_of_heap hb2]; rfl
  have d1 : w2.cell? ⟨b, 1, none⟩ = some v := by rw [Lib.cell_of_heap hb2]; rfl
  have f1 : w2.frozen? ⟨b, 1, none⟩ = false := Lib.frozen_of_heap hb2 1
  obtain ⟨g, n', cap, rfl⟩ : ∃ g n' cap, v' = .slice (some ⟨g, 0, none⟩) n' cap := by
    rcases hown'.2 with ⟨_, h0⟩ | ⟨g, cap, cur, hv, _⟩
    · omega
    · exact ⟨g, _, cap, hv⟩
  have HB2 := Aside0.mk hb2
  have HO2 := Aside0.mk hown'
  have HG2 := Aside0.mk hgrow
  clear hb2 hown' hgrow
  go_wp2
  go_ret
  refine ⟨rfl, .inr ?_, ?_, ((HK1.out.alloc _).grown HG2.out (ownsRow_kind (HOWN.out.alloc _))).setCell ⟨b, 1, none⟩ rfl _⟩
  · exact Lib.BuilderAt.put (T := 49) (e := 5) hB HB2.out (bs' := Lib.byteCells (l ++ [c])) (by simpa [Lib.byteCells] using HO2.out) (by decide)
  · exact ((HB1.out.alloc (by have := HB1.out.size; omega) _).grown HG2.out (by have := HB1.out.size; simp; omega) (fun k hk => (HOWN.out.lt k hk).1)).setCell (p := ⟨b, 1, none⟩) hB _
set_option maxHeartbeats 2000000 in
set_option maxRecDepth 100000 in
theorem writeString_keep (B b : Nat) (l : List UInt8) (s : ByteArray) (w : World) (h : Bld w B b l) (hlen : l.length + s.size ≤ 140737488355328) (hBw : B ≤ w.heap.size) :
    Calls Tryd.prog 41 #[.pointer (some ⟨b, 0, none⟩), .string s] w fun e w' => e = .returned (.tuple #[.int .i64 s.size, .nilIface]) ∧ Bld w' B b (l ++ s.data.toList) ∧ Below B w w' ∧ Lib.OthersKept 5 (some b) w w' := by
  obtain ⟨i0, hi, hz0, hz1, hz2⟩ := info_parts infoByte
  go_enter Tryd.func41, Tryd.ntmps41
  go_wp2_with fail
  refine (check_keep B b l _ h).mono ?_
  rintro e w1 ⟨rfl, h1, hb1, hk1⟩
  obtain ⟨hB, v, hbk, hown, hne⟩ := h1
  have c0 : w1.cell? ⟨b, 0, none⟩ = some (.pointer (some ⟨b, 0, none⟩)) := by rw [Lib.cell_of_heap hbk]; rfl
  have c1 : w1.cell? ⟨b, 1, none⟩ = some v := by rw [Lib.cell_of_heap hbk]; rfl
  have HBK := Aside0.mk hbk
  have HOWN := Aside0.mk hown
  have HNE := Aside0.mk hne
  have HB1 := Aside0.mk hb1
  have HK1 := Aside0.mk hk1
  clear hbk hown hne hb1 hk1
  go_wp2_with ((with_reducible refine gate_dst (N := 14) rfl ?_)
               refine Lib.wpList_append_own_string w1 rfl _ _ 45 9 rfl B 5 i0 Tryd.underlying45 Tryd.underlying9 hi hz0 hz1 hz2 v _ _ rfl HOWN.out s rfl ?c3 ?c4 ?c5 ?_)
  case c3 => rw [Lib.byteCells_length]; unfold maxLen; omega
  case c4 => rw [Lib.byteCells_length]; omega
  case c5 => have := HB1.out.size; omega
  intro v' w2 hown' hgrow _
  have hlt := blk_lt HBK.out
  have hb2 : w2.heap[b]? = some (.cells #[.pointer (some ⟨b, 0, none⟩), v] 49 (0, 0)) := by
    rw [hgrow.block b hlt (fun e => HNE.out e.symm)]
    exact HBK.out
  have d0 : w2.cell? ⟨b, 0, none⟩ = some (.pointer (some ⟨b, 0, none⟩)) := by rw [Lib.cell_of_heap hb2]; rfl
  have d1 : w2.cell? ⟨b, 1, none⟩ = some v := by rw [Lib.cell_of_heap hb2]; rfl
  have f1 : w2.frozen? ⟨b, 1, none⟩ = false := Lib.frozen_of_heap hb2 1
  obtain ⟨g, n', cap, rfl⟩ : ∃ g n' cap, v' = .slice g n' cap := by
    rcases hown'.2 with ⟨hv, h0⟩ | ⟨g, cap, cur, hv, _⟩
    · exact ⟨none, 0, 0, hv⟩
    · exact ⟨_, _, cap, hv⟩
  have HB2 := Aside0.mk hb2
  have HO2 := Aside0.mk hown'
  have HG2 := Aside0.mk hgrow
  clear hb2 hown' hgrow
  go_wp2
  go_ret2
  refine ⟨rfl, .inr ?_, ?_, (HK1.out.grown HG2.out (ownsRow_kind HOWN.out)).setCell ⟨b, 1, none⟩ rfl _⟩
  · exact Lib.BuilderAt.put (T := 49) (e := 5) hB HB2.out (bs' := Lib.byteCells (l ++ s.data.toList)) (by
      have e1 : Lib.byteCells (l ++ s.data.toList) = Lib.byteCells l ++ Lib.strCells s := by unfold Lib.byteCells Lib.strCells; rw [List.map_append]
      have e2 : (Lib.byteCells (l ++ s.data.toList)).length = (Lib.byteCells l).length + s.size := by rw [e1, List.length_append, Lib.strCells_length]
      rw [e2, e1]
      exact HO2.out) (by decide)
  · exact ((HB1.out).grown HG2.out (by have := HB1.out.size; omega) (fun k hk => (HOWN.out.lt k hk).1)).setCell (p := ⟨b, 1, none⟩) hB _
end Go.Proofs.YtkecpfjmdokieaaDoor.BuilderW
namespace Go.Proofs.YtkecpfjmdokieaaDoor.Open
open Go.RowKit Go.ChangeShapes Go.WideShapes Go.Deep Go.Proofs.YtkecpfjmdokieaaDoorW.PrintWords
set_option linter.unusedVariables false
def Op {α : Type} (P : Program) (w : World) (d : Kd α) (t : TypeId) (V : α → Prop) : Prop :=
  ∀ (H : Type) (enc : TypeId × Value → H) (base : Nat) (spare : Nat → Bool) (held : Bool) (fuel : Nat) (cs : List Value) (x : DataW H × List MemPlace), DataW.trod enc P w base spare held fuel t cs = some x → (∀ n ∈ x.1.weights P t, n ≤ reachBytes) → ∃ v, d.K w v cs ∧ V v
section
variable {P : Program} {w : World}
theorem op_int {t : TypeId} {k : IntKind} (ht : P.underlying t = some (.int k)) : Op P w (Kd.int k) t (fun n => (Lit.int k n).wf = true) := by
  intro H enc base spare held fuel cs x h _
  obtain ⟨n, rfl, _, hw⟩ := DataW.trod_int ht h
  exact ⟨n, rfl, hw⟩
theorem op_bool {t : TypeId} (ht : P.underlying t = some .bool) : Op P w Kd.bool t (fun _ => True) := by
  intro H enc base spare held fuel cs x h _
  obtain ⟨b, rfl, _⟩ := DataW.trod_bool ht h
  exact ⟨b, rfl, trivial⟩
theorem op_string {t : TypeId} (ht : P.underlying t = some .string) : Op P w Kd.string t (fun s => s.size ≤ reachBytes) := by
  intro H enc base spare held fuel cs x h hz
  obtain ⟨s, rfl, rfl, hs⟩ := DataW.trod_string ht h
  exact ⟨s, rfl, by have := hz _ (List.mem_singleton.2 rfl); rwa [data_length] at this⟩
theorem op_mono {α : Type} {d : Kd α} {t : TypeId} {V V' : α → Prop} (h : Op P w d t V) (hV : ∀ x, V x → V' x) : Op P w d t V' := fun H enc base spare held fuel cs x hx hz =>
  let ⟨v, hv, hh⟩ := h H enc base spare held fuel cs x hx hz; ⟨v, hv, hV v hh⟩
theorem weightsAll_mem {H : Type} {P : Program} {e : TypeId} : ∀ {l : List (DataW H)} {d : DataW H}, d ∈ l → ∀ n ∈ d.weights P e, n ∈ DataW.weightsAll P e l
  | _ :: _, _, List.Mem.head _, n, hn => by simp only [DataW.weightsAll, List.mem_append]; exact .inl hn
  | _ :: r, d, List.Mem.tail _ h, n, hn => by simp only [DataW.weightsAll, List.mem_append]; exact .inr (weightsAll_mem h n hn)
theorem op_slice {α : Type} {d : Kd α} {t e : TypeId} {V : α → Prop} (ht : P.underlying t = some (.slice e)) (hsz : P.cellsOf e = d.sz) (h : Op P w d e V) : Op P w (Kd.slice e d) t (fun l => l.length * P.bytesOf e ≤ reachBytes ∧ ∀ x ∈ l, V x) := by
  intro H enc base spare held fuel cs x hx hz
  rcases open_slice ht hx with ⟨rfl, _⟩ | ⟨a, len, cap, m, n, D, Pl, rfl, hb, hl, hm, hmm, rfl, hi⟩
  · exact ⟨[], ⟨none, 0, rfl, Nat.le_refl _, Kd.C_nil _ _⟩, by simp, by simp⟩
  · simp only [DataW.weights, ht] at hz
    have hz1 := hz _ (List.mem_cons_self)
    have hz2 : ∀ i, i < len → ∀ n ∈ (D i).weights P e, n ≤ reachBytes := fun i hi n hn => hz n (List.mem_cons_of_mem _ (List.mem_append_left _ (weightsAll_mem (List.mem_map.2 ⟨i, List.mem_range.2 hi, rfl⟩) n hn)))
    simp only [List.length_map, List.length_range] at hz1
    have hlm : len ≤ m := by rw [hmm]; split <;> omega
    have key : ∀ k, k ≤ len → ∃ l : List α, l.length = k ∧ ∀ i p, l[i]? = some p → V p ∧ ∃ c : List Value, c.length = d.sz ∧ d.K w p c ∧ ∀ j u, c[j]? = some u → w.cell? (a.add (i * d.sz + j)) = some u := by
      intro k
      induction k with
      | zero => exact fun _ => ⟨[], rfl, by simp⟩
      | succ k ih =>
        intro hk
        obtain ⟨l, hlen, hh⟩ := ih (by omega)
        obtain ⟨cs', hc, ht'⟩ := hi k (by omega)
        obtain ⟨v, hK, hV⟩ := h H enc base spare held n cs' _ ht' (hz2 k (by omega))
        obtain ⟨_, hcl, hat⟩ := World.cells?_some hc
        refine ⟨l ++ [v], by simp [hlen], fun i p hp => ?_⟩
        rcases Nat.lt_or_ge i l.length with hil | hil
        · rw [List.getElem?_append_left hil] at hp
          exact hh i p hp
        · obtain rfl : i = l.length := by
            have := (List.getElem?_eq_some_iff.1 hp).1
            rw [List.length_append, List.length_singleton] at this
            omega
          have hp' : v = p := by simpa using hp
          subst hp'
          refine ⟨hV, cs', d.K_len hK, hK, fun j u hu => ?_⟩
          have hj : j < cs'.length := (List.getElem?_eq_some_iff.1 hu).1
          have := hat j (by omega)
          rw [← Go.Deep.add_add, hlen, ← hsz, this, hu]
    obtain ⟨l, hll, hh⟩ := key len (Nat.le_refl _)
    have hml : len ≤ maxLen := Nat.le_trans hl hm
    refine ⟨l, ⟨some a, cap, by rw [hll], by omega, rfl, by unfold maxLen at hml; omega, fun _ => ⟨a, rfl, fun j p hp => ?_⟩⟩, ?_, fun p hp => ?_⟩
    · obtain ⟨_, c, h1, h2, h3⟩ := hh j p hp
      exact ⟨c, h1, h2, h3⟩
    · rw [hll]
      exact Nat.le_trans (Nat.mul_le_mul_right _ (by omega)) hz1
    · obtain ⟨i, hi', rfl⟩ := List.getElem_of_mem hp
      exact (hh i _ (List.getElem?_eq_getElem hi')).1
theorem open_sl {H : Type} {enc : TypeId × Value → H} {base : Nat} {spare : Nat → Bool} {held : Bool} {α : Type} {d : Kd α} {t e : TypeId} {V : List α → Prop} (hop : Op P w (Kd.slice e d) t V) {a : Option Addr} {len cap : Nat} {dd : DataW H} {ps : List MemPlace}
    (h : DataW.Trod enc P w base spare held t (.slice a len cap) dd ps) (hz : ∀ n ∈ dd.weights P t, n ≤ reachBytes) : ∃ l, d.C w a len l ∧ len ≤ cap ∧ V l := by
  obtain ⟨fuel, hf⟩ := h
  obtain ⟨l, ⟨A', c', hcs, hle, hC⟩, hV⟩ := hop H enc base spare held fuel _ _ hf hz
  simp only [Value.cells, List.cons.injEq, Value.slice.injEq, and_true] at hcs
  obtain ⟨rfl, rfl, rfl⟩ := hcs
  exact ⟨l, hC, hle, hV⟩
end
end Go.Proofs.YtkecpfjmdokieaaDoor.Open
namespace Go.Proofs.YtkecpfjmdokieaaDoor.Open
open Go.RowKit Go.ChangeShapes Go.WideShapes Go.Deep Go.Proofs.YtkecpfjmdokieaaDoorW.PrintWords
set_option linter.unusedVariables false
def OpU (N : Nat) {α : Type} (P : Program) (w : World) (d : Kd α) (t : TypeId) (V : α → Prop) : Prop :=
  ∀ (H : Type) (enc : TypeId × Value → H) (base : Nat) (spare : Nat → Bool) (held : Bool) (fuel : Nat) (cs : List Value) (x : DataW H × List MemPlace), fuel ≤ N → DataW.trod enc P w base spare held fuel t cs = some x → (∀ n ∈ x.1.weights P t, n ≤ reachBytes) → ∃ v, d.K w v cs ∧ V v
section
variable {P : Program} {w : World}
theorem opu_of {α : Type} {d : Kd α} {t : TypeId} {V : α → Prop} (N : Nat) (h : Op P w d t V) : OpU N P w d t V := fun H enc base spare held fuel cs x _ hx hz => h H enc base spare held fuel cs x hx hz
theorem opu_mono {α : Type} {d : Kd α} {t : TypeId} {V V' : α → Prop} {N N' : Nat} (h : OpU N P w d t V) (hN : N' ≤ N) (hV : ∀ x, V x → V' x) : OpU N' P w d t V' := fun H enc base spare held fuel cs x hf hx hz =>
  let ⟨v, hv, hh⟩ := h H enc base spare held fuel cs x (Nat.le_trans hf hN) hx hz; ⟨v, hv, hV v hh⟩
theorem open_sliceN {H : Type} {enc : TypeId × Value → H} {base : Nat} {spare : Nat → Bool} {held : Bool} {t e : TypeId} {fuel : Nat} {cs : List Value} {x : DataW H × List MemPlace} (ht : P.underlying t = some (.slice e)) (h : DataW.trod enc P w base spare held fuel t cs = some x) :
    (cs = [.slice none 0 0] ∧ x = (.nil, [])) ∨
    ∃ (a : Addr) (len cap m n : Nat) (D : Nat → DataW H) (rest : List (DataW H)) (pl : List MemPlace), fuel = n + 1 ∧ cs = [.slice (some a) len cap] ∧ len ≤ cap ∧ cap ≤ maxLen ∧
      x = (.slice ((List.range len).map D) rest, pl) ∧
      ∀ i, i < len → ∃ cs' p, w.cells? base (a.add (i * P.cellsOf e)) (P.cellsOf e) = some cs' ∧ DataW.trod enc P w base spare held n e cs' = some (D i, p) := by
  rcases DataW.trod_slice ht h with h0 | ⟨a, len, cap, elems, rest, n, hn, rfl, rfl, hb, hl, hm, hlen, hel, hsp, hns⟩
  · exact Or.inl h0
  right
  refine ⟨a, len, cap, 0, n, fun i => (elems.getD i (.nil, [])).1, rest.map (·.1), MemPlace.row a ((elems.length + rest.length) * P.cellsOf e) ++ (elems ++ rest).flatMap (·.2), hn, rfl, hl, hm, ?_, fun i hi => ?_⟩
  · refine Prod.ext ?_ rfl
    show DataW.slice (elems.map (·.1)) _ = _
    congr 1
    refine List.ext_getElem (by simp [hlen]) fun i h1 h2 => ?_
    have hi : i < elems.length := by simpa using h1
    simp [List.getD_eq_getElem?_getD, List.getElem?_eq_getElem hi]
  · have key := hel i hi
    have hie : i < elems.length := by omega
    rw [List.getElem?_eq_getElem hie] at key
    obtain ⟨cs', h1, h2⟩ := Option.bind_eq_some_iff.1 key
    exact ⟨cs', elems[i].2, h1, by rw [h2]; simp [List.getD_eq_getElem?_getD, List.getElem?_eq_getElem hie]⟩
theorem opu_slice {N : Nat} {α : Type} {d : Kd α} {t e : TypeId} {V : α → Prop} (ht : P.underlying t = some (.slice e)) (hsz : P.cellsOf e = d.sz) (h : OpU N P w d e V) : OpU (N + 1) P w (Kd.slice e d) t (fun l => l.length * P.bytesOf e ≤ reachBytes ∧ ∀ x ∈ l, V x) := by
  intro H enc base spare held fuel cs x hN hx hz
  rcases open_sliceN ht hx with ⟨rfl, _⟩ | ⟨a, len, cap, _, n, D, rest, pl, hn, rfl, hl, hm, rfl, hi⟩
  · exact ⟨[], ⟨none, 0, rfl, Nat.le_refl _, Kd.C_nil _ _⟩, by simp, by simp⟩
  · simp only [DataW.weights, ht] at hz
    have hz1 := hz _ (List.mem_cons_self)
    have hz2 : ∀ i, i < len → ∀ n ∈ (D i).weights P e, n ≤ reachBytes := fun i hi n hn => hz n (List.mem_cons_of_mem _ (List.mem_append_left _ (weightsAll_mem (List.mem_map.2 ⟨i, List.mem_range.2 hi, rfl⟩) n hn)))
    simp only [List.length_map, List.length_range] at hz1
    have key : ∀ k, k ≤ len → ∃ l : List α, l.length = k ∧ ∀ i p, l[i]? = some p → V p ∧ ∃ c : List Value, c.length = d.sz ∧ d.K w p c ∧ ∀ j u, c[j]? = some u → w.cell? (a.add (i * d.sz + j)) = some u := by
      intro k
      induction k with
      | zero => exact fun _ => ⟨[], rfl, by simp⟩
      | succ k ih =>
        intro hk
        obtain ⟨l, hlen, hh⟩ := ih (by omega)
        obtain ⟨cs', p, hc, ht'⟩ := hi k (by omega)
        obtain ⟨v, hK, hV⟩ := h H enc base spare held n cs' _ (by omega) ht' (hz2 k (by omega))
        obtain ⟨_, hcl, hat⟩ := World.cells?_some hc
        refine ⟨l ++ [v], by simp [hlen], fun i p hp => ?_⟩
        rcases Nat.lt_or_ge i l.length with hil | hil
        · rw [List.getElem?_append_left hil] at hp
          exact hh i p hp
        · obtain rfl : i = l.length := by
            have := (List.getElem?_eq_some_iff.1 hp).1
            rw [List.length_append, List.length_singleton] at this
            omega
          have hp' : v = p := by simpa using hp
          subst hp'
          refine ⟨hV, cs', d.K_len hK, hK, fun j u hu => ?_⟩
          have hj : j < cs'.length := (List.getElem?_eq_some_iff.1 hu).1
          have := hat j (by omega)
          rw [← Go.Deep.add_add, hlen, ← hsz, this, hu]
    obtain ⟨l, hll, hh⟩ := key len (Nat.le_refl _)
    have hml : len ≤ maxLen := Nat.le_trans hl hm
    refine ⟨l, ⟨some a, cap, by rw [hll], by omega, rfl, by unfold maxLen at hml; omega, fun _ => ⟨a, rfl, fun j p hp => ?_⟩⟩, ?_, fun p hp => ?_⟩
    · obtain ⟨_, c, h1, h2, h3⟩ := hh j p hp
      exact ⟨c, h1, h2, h3⟩
    · rw [hll]
      exact Nat.le_trans (Nat.mul_le_mul_right _ (by omega)) hz1
    · obtain ⟨i, hi', rfl⟩ := List.getElem_of_mem hp
      exact (hh i _ (List.getElem?_eq_getElem hi')).1
def OpFU (N : Nat) {α : Type} (P : Program) (w : World) (d : Kd α) (fs : List Field) (o : Nat) (V : α → Prop) : Prop :=
  ∀ (H : Type) (enc : TypeId × Value → H) (base : Nat) (spare : Nat → Bool) (held : Bool) (n : Nat) (cs : List Value), n ≤ N → cs.length = o + d.sz →
    (∀ f, f ∈ fs → ∃ y, DataW.trod enc P w base spare held n f.type ((cs.drop f.offset).take (P.cellsOf f.type)) = some y ∧ ∀ n ∈ y.1.weights P f.type, n ≤ reachBytes) → ∃ v, d.K w v (cs.drop o) ∧ V v
theorem opfu_one {N : Nat} {α : Type} {d : Kd α} {f : Field} {o : Nat} {V : α → Prop} (hfo : f.offset = o) (h : OpU N P w d f.type V) (hsz : P.cellsOf f.type = d.sz) : OpFU N P w d [f] o V := by
  subst hfo
  intro H enc base spare held n cs hN hl hf
  obtain ⟨y, hy, hz⟩ := hf f (by simp)
  rw [List.take_of_length_le (by rw [List.length_drop]; omega)] at hy
  exact h H enc base spare held n _ y hN hy hz
theorem opfu_cons {N : Nat} {α β : Type} {d : Kd α} {d' : Kd β} {f : Field} {fs : List Field} {o o' : Nat} {V : α → Prop} {V' : β → Prop} (hfo : f.offset = o) (h : OpU N P w d f.type V) (hsz : P.cellsOf f.type = d.sz) (ho : o' = o + d.sz) (hr : OpFU N P w d' fs o' V') : OpFU N P w (Kd.pair d d') (f :: fs) o (fun x => V x.1 ∧ V' x.2) := by
  subst hfo
  intro H enc base spare held n cs hN hl hf
  have hl' : cs.length = f.offset + (d.sz + d'.sz) := hl
  obtain ⟨y, hy, hz⟩ := hf f (by simp)
  obtain ⟨v, hK, hV⟩ := h H enc base spare held n _ y hN hy hz
  obtain ⟨v', hK', hV'⟩ := hr H enc base spare held n cs hN (by omega) (fun g hg => hf g (by simp [hg]))
  refine ⟨(v, v'), ⟨_, _, ?_, hK, hK'⟩, hV, hV'⟩
  rw [hsz, ho, ← List.drop_drop, List.take_append_drop]
theorem opu_struct {N : Nat} {α β : Type} {d : Kd α} {t : TypeId} {fs : Array Field} {V : α → Prop} {V' : β → Prop} (g : β → α) (gi : α → β) (hg : ∀ x, g (gi x) = x) (ht : P.underlying t = some (.struct fs)) (hsz : P.cellsOf t = d.sz) (h : OpFU N P w d fs.toList 0 V) (hV : ∀ x, V (g x) → V' x) : OpU (N + 1) P w (Kd.iso d g) t V' := by
  intro H enc base spare held fuel cs x hN hx hz
  obtain ⟨xs, n, hn, rfl, hl, hxl, hf⟩ := DataW.trod_struct ht hx
  simp only [DataW.weights, ht] at hz
  obtain ⟨v, hK, hv⟩ := h H enc base spare held n cs (by omega) (by omega) (fun f hm => by
    obtain ⟨i, hi, rfl⟩ := List.getElem_of_mem hm
    have hi' : i < fs.size := by simpa using hi
    have := hf i fs[i] (Array.getElem?_eq_getElem hi')
    refine ⟨xs[i]'(by omega), ?_, fun m hm => hz m (DataW.weights_mem_each (j := i) (t := fs[i].type) (d := (xs[i]'(by omega)).1) (by simp [hi']) (by simp [List.getElem?_eq_getElem (show i < xs.length by omega)]) m (by simpa using hm))⟩
    rw [List.getElem?_eq_getElem (by omega)] at this
    simpa using this)
  exact ⟨gi v, by rw [show (Kd.iso d g).K = fun w x cs => d.K w (g x) cs from rfl]; simp only; rw [hg]; simpa using hK, hV _ (by rw [hg]; exact hv)⟩
theorem op_fix {α : Type} {F : Kd α → Kd α} {sz : Nat} {E : List Nat} {hs : ∀ n, (Kd.upto F sz E n).sz = sz} {hE : ∀ n q, q ∈ (Kd.upto F sz E n).E → q ∈ E} {t : TypeId} {V : α → Prop}
    (step : ∀ N (d : Kd α), d.sz = sz → OpU N P w d t V → OpU (N + 1) P w (F d) t V) : Op P w (Kd.fix F sz E hs hE) t V := by
  have h : ∀ N, OpU N P w (Kd.upto F sz E N) t V := by
    intro N
    induction N with
    | zero =>
      intro H enc base spare held fuel cs x hN hx _
      obtain rfl : fuel = 0 := by omega
      simp [DataW.trod] at hx
    | succ N ih => exact step N _ (hs N) ih
  intro H enc base spare held fuel cs x hx hz
  obtain ⟨v, hK, hV⟩ := h fuel H enc base spare held fuel cs x (Nat.le_refl _) hx hz
  exact ⟨v, ⟨fuel, hK⟩, hV⟩
end
end Go.Proofs.YtkecpfjmdokieaaDoor.Open
namespace Go.Proofs.YtkecpfjmdokieaaDoor.P
open Go.RowKit Go.Proofs.YtkecpfjmdokieaaDoorW.PrintWords Go.Proofs.YtkecpfjmdokieaaDoorW.PrintLast Go.Proofs.YtkecpfjmdokieaaDoorW.PrintMore
attribute [local go_sem] max2_int min2_int max_two min_two max_three min_three max_four min_four   -- for this text's walks alone
set_option linter.unusedVariables false
set_option linter.unusedSimpArgs false
def errW : Option Int → Value
  | none => .nilIface
  | some c => .iface 0 (.int .i64 c)
theorem errW_none : errW none = .nilIface := rfl
theorem errW_some (c : Int) : errW (some c) = .iface 0 (.int .i64 c) := rfl
structure S33 where
  f0 : Int
  f1 : Bool
  f2 : ByteArray
  f3 : ByteArray
  f4 : (List S33)
def z33 : S33 := ⟨(0 : Int), false, (⟨#[]⟩ : ByteArray), (⟨#[]⟩ : ByteArray), ([] : List S33)⟩
def F33 (d : Kd S33) : Kd S33 := Kd.iso (Kd.pair (Kd.int .i64) (Kd.pair Kd.bool (Kd.pair Kd.string (Kd.pair Kd.string (Kd.slice 33 d))))) (fun x : S33 => (x.f0, x.f1, x.f2, x.f3, x.f4))
theorem mono33 : Kd.Mono F33 := Kd.mono_iso _ (Kd.mono_pair (Kd.mono_const _) (Kd.mono_pair (Kd.mono_const _) (Kd.mono_pair (Kd.mono_const _) (Kd.mono_pair (Kd.mono_const _) (Kd.mono_slice 33 Kd.mono_id)))))
theorem sub33 : Kd.Sub F33 [33] := Kd.sub_iso _ (Kd.sub_pair (Kd.sub_const _ (by decide)) (Kd.sub_pair (Kd.sub_const _ (by decide)) (Kd.sub_pair (Kd.sub_const _ (by decide)) (Kd.sub_pair (Kd.sub_const _ (by decide)) (Kd.sub_slice 33 (by decide) Kd.sub_id)))))
theorem sz33 : ∀ n, (Kd.upto F33 5 [33] n).sz = 5 := Kd.upto_sz (fun _ => rfl)
def k33 : Kd S33 := Kd.fix F33 5 [33] sz33 (Kd.upto_E sub33)
theorem k33_open {w : World} {x : S33} {cs : List Value} (h : k33.K w x cs) : ∃ A4 c4, cs = [.int .i64 x.f0, .bool x.f1, .string x.f2, .string x.f3, .slice A4 x.f4.length c4] ∧ x.f4.length ≤ c4 ∧ k33.C w A4 x.f4.length x.f4 := by
  obtain ⟨n, h⟩ := h
  cases n with
  | zero => exact h.elim
  | succ n =>
    obtain ⟨_, _, rfl, rfl, ⟨_, _, rfl, rfl, ⟨_, _, rfl, rfl, ⟨_, _, rfl, rfl, ⟨A4, c4, rfl, l4, g4⟩⟩⟩⟩⟩ := h
    exact ⟨A4, c4, rfl, l4, Kd.fix_C g4⟩
theorem k33_mkM (w : World) (base : Nat) (ok : Nat → Prop) (x : S33) {v4 : Value} (g4 : k33.R 33 w base ok v4 x.f4) : k33.M w base ok x [.int .i64 x.f0, .bool x.f1, .string x.f2, .string x.f3, v4] := by
  obtain ⟨n4, q4⟩ := Kd.fix_R_back mono33 g4
  have r4 := Kd.upto_R_le mono33 sz33 (show n4 ≤ n4 by omega) q4
  exact ⟨n4 + 1, ⟨[.int .i64 x.f0], [.bool x.f1, .string x.f2, .string x.f3, v4], rfl, rfl, ⟨[.bool x.f1], [.string x.f2, .string x.f3, v4], rfl, rfl, ⟨[.string x.f2], [.string x.f3, v4], rfl, rfl, ⟨[.string x.f3], [v4], rfl, rfl, ⟨v4, rfl, r4⟩⟩⟩⟩⟩⟩
def rd_T33 (xs : List S33) (i : Int) : S33 := xs.getD i.toNat z33
theorem at_T33 {w : World} {A : Option Addr} {n : Nat} {xs : List S33} (h : Kd.C k33 w A n xs) (i : Int) (h0 : 0 ≤ i) (h1 : i < n) : ∃ ad A4 c4, A = some ad ∧ w.cell? (ad.add (i.toNat * 5)) = some (.int .i64 (rd_T33 xs i).f0) ∧ w.cell? ⟨(ad.add (i.toNat * 5)).block, (ad.add (i.toNat * 5)).off + 1, none⟩ = some (.bool (rd_T33 xs i).f1) ∧ w.cell? ⟨(ad.add (i.toNat * 5)).block, (ad.add (i.toNat * 5)).off + 2, none⟩ = some (.string (rd_T33 xs i).f2) ∧ w.cell? ⟨(ad.add (i.toNat * 5)).block, (ad.add (i.toNat * 5)).off + 3, none⟩ = some (.string (rd_T33 xs i).f3) ∧ w.cell? ⟨(ad.add (i.toNat * 5)).block, (ad.add (i.toNat * 5)).off + 4, none⟩ = some (.slice A4 (rd_T33 xs i).f4.length c4) ∧ (rd_T33 xs i).f4.length ≤ c4 ∧ k33.C w A4 (rd_T33 xs i).f4.length (rd_T33 xs i).f4 := by
  obtain ⟨ad, c, e, _, hK, hc0⟩ := Kd.C_get h z33 i h0 h1
  have hc : ∀ j u, c[j]? = some u → w.cell? (ad.add (i.toNat * 5 + j)) = some u := hc0
  obtain ⟨A4, c4, rfl, l4, g4⟩ := k33_open hK
  exact ⟨ad, A4, c4, e, hc 0 _ rfl, by rw [← add_field _ _ 1 (by omega)]; exact hc 1 _ rfl, by rw [← add_field _ _ 2 (by omega)]; exact hc 2 _ rfl, by rw [← add_field _ _ 3 (by omega)]; exact hc 3 _ rfl, by rw [← add_field _ _ 4 (by omega)]; exact hc 4 _ rfl, l4, g4⟩
end Go.Proofs.YtkecpfjmdokieaaDoor.P
namespace Go.Proofs.YtkecpfjmdokieaaDoor.NodeOps
open Go.RowKit Go.Proofs.YtkecpfjmdokieaaDoorW.PrintWords Go.Proofs.YtkecpfjmdokieaaDoor.Open Go.Proofs.YtkecpfjmdokieaaDoor.P
set_option linter.unusedVariables false
abbrev Lim (n : Nat) : Prop := n ≤ 140737488355328
inductive FitPart : S33 → Prop
  | mk (x : S33) (h2 : Lim x.f2.size) (h3 : Lim x.f3.size) (hl : Lim x.f4.length) (h : ∀ y ∈ x.f4, FitPart y) : FitPart x
abbrev FitWord (l : List S33) : Prop := Lim l.length ∧ ∀ y ∈ l, FitPart y
theorem lim_of {n b : Nat} (h : n * b ≤ reachBytes) (hb : 1 ≤ b) : Lim n := by
  have h1 : n * 1 ≤ n * b := Nat.mul_le_mul_left _ hb
  have h2 : reachBytes ≤ 140737488355328 := by decide
  unfold Lim; omega
theorem lim_b {n : Nat} (h : n ≤ reachBytes) : Lim n := by
  have h2 : reachBytes ≤ 140737488355328 := by decide
  unfold Lim; omega
set_option maxRecDepth 100000 in
theorem op_part (w : World) : Open.Op Tryd.prog w k33 33 FitPart := op_fix fun N d hd ih =>
  opu_struct (V := fun x => True ∧ True ∧ x.2.2.1.size ≤ reachBytes ∧ x.2.2.2.1.size ≤ reachBytes ∧ (x.2.2.2.2.length * Tryd.prog.bytesOf 33 ≤ reachBytes ∧ ∀ y ∈ x.2.2.2.2, FitPart y))
    (fun x : S33 => (x.f0, x.f1, x.f2, x.f3, x.f4)) (fun x => ⟨x.1, x.2.1, x.2.2.1, x.2.2.2.1, x.2.2.2.2⟩) (fun _ => rfl) Tryd.underlying33 (by kernel_rfl)
    (opfu_cons (o' := 1) (V := fun _ : Int => True) rfl (opu_mono (opu_of N (op_int Tryd.underlying3)) (Nat.le_refl _) (fun _ _ => trivial)) (by kernel_rfl) rfl
    (opfu_cons (o' := 2) (V := fun _ : Bool => True) rfl (opu_of N (op_bool Tryd.underlying4)) (by kernel_rfl) rfl
    (opfu_cons (o' := 3) (V := fun s : ByteArray => s.size ≤ reachBytes) rfl (opu_of N (op_string Tryd.underlying9)) (by kernel_rfl) rfl
    (opfu_cons (o' := 4) (V := fun s : ByteArray => s.size ≤ reachBytes) rfl (opu_of N (op_string Tryd.underlying9)) (by kernel_rfl) rfl
    (opfu_one rfl (opu_mono (opu_slice Tryd.underlying22 (by rw [hd]; first | done | rfl | kernel_rfl) ih) (Nat.le_succ _) (fun _ h => h)) (by kernel_rfl))))))
    (fun x h => .mk x (lim_b h.2.2.1) (lim_b h.2.2.2.1) (lim_of h.2.2.2.2.1 (by decide +kernel)) h.2.2.2.2.2)
set_option maxRecDepth 100000 in
theorem op_word (w : World) : Open.Op Tryd.prog w (Kd.slice 33 k33) 23 FitWord :=
  op_mono (op_slice Tryd.underlying23 (by kernel_rfl) (op_part w)) (fun _ h => ⟨lim_of h.1 (by decide +kernel), h.2⟩)
end Go.Proofs.YtkecpfjmdokieaaDoor.NodeOps
namespace Go.Proofs.YtkecpfjmdokieaaDoor.P
open Go.RowKit Go.Proofs.YtkecpfjmdokieaaDoorW.PrintWords Go.Proofs.YtkecpfjmdokieaaDoorW.PrintLast Go.Proofs.YtkecpfjmdokieaaDoorW.PrintMore
attribute [local go_sem] max2_int min2_int max_two min_two max_three min_three max_four min_four   -- for this text's walks alone
set_option linter.unusedVariables false
set_option linter.unusedSimpArgs false
mutual
def deadfallref03_Weight.j0 : Nat → List (S33) → Int → Bool → Option (Int)
  | 0, _, _, _ => none
  | k + 1, x0, x1, x14 => if x14 = true then (some 100000) else (deadfallref03_Weight.l0 k x1 0 x0 (x0.length : Int) 0)
def deadfallref03_Weight.l0 : Nat → Int → Int → List (S33) → Int → Int → Option (Int)
  | 0, _, _, _, _, _ => none
  | k + 1, x1, x5, x15, x16, x17 => if x17 < x16 then (if 0 ≤ x17 then (if x17 < (x15.length : Int) then ((deadfallref03_Weight.f k ((rd_T33 x15 x17).f4) (wrap64 (x1 + 1))).bind fun t135 => (if (wrap64 (x5 + (wrap64 ((wrap64 ((wrap64 (1 + (((rd_T33 x15 x17).f2).size : Int))) + (((rd_T33 x15 x17).f3).size : Int))) + t135)))) > 10000 then (some 100000) else (deadfallref03_Weight.l0 k x1 (wrap64 (x5 + (wrap64 ((wrap64 ((wrap64 (1 + (((rd_T33 x15 x17).f2).size : Int))) + (((rd_T33 x15 x17).f3).size : Int))) + t135)))) x15 x16 (wrap64 (x17 + 1))))) else (none)) else (none)) else (some x5)
def deadfallref03_Weight.f : Nat → List (S33) → Int → Option (Int)
  | 0, _, _ => none
  | k + 1, l0, a1 => if a1 > 250 then (deadfallref03_Weight.j0 k l0 a1 true) else (deadfallref03_Weight.j0 k l0 a1 (decide ((l0.length : Int) > 10000)))
end
def deadfallref03_Weight.T7 : Bool × List (List Nat × List Nat) := (true, [([], []), ([], []), ([1], [1]), ([2], [2]), ([3], [3]), ([], []), ([5], [5]), ([6], [6]), ([4, 7], [4, 7]), ([], []), ([9], [9]), ([], []), ([11], [11]), ([10, 12], [10, 12]), ([8, 13], [8, 13]), ([0, 14], [0, 14]), ([15, 13, 0, 1, 2, 3, 4, 5, 6, 7, 8, 9, 10, 11, 12, 13, 14, 15], [0, 15])])
def deadfallref03_Weight.B7 : List Nat := [0, 0, 2, 6, 14, 0, 32, 96, 254, 0, 512, 0, 2048, 7680, 16382, 32767, 65535]
theorem deadfallref03_Weight.tab7 : rtab .any (opsOf Tryd.f7 7) = deadfallref03_Weight.T7 := by kernel_rfl
theorem deadfallref03_Weight.bits7 : waitsOk deadfallref03_Weight.T7.2 deadfallref03_Weight.B7 = true := by kernel_rfl
set_option maxHeartbeats 8000000 in
set_option maxRecDepth 100000 in
theorem deadfallref03_Weight.calls (k : Nat) : ∀ (A0 : Option Addr) (c0 : Nat) (l0 : List (S33)) (a1 : Int) (r : Int) (w : World) (hr0 : Kd.C k33 w A0 l0.length l0) (hc0 : l0.length ≤ c0) (h : deadfallref03_Weight.f k l0 a1 = some r),
    Calls Tryd.prog 7 #[.slice A0 l0.length c0, .int .i64 a1] w fun e w' => e = .returned (.int .i64 r) ∧ Below w.heap.size w w' := by
  induction k using Nat.strongRecOn with
  | _ k ih =>
  intro A0 c0 l0 a1 r w hr0 hc0 h
  cases k with
  | zero => exact absurd h (by simp [deadfallref03_Weight.f])
  | succ k =>
  simp only [deadfallref03_Weight.f] at h
  have hu33 := Tryd.underlying33
  have HR0 := Aside0.mk hr0
  have HC0 := Aside0.mk hc0
  clear hr0 hc0
  have HB := Aside0.mk (Below.refl w.heap.size w)
  have H : (if a1 > 250 then (deadfallref03_Weight.j0 k l0 a1 true) else (deadfallref03_Weight.j0 k l0 a1 (decide ((l0.length : Int) > 10000)))) = some r := h
  clear h
  have HC3 := Aside0.mk H
  clear H
  go_enter Tryd.func7, Tryd.ntmps7
  go_upto_region 1 with (fail)
  go_cut [14] (fun v14 wc => ∃ (kq : Nat) (x14_2 : Bool), v14 = .bool x14_2 ∧ Aside0 (deadfallref03_Weight.j0 kq l0 a1 x14_2 = some r) ∧ Aside0 (kq ≤ k) ∧ Aside0 (Below w.heap.size w wc))
  case first =>
    have H := HC3.out
    clear HC3
    by_cases c4 : a1 > 250
    · rw [if_pos c4] at H
      have c4b0 : decide (250 < a1) = true := decide_eq_true c4
      clear c4
      (first | rw [c4b0] | (simp only [i64_w, i32_w]; rw [c4b0]) | skip)
      have H' := Aside0.mk H
      clear H
      go_wp2
      go_meet
      case rel => exact ⟨_, (true), (by first | rfl | (simp; done) | (simp [*]; done)), H', ⟨by first | omega | exact Nat.le_refl _⟩, ⟨by repeat (first | (with_reducible first | exact HB.out | apply below_alloc | apply pw_below_drewN | apply below_drew1) | exact HB.out)⟩⟩
    · rw [if_neg c4] at H
      have c4b0 : decide (250 < a1) = false := decide_eq_false c4
      clear c4
      (first | rw [c4b0] | (simp only [i64_w, i32_w]; rw [c4b0]) | skip)
      have H' := Aside0.mk H
      clear H
      go_wp2
      go_meet
      case rel => exact ⟨_, (decide ((l0.length : Int) > 10000)), (by first | rfl | (simp; done) | (simp [*]; done)), H', ⟨by first | omega | exact Nat.le_refl _⟩, ⟨by repeat (first | (with_reducible first | exact HB.out | apply below_alloc | apply pw_below_drewN | apply below_drew1) | exact HB.out)⟩⟩
  case rest =>
    clear HC3
    try clear p2
    try clear c4
    try clear c4b0
    obtain ⟨kq, x14_2, rfl, HA, HJ2, HB⟩ := hcut
    cases kq with
    | zero => exact absurd HA.out (by simp [deadfallref03_Weight.j0])
    | succ kj2 =>
      have H := HA.out
      clear HA
      simp only [deadfallref03_Weight.j0] at H
      by_cases c5 : x14_2 = true
      · subst c5
        have H1 : (some 100000) = some r := by rw [if_pos rfl] at H; exact H
        clear H
        have H := H1
        clear H1
        obtain rfl := Option.some.inj H
        go_wp2
        go_ret
        exact ⟨by first | rfl | (simp [errW_none, errW_some] <;> rfl) | (simp [*, errW_none, errW_some] <;> rfl), by repeat (first | (with_reducible first | exact HB.out | apply below_alloc | apply pw_below_drewN | apply below_drew1) | exact HB.out)⟩
      · replace c5 := Bool.eq_false_iff.mpr c5
        subst c5
        have H1 : (deadfallref03_Weight.l0 kj2 a1 0 l0 (l0.length : Int) 0) = some r := by rw [if_neg (show ¬ (false = true) by decide)] at H; exact H
        clear H
        have H := H1
        clear H1
        have H' := Aside0.mk H
        clear H
        go_wp2
        go_loopg [5, 17] kj2 (fun kq v5 v17 w' => ∃ (x5_2 : Int) (x17_2 : Int), v5 = .int .i64 x5_2 ∧ v17 = .int .i64 x17_2 ∧ Aside0 (deadfallref03_Weight.l0 kq a1 x5_2 l0 (l0.length : Int) x17_2 = some r) ∧ Aside0 (kq ≤ kj2) ∧ Aside0 (Below w.heap.size w w'))
        case atStart => exact ⟨(0), (0), (by first | rfl | (simp; done) | (simp [*]; done)), (by first | rfl | (simp; done) | (simp [*]; done)), H', ⟨Nat.le_refl _⟩, ⟨by repeat (first | (with_reducible first | exact HB.out | apply below_alloc | apply pw_below_drewN | apply below_drew1) | exact HB.out)⟩⟩
        case round =>
          clear H'
          try clear p2
          try clear c4
          try clear c4b0
          try clear c5
          try clear p2
          obtain ⟨x5_2, x17_2, rfl, rfl, HA, HK2, HB⟩ := hrel
          cases gk with
          | zero => exact absurd HA.out (by simp [deadfallref03_Weight.l0])
          | succ k2 =>
            have H := HA.out
            clear HA
            simp only [deadfallref03_Weight.l0] at H
            by_cases c6 : x17_2 < (l0.length : Int)
            · rw [if_pos c6] at H
              have c6b0 : decide (x17_2 < (l0.length : Int)) = true := decide_eq_true c6
              clear c6
              by_cases c7 : 0 ≤ x17_2
              · rw [if_pos c7] at H
                have c7b0 : decide (0 ≤ x17_2) = true := decide_eq_true c7
                clear c7
                by_cases c8 : x17_2 < (l0.length : Int)
                · rw [if_pos c8] at H
                  have c8b0 : decide (x17_2 < (l0.length : Int)) = true := decide_eq_true c8
                  clear c8
                  replace H := Option.bind_eq_some_iff.mp H
                  obtain ⟨t135, A90, H⟩ := H
                  replace H : (if (wrap64 (x5_2 + (wrap64 ((wrap64 ((wrap64 (1 + (((rd_T33 l0 x17_2).f2).size : Int))) + (((rd_T33 l0 x17_2).f3).size : Int))) + t135)))) > 10000 then (some 100000) else (deadfallref03_Weight.l0 k2 a1 (wrap64 (x5_2 + (wrap64 ((wrap64 ((wrap64 (1 + (((rd_T33 l0 x17_2).f2).size : Int))) + (((rd_T33 l0 x17_2).f3).size : Int))) + t135)))) l0 (l0.length : Int) (wrap64 (x17_2 + 1)))) = some r := H
                  have A9 := Aside0.mk A90
                  clear A90
                  by_cases c10 : (wrap64 (x5_2 + (wrap64 ((wrap64 ((wrap64 (1 + (((rd_T33 l0 x17_2).f2).size : Int))) + (((rd_T33 l0 x17_2).f3).size : Int))) + t135)))) > 10000
                  · rw [if_pos c10] at H
                    have c10b0 : decide (10000 < (wrap64 (x5_2 + (wrap64 ((wrap64 ((wrap64 (1 + (((rd_T33 l0 x17_2).f2).size : Int))) + (((rd_T33 l0 x17_2).f3).size : Int))) + t135))))) = true := decide_eq_true c10
                    clear c10
                    obtain rfl := Option.some.inj H
                    have p133 : 0 ≤ (x17_2 : Int) := of_decide_eq_true (by first | (with_reducible assumption) | assumption)
                    have q133 : x17_2 < (l0.length : Int) := of_decide_eq_true (by first | (with_reducible assumption) | assumption)
                    obtain ⟨ad133, A133_4, c133_4, e133, hx133_0, hx133_1, hx133_2, hx133_3, hx133_4, hl133_4, hi133_4⟩ := at_T33 HR0.out x17_2 p133 q133
                    cases e133
                    replace hx133_0 := (HB.out.cell (World.block_lt_of_cell? w _ hx133_0)).trans hx133_0
                    replace hx133_1 := (HB.out.cell (World.block_lt_of_cell? w _ hx133_1)).trans hx133_1
                    replace hx133_2 := (HB.out.cell (World.block_lt_of_cell? w _ hx133_2)).trans hx133_2
                    replace hx133_3 := (HB.out.cell (World.block_lt_of_cell? w _ hx133_3)).trans hx133_3
                    replace hx133_4 := (HB.out.cell (World.block_lt_of_cell? w _ hx133_4)).trans hx133_4
                    have HR133_4 := Aside0.mk hi133_4
                    have HC133_4 := Aside0.mk hl133_4
                    clear hi133_4 hl133_4
                    replace p133 := eq_true p133
                    replace q133 := eq_true q133
                    try go_wp2_with (first | ((with_reducible refine gate_dst (N := 7) rfl ?_); (try (refine gate_guard (by rfl) ?_; dsimp only)); refine box_event ?hg (N := 7) ?hd (cs := #[.int .i64 0, .bool false, .string (⟨#[]⟩ : ByteArray), .string (⟨#[]⟩ : ByteArray), .slice none 0 0]) (t := 33) ?hr ?_; (case hd => rfl); (case hg => rfl); (case hr => first | (go_simp; done) | (go_simp; rfl)); intro gb134 hg w11 hbox hb; have n0_ := Aside0.mk (below_step (by repeat (first | (with_reducible first | exact HB.out | apply below_alloc | apply pw_below_drewN | apply below_drew1) | exact HB.out)) hb); have n1_ := Aside0.mk (hbox); have n2_ := Aside0.mk ((by rw [hg]; exact (below_size (by repeat (first | (with_reducible first | exact HB.out | apply below_alloc | apply pw_below_drewN | apply below_drew1) | exact HB.out))) : w.heap.size ≤ gb134)); have n3_ := Aside0.mk ((by rw [hg]; exact (below_size (by repeat (first | (with_reducible first | exact HB.out | apply below_alloc | apply pw_below_drewN | apply below_drew1) | exact HB.out))) : w.heap.size ≤ gb134)); clear HB; have HB := n0_; have BK134 := n1_; have GW134 := n2_; have GE134 := n3_; clear n0_ n1_ n2_ n3_; clear hb hbox hg; have hcz12_0 : w11.cell? ⟨gb134, 0, none⟩ = some (.int .i64 0) := (blk_cell BK134.out 0).trans rfl; have hcz12_1 : w11.cell? ⟨gb134, 1, none⟩ = some (.bool false) := (blk_cell BK134.out 1).trans rfl; have hcz12_2 : w11.cell? ⟨gb134, 2, none⟩ = some (.string (⟨#[]⟩ : ByteArray)) := (blk_cell BK134.out 2).trans rfl; have hcz12_3 : w11.cell? ⟨gb134, 3, none⟩ = some (.string (⟨#[]⟩ : ByteArray)) := (blk_cell BK134.out 3).trans rfl; have hcz12_4 : w11.cell? ⟨gb134, 4, none⟩ = some (.slice none 0 0) := (blk_cell BK134.out 4).trans rfl; have hfz12_0 := blk_frozen BK134.out 0; have hfz12_1 := blk_frozen BK134.out 1; have hfz12_2 := blk_frozen BK134.out 2; have hfz12_3 := blk_frozen BK134.out 3; have hfz12_4 := blk_frozen BK134.out 4))
                    have n0_ : Aside0 ((((((w11.setCell ⟨gb134, 0, none⟩ (.int .i64 ((rd_T33 l0 x17_2).f0))).setCell ⟨gb134, 1, none⟩ (.bool ((rd_T33 l0 x17_2).f1))).setCell ⟨gb134, 2, none⟩ (.string ((rd_T33 l0 x17_2).f2))).setCell ⟨gb134, 3, none⟩ (.string ((rd_T33 l0 x17_2).f3))).setCell ⟨gb134, 4, none⟩ (.slice A133_4 ((rd_T33 l0 x17_2).f4).length c133_4)).heap[gb134]? = some (.cells #[.int .i64 ((rd_T33 l0 x17_2).f0), .bool ((rd_T33 l0 x17_2).f1), .string ((rd_T33 l0 x17_2).f2), .string ((rd_T33 l0 x17_2).f3), .slice A133_4 ((rd_T33 l0 x17_2).f4).length c133_4] 33 (0, 0))) := ⟨by (with_reducible repeat (first | refine blk_drewN ?_ _ | refine blk_drew ?_ | refine blk_alloc ?_ _)); refine blk_put (cs := #[.int .i64 ((rd_T33 l0 x17_2).f0), .bool ((rd_T33 l0 x17_2).f1), .string ((rd_T33 l0 x17_2).f2), .string ((rd_T33 l0 x17_2).f3), .slice none 0 0]) ?_ 4 _ rfl; (with_reducible repeat (first | refine blk_drewN ?_ _ | refine blk_drew ?_ | refine blk_alloc ?_ _)); refine blk_put (cs := #[.int .i64 ((rd_T33 l0 x17_2).f0), .bool ((rd_T33 l0 x17_2).f1), .string ((rd_T33 l0 x17_2).f2), .string (⟨#[]⟩ : ByteArray), .slice none 0 0]) ?_ 3 _ rfl; (with_reducible repeat (first | refine blk_drewN ?_ _ | refine blk_drew ?_ | refine blk_alloc ?_ _)); refine blk_put (cs := #[.int .i64 ((rd_T33 l0 x17_2).f0), .bool ((rd_T33 l0 x17_2).f1), .string (⟨#[]⟩ : ByteArray), .string (⟨#[]⟩ : ByteArray), .slice none 0 0]) ?_ 2 _ rfl; (with_reducible repeat (first | refine blk_drewN ?_ _ | refine blk_drew ?_ | refine blk_alloc ?_ _)); refine blk_put (cs := #[.int .i64 ((rd_T33 l0 x17_2).f0), .bool false, .string (⟨#[]⟩ : ByteArray), .string (⟨#[]⟩ : ByteArray), .slice none 0 0]) ?_ 1 _ rfl; (with_reducible repeat (first | refine blk_drewN ?_ _ | refine blk_drew ?_ | refine blk_alloc ?_ _)); refine blk_put (cs := #[.int .i64 0, .bool false, .string (⟨#[]⟩ : ByteArray), .string (⟨#[]⟩ : ByteArray), .slice none 0 0]) ?_ 0 _ rfl; (with_reducible repeat (first | refine blk_drewN ?_ _ | refine blk_drew ?_ | refine blk_alloc ?_ _)); exact BK134.out⟩
                    have n1_ : Aside0 (Below w.heap.size w (((((w11.setCell ⟨gb134, 0, none⟩ (.int .i64 ((rd_T33 l0 x17_2).f0))).setCell ⟨gb134, 1, none⟩ (.bool ((rd_T33 l0 x17_2).f1))).setCell ⟨gb134, 2, none⟩ (.string ((rd_T33 l0 x17_2).f2))).setCell ⟨gb134, 3, none⟩ (.string ((rd_T33 l0 x17_2).f3))).setCell ⟨gb134, 4, none⟩ (.slice A133_4 ((rd_T33 l0 x17_2).f4).length c133_4))) := ⟨by repeat (first | (with_reducible first | exact HB.out | apply below_alloc | apply pw_below_drewN | apply below_drew1 | refine below_set ?_ GE134.out) | exact HB.out)⟩
                    (try clear BK134)
                    (try clear HB)
                    generalize (((((w11.setCell ⟨gb134, 0, none⟩ (.int .i64 ((rd_T33 l0 x17_2).f0))).setCell ⟨gb134, 1, none⟩ (.bool ((rd_T33 l0 x17_2).f1))).setCell ⟨gb134, 2, none⟩ (.string ((rd_T33 l0 x17_2).f2))).setCell ⟨gb134, 3, none⟩ (.string ((rd_T33 l0 x17_2).f3))).setCell ⟨gb134, 4, none⟩ (.slice A133_4 ((rd_T33 l0 x17_2).f4).length c133_4)) = w13 at n0_ n1_ ⊢
                    have BK134 := n0_
                    have HB := n1_
                    clear n0_ n1_
                    have n0_ := Aside0.mk (blk_drew BK134.out)
                    have n1_ := Aside0.mk (below_drew1 HB.out)
                    clear BK134
                    clear HB
                    have BK134 := n0_
                    have HB := n1_
                    clear n0_ n1_
                    refine start_ (n := 17) (S := fun w' => w'.cell? ⟨gb134, 0, none⟩ = some (.int .i64 ((rd_T33 l0 x17_2).f0)) ∧ w'.cell? ⟨gb134, 1, none⟩ = some (.bool ((rd_T33 l0 x17_2).f1)) ∧ w'.cell? ⟨gb134, 2, none⟩ = some (.string ((rd_T33 l0 x17_2).f2)) ∧ w'.cell? ⟨gb134, 3, none⟩ = some (.string ((rd_T33 l0 x17_2).f3)) ∧ w'.cell? ⟨gb134, 4, none⟩ = some (.slice A133_4 ((rd_T33 l0 x17_2).f4).length c133_4)) (ds := []) #[false, false, false, false, false, false, false, false, false, false, false, false, false, false, false, false, false] (by kernel_rfl) rfl rfl ⟨(blk_cell BK134.out 0).trans rfl, (blk_cell BK134.out 1).trans rfl, (blk_cell BK134.out 2).trans rfl, (blk_cell BK134.out 3).trans rfl, (blk_cell BK134.out 4).trans rfl⟩ (fun hHeld => ?_); refine with_tabW deadfallref03_Weight.tab7 deadfallref03_Weight.bits7 (fun HT_ HW_ => ?_)
                    generalize w13.drew = w14 at BK134 HB hHeld ⊢
                    refine pure_ (i := 0) (N := some 21) (v := ?_) (a' := ?_) #[true, false, false, false, false, false, false, false, false, false, false, false, false, false, false, false, false] rfl rfl (any_of HT_.out (by kernel_rfl)) (fun _ _ _ h => h) (Or.inl ⟨by rfl, ?_⟩) ?_ ?_
                    rotate_left
                    · intro w'
                      go_simp
                      with_reducible rfl
                    rotate_left
                    · simp only [Act.put, List.setIfInBounds_toArray, List.set_cons_zero, List.set_cons_succ, i64_w, i32_w]
                      rfl
                    refine pure_ (i := 1) (N := some 22) (v := ?_) (a' := ?_) #[true, true, false, false, false, false, false, false, false, false, false, false, false, false, false, false, false] rfl rfl (any_of HT_.out (by kernel_rfl)) (fun _ _ _ h => h) (Or.inl ⟨by rfl, ?_⟩) ?_ ?_
                    rotate_left
                    · intro w'
                      go_simp
                      with_reducible rfl
                    rotate_left
                    · simp only [Act.put, List.setIfInBounds_toArray, List.set_cons_zero, List.set_cons_succ, i64_w, i32_w]
                      rfl
                    refine pure_ (i := 5) (N := some 26) (v := ?_) (a' := ?_) #[true, true, false, false, false, true, false, false, false, false, false, false, false, false, false, false, false] rfl rfl (any_of HT_.out (by kernel_rfl)) (fun _ _ _ h => h) (Or.inl ⟨by rfl, ?_⟩) ?_ ?_
                    rotate_left
                    · intro w'
                      go_simp
                      with_reducible rfl
                    rotate_left
                    · simp only [Act.put, List.setIfInBounds_toArray, List.set_cons_zero, List.set_cons_succ, i64_w, i32_w]
                      rfl
                    refine pure_ (i := 9) (N := some 30) (v := ?_) (a' := ?_) #[true, true, false, false, false, true, false, false, false, true, false, false, false, false, false, false, false] rfl rfl (any_of HT_.out (by kernel_rfl)) (fun _ _ _ h => h) (Or.inl ⟨by rfl, ?_⟩) ?_ ?_
                    rotate_left
                    · intro w'
                      go_simp
                      with_reducible rfl
                    rotate_left
                    · simp only [Act.put, List.setIfInBounds_toArray, List.set_cons_zero, List.set_cons_succ, i64_w, i32_w]
                      rfl
                    refine pure_ (i := 11) (N := some 32) (v := ?_) (a' := ?_) #[true, true, false, false, false, true, false, false, false, true, false, true, false, false, false, false, false] rfl rfl (any_of HT_.out (by kernel_rfl)) (fun _ _ _ h => h) (Or.inl ⟨by rfl, ?_⟩) ?_ ?_
                    rotate_left
                    · intro w'
                      go_simp
                      with_reducible rfl
                    rotate_left
                    · simp only [Act.put, List.setIfInBounds_toArray, List.set_cons_zero, List.set_cons_succ, i64_w, i32_w]
                      rfl
                    refine pure_ (i := 12) (N := some 33) (v := ?_) (a' := ?_) #[true, true, false, false, false, true, false, false, false, true, false, true, true, false, false, false, false] rfl rfl (any_of HT_.out (by kernel_rfl)) (fun _ _ _ h => h) (Or.inl ⟨by rfl, ?_⟩) ?_ ?_
                    rotate_left
                    · intro w'
                      go_simp
                      with_reducible rfl
                    rotate_left
                    · simp only [Act.put, List.setIfInBounds_toArray, List.set_cons_zero, List.set_cons_succ, i64_w, i32_w]
                      rfl
                    refine take_ (i := 2) (N := some 23) (v := ?_) (a' := ?_) #[true, true, true, false, false, true, false, false, false, true, false, true, true, false, false, false, false] rfl rfl (take_ofW HT_.out HW_.out (by kernel_rfl)) (fun _ _ _ h => h) (Or.inl ⟨by rfl, ?_⟩) hHeld ?_ ?_
                    rotate_left
                    · rintro w' ⟨s0, s1, s2, s3, s4⟩
                      go_simp
                      with_reducible rfl
                    rotate_left
                    · simp only [Act.put, List.setIfInBounds_toArray, List.set_cons_zero, List.set_cons_succ, i64_w, i32_w]
                      rfl
                    refine pure_ (i := 3) (N := some 24) (v := ?_) (a' := ?_) #[true, true, true, true, false, true, false, false, false, true, false, true, true, false, false, false, false] rfl rfl (any_of HT_.out (by kernel_rfl)) (fun _ _ _ h => h) (Or.inl ⟨by rfl, ?_⟩) ?_ ?_
                    rotate_left
                    · intro w'
                      go_simp
                      with_reducible rfl
                    rotate_left
                    · simp only [Act.put, List.setIfInBounds_toArray, List.set_cons_zero, List.set_cons_succ, i64_w, i32_w]
                      rfl
                    refine pure_ (i := 4) (N := some 25) (v := ?_) (a' := ?_) #[true, true, true, true, true, true, false, false, false, true, false, true, true, false, false, false, false] rfl rfl (any_of HT_.out (by kernel_rfl)) (fun _ _ _ h => h) (Or.inl ⟨by rfl, ?_⟩) ?_ ?_
                    rotate_left
                    · intro w'
                      go_simp
                      with_reducible rfl
                    rotate_left
                    · simp only [Act.put, List.setIfInBounds_toArray, List.set_cons_zero, List.set_cons_succ, i64_w, i32_w]
                      rfl
                    refine take_ (i := 6) (N := some 27) (v := ?_) (a' := ?_) #[true, true, true, true, true, true, true, false, false, true, false, true, true, false, false, false, false] rfl rfl (take_ofW HT_.out HW_.out (by kernel_rfl)) (fun _ _ _ h => h) (Or.inl ⟨by rfl, ?_⟩) hHeld ?_ ?_
                    rotate_left
                    · rintro w' ⟨s0, s1, s2, s3, s4⟩
                      go_simp
                      with_reducible rfl
                    rotate_left
                    · simp only [Act.put, List.setIfInBounds_toArray, List.set_cons_zero, List.set_cons_succ, i64_w, i32_w]
                      rfl
                    refine pure_ (i := 7) (N := some 28) (v := ?_) (a' := ?_) #[true, true, true, true, true, true, true, true, false, true, false, true, true, false, false, false, false] rfl rfl (any_of HT_.out (by kernel_rfl)) (fun _ _ _ h => h) (Or.inl ⟨by rfl, ?_⟩) ?_ ?_
                    rotate_left
                    · intro w'
                      go_simp
                      with_reducible rfl
                    rotate_left
                    · simp only [Act.put, List.setIfInBounds_toArray, List.set_cons_zero, List.set_cons_succ, i64_w, i32_w]
                      rfl
                    refine pure_ (i := 8) (N := some 29) (v := ?_) (a' := ?_) #[true, true, true, true, true, true, true, true, true, true, false, true, true, false, false, false, false] rfl rfl (any_of HT_.out (by kernel_rfl)) (fun _ _ _ h => h) (Or.inl ⟨by rfl, ?_⟩) ?_ ?_
                    rotate_left
                    · intro w'
                      go_simp
                      with_reducible rfl
                    rotate_left
                    · simp only [Act.put, List.setIfInBounds_toArray, List.set_cons_zero, List.set_cons_succ, i64_w, i32_w]
                      rfl
                    refine take_ (i := 10) (N := some 31) (v := ?_) (a' := ?_) #[true, true, true, true, true, true, true, true, true, true, true, true, true, false, false, false, false] rfl rfl (take_ofW HT_.out HW_.out (by kernel_rfl)) (fun _ _ _ h => h) (Or.inl ⟨by rfl, ?_⟩) hHeld ?_ ?_
                    rotate_left
                    · rintro w' ⟨s0, s1, s2, s3, s4⟩
                      go_simp
                      with_reducible rfl
                    rotate_left
                    · simp only [Act.put, List.setIfInBounds_toArray, List.set_cons_zero, List.set_cons_succ, i64_w, i32_w]
                      rfl
                    refine one_ (i := 13) (N := some 34) #[true, true, true, true, true, true, true, true, true, true, true, true, true, true, false, false, false] rfl rfl (one_of HT_.out (by kernel_rfl)) (by decide) (fun K hK => ?_)
                    refine goes_ Tryd.func7 (by kernel_rfl) rfl #[.slice A133_4 ((rd_T33 l0 x17_2).f4).length c133_4, .int .i64 (wrap64 (a1 + 1))] (by rfl) rfl rfl (by (try simp only [List.map_toArray, List.map_cons, List.map_nil]); first | done | rfl | (simp only [List.length_drop, List.length_take]; rfl)) ?_
                    with_reducible refine (ih k2 (by have := HJ2.out; have := HK2.out; omega) _ _ ((rd_T33 l0 x17_2).f4) (wrap64 (a1 + 1)) t135 _ ?side1 ?side2 A9.out).mono ?_
                    (case side1 => repeat (first | exact (Kd.C_below HR133_4.out HB.out) | (with_reducible refine Kd.C_alloc ?_ _) | (with_reducible refine Kd.C_drewN ?_ _) | (with_reducible refine Kd.C_drew ?_)))
                    (case side2 => exact HC133_4.out)
                    rintro e w15 ⟨rfl, hb⟩
                    refine ⟨_, rfl, ?_⟩
                    have n0_ := Aside0.mk (blk_below (g := gb134) (o := .cells #[.int .i64 ((rd_T33 l0 x17_2).f0), .bool ((rd_T33 l0 x17_2).f1), .string ((rd_T33 l0 x17_2).f2), .string ((rd_T33 l0 x17_2).f3), .slice A133_4 ((rd_T33 l0 x17_2).f4).length c133_4] 33 (0, 0)) (by (with_reducible repeat (first | refine blk_drewN ?_ _ | refine blk_drew ?_ | refine blk_alloc ?_ _)); exact BK134.out) hb)
                    have n1_ := Aside0.mk (below_step (by repeat (first | (with_reducible first | exact HB.out | apply below_alloc | apply pw_below_drewN | apply below_drew1 | refine below_set ?_ GE134.out) | exact HB.out)) hb)
                    clear BK134
                    clear HB
                    have BK134 := n0_
                    have HB := n1_
                    clear n0_ n1_
                    (try clear hb)
                    (try clear hb2)
                    (try clear hk)
                    (try clear hi)
                    refine hK.out _ _ ⟨(blk_cell BK134.out 0).trans rfl, (blk_cell BK134.out 1).trans rfl, (blk_cell BK134.out 2).trans rfl, (blk_cell BK134.out 3).trans rfl, (blk_cell BK134.out 4).trans rfl⟩ (fun hHeld => ?_)
                    clear hK K
                    refine norm_ (a' := ?_) ?_ ?_
                    rotate_left
                    · show Act.put _ (some 34) _ = _
                      simp only [Act.put, List.setIfInBounds_toArray, List.set_cons_zero, List.set_cons_succ, i64_w, i32_w]
                      rfl
                    refine pure_ (i := 14) (N := some 35) (v := ?_) (a' := ?_) #[true, true, true, true, true, true, true, true, true, true, true, true, true, true, true, false, false] rfl rfl (any_of HT_.out (by kernel_rfl)) (fun _ _ _ h => h) (Or.inl ⟨by rfl, ?_⟩) ?_ ?_
                    rotate_left
                    · intro w'
                      go_simp
                      with_reducible rfl
                    rotate_left
                    · simp only [Act.put, List.setIfInBounds_toArray, List.set_cons_zero, List.set_cons_succ, i64_w, i32_w]
                      rfl
                    refine pure_ (i := 15) (N := some 36) (v := ?_) (a' := ?_) #[true, true, true, true, true, true, true, true, true, true, true, true, true, true, true, true, false] rfl rfl (any_of HT_.out (by kernel_rfl)) (fun _ _ _ h => h) (Or.inl ⟨by rfl, ?_⟩) ?_ ?_
                    rotate_left
                    · intro w'
                      go_simp
                      with_reducible rfl
                    rotate_left
                    · simp only [Act.put, List.setIfInBounds_toArray, List.set_cons_zero, List.set_cons_succ, i64_w, i32_w]
                      rfl
                    refine pure_ (i := 16) (N := some 5) (v := ?_) (a' := ?_) #[true, true, true, true, true, true, true, true, true, true, true, true, true, true, true, true, true] rfl rfl (any_of HT_.out (by kernel_rfl)) (fun _ _ _ h => h) (Or.inl ⟨by rfl, ?_⟩) ?_ ?_
                    rotate_left
                    · intro w'
                      go_simp
                      with_reducible rfl
                    rotate_left
                    · simp only [Act.put, List.setIfInBounds_toArray, List.set_cons_zero, List.set_cons_succ, i64_w, i32_w]
                      rfl
                    refine done_ (done_of HT_.out (by kernel_rfl)) ?_
                    try go_wp2
                    go_ret
                    exact ⟨by first | rfl | (simp [errW_none, errW_some] <;> rfl) | (simp [*, errW_none, errW_some] <;> rfl), by repeat (first | (with_reducible first | exact HB.out | apply below_alloc | apply pw_below_drewN | apply below_drew1 | refine below_set ?_ GE134.out) | exact HB.out)⟩
                  · rw [if_neg c10] at H
                    have c10b0 : decide (10000 < (wrap64 (x5_2 + (wrap64 ((wrap64 ((wrap64 (1 + (((rd_T33 l0 x17_2).f2).size : Int))) + (((rd_T33 l0 x17_2).f3).size : Int))) + t135))))) = false := decide_eq_false c10
                    clear c10
                    have H' := Aside0.mk H
                    clear H
                    have p133 : 0 ≤ (x17_2 : Int) := of_decide_eq_true (by first | (with_reducible assumption) | assumption)
                    have q133 : x17_2 < (l0.length : Int) := of_decide_eq_true (by first | (with_reducible assumption) | assumption)
                    obtain ⟨ad133, A133_4, c133_4, e133, hx133_0, hx133_1, hx133_2, hx133_3, hx133_4, hl133_4, hi133_4⟩ := at_T33 HR0.out x17_2 p133 q133
                    cases e133
                    replace hx133_0 := (HB.out.cell (World.block_lt_of_cell? w _ hx133_0)).trans hx133_0
                    replace hx133_1 := (HB.out.cell (World.block_lt_of_cell? w _ hx133_1)).trans hx133_1
                    replace hx133_2 := (HB.out.cell (World.block_lt_of_cell? w _ hx133_2)).trans hx133_2
                    replace hx133_3 := (HB.out.cell (World.block_lt_of_cell? w _ hx133_3)).trans hx133_3
                    replace hx133_4 := (HB.out.cell (World.block_lt_of_cell? w _ hx133_4)).trans hx133_4
                    have HR133_4 := Aside0.mk hi133_4
                    have HC133_4 := Aside0.mk hl133_4
                    clear hi133_4 hl133_4
                    replace p133 := eq_true p133
                    replace q133 := eq_true q133
                    try go_wp2_with (first | ((with_reducible refine gate_dst (N := 7) rfl ?_); (try (refine gate_guard (by rfl) ?_; dsimp only)); refine box_event ?hg (N := 7) ?hd (cs := #[.int .i64 0, .bool false, .string (⟨#[]⟩ : ByteArray), .string (⟨#[]⟩ : ByteArray), .slice none 0 0]) (t := 33) ?hr ?_; (case hd => rfl); (case hg => rfl); (case hr => first | (go_simp; done) | (go_simp; rfl)); intro gb134 hg w16 hbox hb; have n0_ := Aside0.mk (below_step (by repeat (first | (with_reducible first | exact HB.out | apply below_alloc | apply pw_below_drewN | apply below_drew1) | exact HB.out)) hb); have n1_ := Aside0.mk (hbox); have n2_ := Aside0.mk ((by rw [hg]; exact (below_size (by repeat (first | (with_reducible first | exact HB.out | apply below_alloc | apply pw_below_drewN | apply below_drew1) | exact HB.out))) : w.heap.size ≤ gb134)); have n3_ := Aside0.mk ((by rw [hg]; exact (below_size (by repeat (first | (with_reducible first | exact HB.out | apply below_alloc | apply pw_below_drewN | apply below_drew1) | exact HB.out))) : w.heap.size ≤ gb134)); clear HB; have HB := n0_; have BK134 := n1_; have GW134 := n2_; have GE134 := n3_; clear n0_ n1_ n2_ n3_; clear hb hbox hg; have hcz17_0 : w16.cell? ⟨gb134, 0, none⟩ = some (.int .i64 0) := (blk_cell BK134.out 0).trans rfl; have hcz17_1 : w16.cell? ⟨gb134, 1, none⟩ = some (.bool false) := (blk_cell BK134.out 1).trans rfl; have hcz17_2 : w16.cell? ⟨gb134, 2, none⟩ = some (.string (⟨#[]⟩ : ByteArray)) := (blk_cell BK134.out 2).trans rfl; have hcz17_3 : w16.cell? ⟨gb134, 3, none⟩ = some (.string (⟨#[]⟩ : ByteArray)) := (blk_cell BK134.out 3).trans rfl; have hcz17_4 : w16.cell? ⟨gb134, 4, none⟩ = some (.slice none 0 0) := (blk_cell BK134.out 4).trans rfl; have hfz17_0 := blk_frozen BK134.out 0; have hfz17_1 := blk_frozen BK134.out 1; have hfz17_2 := blk_frozen BK134.out 2; have hfz17_3 := blk_frozen BK134.out 3; have hfz17_4 := blk_frozen BK134.out 4))
                    have n0_ : Aside0 ((((((w16.setCell ⟨gb134, 0, none⟩ (.int .i64 ((rd_T33 l0 x17_2).f0))).setCell ⟨gb134, 1, none⟩ (.bool ((rd_T33 l0 x17_2).f1))).setCell ⟨gb134, 2, none⟩ (.string ((rd_T33 l0 x17_2).f2))).setCell ⟨gb134, 3, none⟩ (.string ((rd_T33 l0 x17_2).f3))).setCell ⟨gb134, 4, none⟩ (.slice A133_4 ((rd_T33 l0 x17_2).f4).length c133_4)).heap[gb134]? = some (.cells #[.int .i64 ((rd_T33 l0 x17_2).f0), .bool ((rd_T33 l0 x17_2).f1), .string ((rd_T33 l0 x17_2).f2), .string ((rd_T33 l0 x17_2).f3), .slice A133_4 ((rd_T33 l0 x17_2).f4).length c133_4] 33 (0, 0))) := ⟨by (with_reducible repeat (first | refine blk_drewN ?_ _ | refine blk_drew ?_ | refine blk_alloc ?_ _)); refine blk_put (cs := #[.int .i64 ((rd_T33 l0 x17_2).f0), .bool ((rd_T33 l0 x17_2).f1), .string ((rd_T33 l0 x17_2).f2), .string ((rd_T33 l0 x17_2).f3), .slice none 0 0]) ?_ 4 _ rfl; (with_reducible repeat (first | refine blk_drewN ?_ _ | refine blk_drew ?_ | refine blk_alloc ?_ _)); refine blk_put (cs := #[.int .i64 ((rd_T33 l0 x17_2).f0), .bool ((rd_T33 l0 x17_2).f1), .string ((rd_T33 l0 x17_2).f2), .string (⟨#[]⟩ : ByteArray), .slice none 0 0]) ?_ 3 _ rfl; (with_reducible repeat (first | refine blk_drewN ?_ _ | refine blk_drew ?_ | refine blk_alloc ?_ _)); refine blk_put (cs := #[.int .i64 ((rd_T33 l0 x17_2).f0), .bool ((rd_T33 l0 x17_2).f1), .string (⟨#[]⟩ : ByteArray), .string (⟨#[]⟩ : ByteArray), .slice none 0 0]) ?_ 2 _ rfl; (with_reducible repeat (first | refine blk_drewN ?_ _ | refine blk_drew ?_ | refine blk_alloc ?_ _)); refine blk_put (cs := #[.int .i64 ((rd_T33 l0 x17_2).f0), .bool false, .string (⟨#[]⟩ : ByteArray), .string (⟨#[]⟩ : ByteArray), .slice none 0 0]) ?_ 1 _ rfl; (with_reducible repeat (first | refine blk_drewN ?_ _ | refine blk_drew ?_ | refine blk_alloc ?_ _)); refine blk_put (cs := #[.int .i64 0, .bool false, .string (⟨#[]⟩ : ByteArray), .string (⟨#[]⟩ : ByteArray), .slice none 0 0]) ?_ 0 _ rfl; (with_reducible repeat (first | refine blk_drewN ?_ _ | refine blk_drew ?_ | refine blk_alloc ?_ _)); exact BK134.out⟩
                    have n1_ : Aside0 (Below w.heap.size w (((((w16.setCell ⟨gb134, 0, none⟩ (.int .i64 ((rd_T33 l0 x17_2).f0))).setCell ⟨gb134, 1, none⟩ (.bool ((rd_T33 l0 x17_2).f1))).setCell ⟨gb134, 2, none⟩ (.string ((rd_T33 l0 x17_2).f2))).setCell ⟨gb134, 3, none⟩ (.string ((rd_T33 l0 x17_2).f3))).setCell ⟨gb134, 4, none⟩ (.slice A133_4 ((rd_T33 l0 x17_2).f4).length c133_4))) := ⟨by repeat (first | (with_reducible first | exact HB.out | apply below_alloc | apply pw_below_drewN | apply below_drew1 | refine below_set ?_ GE134.out) | exact HB.out)⟩
                    (try clear BK134)
                    (try clear HB)
                    generalize (((((w16.setCell ⟨gb134, 0, none⟩ (.int .i64 ((rd_T33 l0 x17_2).f0))).setCell ⟨gb134, 1, none⟩ (.bool ((rd_T33 l0 x17_2).f1))).setCell ⟨gb134, 2, none⟩ (.string ((rd_T33 l0 x17_2).f2))).setCell ⟨gb134, 3, none⟩ (.string ((rd_T33 l0 x17_2).f3))).setCell ⟨gb134, 4, none⟩ (.slice A133_4 ((rd_T33 l0 x17_2).f4).length c133_4)) = w18 at n0_ n1_ ⊢
                    have BK134 := n0_
                    have HB := n1_
                    clear n0_ n1_
                    have n0_ := Aside0.mk (blk_drew BK134.out)
                    have n1_ := Aside0.mk (below_drew1 HB.out)
                    clear BK134
                    clear HB
                    have BK134 := n0_
                    have HB := n1_
                    clear n0_ n1_
                    refine start_ (n := 17) (S := fun w' => w'.cell? ⟨gb134, 0, none⟩ = some (.int .i64 ((rd_T33 l0 x17_2).f0)) ∧ w'.cell? ⟨gb134, 1, none⟩ = some (.bool ((rd_T33 l0 x17_2).f1)) ∧ w'.cell? ⟨gb134, 2, none⟩ = some (.string ((rd_T33 l0 x17_2).f2)) ∧ w'.cell? ⟨gb134, 3, none⟩ = some (.string ((rd_T33 l0 x17_2).f3)) ∧ w'.cell? ⟨gb134, 4, none⟩ = some (.slice A133_4 ((rd_T33 l0 x17_2).f4).length c133_4)) (ds := []) #[false, false, false, false, false, false, false, false, false, false, false, false, false, false, false, false, false] (by kernel_rfl) rfl rfl ⟨(blk_cell BK134.out 0).trans rfl, (blk_cell BK134.out 1).trans rfl, (blk_cell BK134.out 2).trans rfl, (blk_cell BK134.out 3).trans rfl, (blk_cell BK134.out 4).trans rfl⟩ (fun hHeld => ?_); refine with_tabW deadfallref03_Weight.tab7 deadfallref03_Weight.bits7 (fun HT_ HW_ => ?_)
                    generalize w18.drew = w19 at BK134 HB hHeld ⊢
                    refine pure_ (i := 0) (N := some 21) (v := ?_) (a' := ?_) #[true, false, false, false, false, false, false, false, false, false, false, false, false, false, false, false, false] rfl rfl (any_of HT_.out (by kernel_rfl)) (fun _ _ _ h => h) (Or.inl ⟨by rfl, ?_⟩) ?_ ?_
                    rotate_left
                    · intro w'
                      go_simp
                      with_reducible rfl
                    rotate_left
                    · simp only [Act.put, List.setIfInBounds_toArray, List.set_cons_zero, List.set_cons_succ, i64_w, i32_w]
                      rfl
                    refine pure_ (i := 1) (N := some 22) (v := ?_) (a' := ?_) #[true, true, false, false, false, false, false, false, false, false, false, false, false, false, false, false, false] rfl rfl (any_of HT_.out (by kernel_rfl)) (fun _ _ _ h => h) (Or.inl ⟨by rfl, ?_⟩) ?_ ?_
                    rotate_left
                    · intro w'
                      go_simp
                      with_reducible rfl
                    rotate_left
                    · simp only [Act.put, List.setIfInBounds_toArray, List.set_cons_zero, List.set_cons_succ, i64_w, i32_w]
                      rfl
                    refine pure_ (i := 5) (N := some 26) (v := ?_) (a' := ?_) #[true, true, false, false, false, true, false, false, false, false, false, false, false, false, false, false, false] rfl rfl (any_of HT_.out (by kernel_rfl)) (fun _ _ _ h => h) (Or.inl ⟨by rfl, ?_⟩) ?_ ?_
                    rotate_left
                    · intro w'
                      go_simp
                      with_reducible rfl
                    rotate_left
                    · simp only [Act.put, List.setIfInBounds_toArray, List.set_cons_zero, List.set_cons_succ, i64_w, i32_w]
                      rfl
                    refine pure_ (i := 9) (N := some 30) (v := ?_) (a' := ?_) #[true, true, false, false, false, true, false, false, false, true, false, false, false, false, false, false, false] rfl rfl (any_of HT_.out (by kernel_rfl)) (fun _ _ _ h => h) (Or.inl ⟨by rfl, ?_⟩) ?_ ?_
                    rotate_left
                    · intro w'
                      go_simp
                      with_reducible rfl
                    rotate_left
                    · simp only [Act.put, List.setIfInBounds_toArray, List.set_cons_zero, List.set_cons_succ, i64_w, i32_w]
                      rfl
                    refine pure_ (i := 11) (N := some 32) (v := ?_) (a' := ?_) #[true, true, false, false, false, true, false, false, false, true, false, true, false, false, false, false, false] rfl rfl (any_of HT_.out (by kernel_rfl)) (fun _ _ _ h => h) (Or.inl ⟨by rfl, ?_⟩) ?_ ?_
                    rotate_left
                    · intro w'
                      go_simp
                      with_reducible rfl
                    rotate_left
                    · simp only [Act.put, List.setIfInBounds_toArray, List.set_cons_zero, List.set_cons_succ, i64_w, i32_w]
                      rfl
                    refine pure_ (i := 12) (N := some 33) (v := ?_) (a' := ?_) #[true, true, false, false, false, true, false, false, false, true, false, true, true, false, false, false, false] rfl rfl (any_of HT_.out (by kernel_rfl)) (fun _ _ _ h => h) (Or.inl ⟨by rfl, ?_⟩) ?_ ?_
                    rotate_left
                    · intro w'
                      go_simp
                      with_reducible rfl
                    rotate_left
                    · simp only [Act.put, List.setIfInBounds_toArray, List.set_cons_zero, List.set_cons_succ, i64_w, i32_w]
                      rfl
                    refine take_ (i := 2) (N := some 23) (v := ?_) (a' := ?_) #[true, true, true, false, false, true, false, false, false, true, false, true, true, false, false, false, false] rfl rfl (take_ofW HT_.out HW_.out (by kernel_rfl)) (fun _ _ _ h => h) (Or.inl ⟨by rfl, ?_⟩) hHeld ?_ ?_
                    rotate_left
                    · rintro w' ⟨s0, s1, s2, s3, s4⟩
                      go_simp
                      with_reducible rfl
                    rotate_left
                    · simp only [Act.put, List.setIfInBounds_toArray, List.set_cons_zero, List.set_cons_succ, i64_w, i32_w]
                      rfl
                    refine pure_ (i := 3) (N := some 24) (v := ?_) (a' := ?_) #[true, true, true, true, false, true, false, false, false, true, false, true, true, false, false, false, false] rfl rfl (any_of HT_.out (by kernel_rfl)) (fun _ _ _ h => h) (Or.inl ⟨by rfl, ?_⟩) ?_ ?_
                    rotate_left
                    · intro w'
                      go_simp
                      with_reducible rfl
                    rotate_left
                    · simp only [Act.put, List.setIfInBounds_toArray, List.set_cons_zero, List.set_cons_succ, i64_w, i32_w]
                      rfl
                    refine pure_ (i := 4) (N := some 25) (v := ?_) (a' := ?_) #[true, true, true, true, true, true, false, false, false, true, false, true, true, false, false, false, false] rfl rfl (any_of HT_.out (by kernel_rfl)) (fun _ _ _ h => h) (Or.inl ⟨by rfl, ?_⟩) ?_ ?_
                    rotate_left
                    · intro w'
                      go_simp
                      with_reducible rfl
                    rotate_left
                    · simp only [Act.put, List.setIfInBounds_toArray, List.set_cons_zero, List.set_cons_succ, i64_w, i32_w]
                      rfl
                    refine take_ (i := 6) (N := some 27) (v := ?_) (a' := ?_) #[true, true, true, true, true, true, true, false, false, true, false, true, true, false, false, false, false] rfl rfl (take_ofW HT_.out HW_.out (by kernel_rfl)) (fun _ _ _ h => h) (Or.inl ⟨by rfl, ?_⟩) hHeld ?_ ?_
                    rotate_left
                    · rintro w' ⟨s0, s1, s2, s3, s4⟩
                      go_simp
                      with_reducible rfl
                    rotate_left
                    · simp only [Act.put, List.setIfInBounds_toArray, List.set_cons_zero, List.set_cons_succ, i64_w, i32_w]
                      rfl
                    refine pure_ (i := 7) (N := some 28) (v := ?_) (a' := ?_) #[true, true, true, true, true, true, true, true, false, true, false, true, true, false, false, false, false] rfl rfl (any_of HT_.out (by kernel_rfl)) (fun _ _ _ h => h) (Or.inl ⟨by rfl, ?_⟩) ?_ ?_
                    rotate_left
                    · intro w'
                      go_simp
                      with_reducible rfl
                    rotate_left
                    · simp only [Act.put, List.setIfInBounds_toArray, List.set_cons_zero, List.set_cons_succ, i64_w, i32_w]
                      rfl
                    refine pure_ (i := 8) (N := some 29) (v := ?_) (a' := ?_) #[true, true, true, true, true, true, true, true, true, true, false, true, true, false, false, false, false] rfl rfl (any_of HT_.out (by kernel_rfl)) (fun _ _ _ h => h) (Or.inl ⟨by rfl, ?_⟩) ?_ ?_
                    rotate_left
                    · intro w'
                      go_simp
                      with_reducible rfl
                    rotate_left
                    · simp only [Act.put, List.setIfInBounds_toArray, List.set_cons_zero, List.set_cons_succ, i64_w, i32_w]
                      rfl
                    refine take_ (i := 10) (N := some 31) (v := ?_) (a' := ?_) #[true, true, true, true, true, true, true, true, true, true, true, true, true, false, false, false, false] rfl rfl (take_ofW HT_.out HW_.out (by kernel_rfl)) (fun _ _ _ h => h) (Or.inl ⟨by rfl, ?_⟩) hHeld ?_ ?_
                    rotate_left
                    · rintro w' ⟨s0, s1, s2, s3, s4⟩
                      go_simp
                      with_reducible rfl
                    rotate_left
                    · simp only [Act.put, List.setIfInBounds_toArray, List.set_cons_zero, List.set_cons_succ, i64_w, i32_w]
                      rfl
                    refine one_ (i := 13) (N := some 34) #[true, true, true, true, true, true, true, true, true, true, true, true, true, true, false, false, false] rfl rfl (one_of HT_.out (by kernel_rfl)) (by decide) (fun K hK => ?_)
                    refine goes_ Tryd.func7 (by kernel_rfl) rfl #[.slice A133_4 ((rd_T33 l0 x17_2).f4).length c133_4, .int .i64 (wrap64 (a1 + 1))] (by rfl) rfl rfl (by (try simp only [List.map_toArray, List.map_cons, List.map_nil]); first | done | rfl | (simp only [List.length_drop, List.length_take]; rfl)) ?_
                    with_reducible refine (ih k2 (by have := HJ2.out; have := HK2.out; omega) _ _ ((rd_T33 l0 x17_2).f4) (wrap64 (a1 + 1)) t135 _ ?side1 ?side2 A9.out).mono ?_
                    (case side1 => repeat (first | exact (Kd.C_below HR133_4.out HB.out) | (with_reducible refine Kd.C_alloc ?_ _) | (with_reducible refine Kd.C_drewN ?_ _) | (with_reducible refine Kd.C_drew ?_)))
                    (case side2 => exact HC133_4.out)
                    rintro e w20 ⟨rfl, hb⟩
                    refine ⟨_, rfl, ?_⟩
                    have n0_ := Aside0.mk (blk_below (g := gb134) (o := .cells #[.int .i64 ((rd_T33 l0 x17_2).f0), .bool ((rd_T33 l0 x17_2).f1), .string ((rd_T33 l0 x17_2).f2), .string ((rd_T33 l0 x17_2).f3), .slice A133_4 ((rd_T33 l0 x17_2).f4).length c133_4] 33 (0, 0)) (by (with_reducible repeat (first | refine blk_drewN ?_ _ | refine blk_drew ?_ | refine blk_alloc ?_ _)); exact BK134.out) hb)
                    have n1_ := Aside0.mk (below_step (by repeat (first | (with_reducible first | exact HB.out | apply below_alloc | apply pw_below_drewN | apply below_drew1 | refine below_set ?_ GE134.out) | exact HB.out)) hb)
                    clear BK134
                    clear HB
                    have BK134 := n0_
                    have HB := n1_
                    clear n0_ n1_
                    (try clear hb)
                    (try clear hb2)
                    (try clear hk)
                    (try clear hi)
                    refine hK.out _ _ ⟨(blk_cell BK134.out 0).trans rfl, (blk_cell BK134.out 1).trans rfl, (blk_cell BK134.out 2).trans rfl, (blk_cell BK134.out 3).trans rfl, (blk_cell BK134.out 4).trans rfl⟩ (fun hHeld => ?_)
                    clear hK K
                    refine norm_ (a' := ?_) ?_ ?_
                    rotate_left
                    · show Act.put _ (some 34) _ = _
                      simp only [Act.put, List.setIfInBounds_toArray, List.set_cons_zero, List.set_cons_succ, i64_w, i32_w]
                      rfl
                    refine pure_ (i := 14) (N := some 35) (v := ?_) (a' := ?_) #[true, true, true, true, true, true, true, true, true, true, true, true, true, true, true, false, false] rfl rfl (any_of HT_.out (by kernel_rfl)) (fun _ _ _ h => h) (Or.inl ⟨by rfl, ?_⟩) ?_ ?_
                    rotate_left
                    · intro w'
                      go_simp
                      with_reducible rfl
                    rotate_left
                    · simp only [Act.put, List.setIfInBounds_toArray, List.set_cons_zero, List.set_cons_succ, i64_w, i32_w]
                      rfl
                    refine pure_ (i := 15) (N := some 36) (v := ?_) (a' := ?_) #[true, true, true, true, true, true, true, true, true, true, true, true, true, true, true, true, false] rfl rfl (any_of HT_.out (by kernel_rfl)) (fun _ _ _ h => h) (Or.inl ⟨by rfl, ?_⟩) ?_ ?_
                    rotate_left
                    · intro w'
                      go_simp
                      with_reducible rfl
                    rotate_left
                    · simp only [Act.put, List.setIfInBounds_toArray, List.set_cons_zero, List.set_cons_succ, i64_w, i32_w]
                      rfl
                    refine pure_ (i := 16) (N := some 5) (v := ?_) (a' := ?_) #[true, true, true, true, true, true, true, true, true, true, true, true, true, true, true, true, true] rfl rfl (any_of HT_.out (by kernel_rfl)) (fun _ _ _ h => h) (Or.inl ⟨by rfl, ?_⟩) ?_ ?_
                    rotate_left
                    · intro w'
                      go_simp
                      with_reducible rfl
                    rotate_left
                    · simp only [Act.put, List.setIfInBounds_toArray, List.set_cons_zero, List.set_cons_succ, i64_w, i32_w]
                      rfl
                    refine done_ (done_of HT_.out (by kernel_rfl)) ?_
                    try go_wp2
                    go_roundg k2
                    case measure => have := HJ2.out; have := HK2.out; omega
                    case rel => exact ⟨(wrap64 (x5_2 + (wrap64 ((wrap64 ((wrap64 (1 + (((rd_T33 l0 x17_2).f2).size : Int))) + (((rd_T33 l0 x17_2).f3).size : Int))) + t135)))), (wrap64 (x17_2 + 1)), (by first | rfl | (simp; done) | (simp [*]; done)), (by first | rfl | (simp; done) | (simp [*]; done)), H', ⟨by have := HJ2.out; have := HK2.out; omega⟩, ⟨by repeat (first | (with_reducible first | exact HB.out | apply below_alloc | apply pw_below_drewN | apply below_drew1 | refine below_set ?_ GE134.out) | exact HB.out)⟩⟩
                · rw [if_neg c8] at H
                  exact absurd H (by simp)
              · rw [if_neg c7] at H
                exact absurd H (by simp)
            · rw [if_neg c6] at H
              have c6b0 : decide (x17_2 < (l0.length : Int)) = false := decide_eq_false c6
              clear c6
              obtain rfl := Option.some.inj H
              go_wp2
              go_ret
              exact ⟨by first | rfl | (simp [errW_none, errW_some] <;> rfl) | (simp [*, errW_none, errW_some] <;> rfl), by repeat (first | (with_reducible first | exact HB.out | apply below_alloc | apply pw_below_drewN | apply below_drew1) | exact HB.out)⟩
end Go.Proofs.YtkecpfjmdokieaaDoor.P
namespace Go.Proofs.YtkecpfjmdokieaaDoor.Word
open Go.RowKit Go.Proofs.YtkecpfjmdokieaaDoorW.PrintWords Go.Proofs.YtkecpfjmdokieaaDoor.P Go.Proofs.YtkecpfjmdokieaaDoor.NodeOps
set_option linter.unusedVariables false
set_option linter.unusedSimpArgs false
abbrev Pt := S33
theorem wr (x : Int) (h0 : -9223372036854775808 ≤ x) (h1 : x ≤ 9223372036854775807) : wrap64 x = x := by unfold wrap64; omega
theorem via {α β : Type} {g h' : Nat → Option α} {h : Nat → Option β} {b : β} {r : α} (hb : Ev h b) (hk : Ev h' r) (e : ∀ k, h k = some b → g (k + 1) = h' k) : Ev g r := by
  obtain ⟨k0, h0⟩ := hb
  obtain ⟨k1, h1⟩ := hk
  refine ⟨max k0 k1 + 1, fun k hk => ?_⟩
  obtain ⟨j, rfl⟩ : ∃ j, k = j + 1 := ⟨k - 1, by omega⟩
  rw [e j (h0 j (by omega))]
  exact h1 j (by omega)
theorem step {α : Type} {g f : Nat → Option α} {r : α} (h : Ev f r) (e : ∀ k, g (k + 1) = f k) : Ev g r := by
  obtain ⟨k0, h0⟩ := h
  exact ⟨k0 + 1, fun k hk => by obtain ⟨j, rfl⟩ : ∃ j, k = j + 1 := ⟨k - 1, by omega⟩; rw [e]; exact h0 j (by omega)⟩
theorem via2 {α : Type} {g f : Nat → Option α} {r : α} (h : Ev f r) (e : ∀ k, g k = f k) : Ev g r := by
  obtain ⟨k0, h0⟩ := h
  exact ⟨k0, fun k hk => by rw [e]; exact h0 k hk⟩
theorem now {α : Type} {g : Nat → Option α} {r : α} (e : ∀ k, g (k + 1) = some r) : Ev g r := step (f := fun _ => some r) ⟨0, fun _ _ => rfl⟩ e
theorem size_pt (x : Pt) : SizeOf.sizeOf x.f4 < SizeOf.sizeOf x := by cases x; simp; omega
theorem size_in {l : List Pt} {x : Pt} (h : x ∈ l) : SizeOf.sizeOf x.f4 < SizeOf.sizeOf l := by
  have h1 := List.sizeOf_lt_of_mem h
  have h2 := size_pt x
  omega
def wt (l : List Pt) : Nat := (l.attach.map fun x => 1 + x.1.f2.size + x.1.f3.size + wt x.1.f4).sum
termination_by SizeOf.sizeOf l
decreasing_by exact size_in x.2
theorem wt_eq (l : List Pt) : wt l = (l.map fun x => 1 + x.f2.size + x.f3.size + wt x.f4).sum := by
  rw [wt]
  have e : ∀ (g : Pt → Nat), (l.attach.map fun x => g x.1) = l.map g := fun g => by simp
  exact congrArg List.sum (e fun x => 1 + x.f2.size + x.f3.size + wt x.f4)
theorem rd_in (l : List Pt) (i : Nat) (h : i < l.length) : rd_T33 l (i : Int) = l[i] := by
  unfold rd_T33
  rw [Int.toNat_natCast, List.getD_eq_getElem?_getD, List.getElem?_eq_getElem h]
  rfl
theorem wt_cons (x : Pt) (l : List Pt) : wt (x :: l) = 1 + x.f2.size + x.f3.size + wt x.f4 + wt l := by
  rw [wt_eq, wt_eq l]
  simp
theorem wt_drop (l : List Pt) (i : Nat) (h : i < l.length) : wt (l.drop i) = 1 + l[i].f2.size + l[i].f3.size + wt l[i].f4 + wt (l.drop (i + 1)) := by
  rw [List.drop_eq_getElem_cons h, wt_cons]
def HasW (g : Nat → Option Int) (v : Nat) : Prop := ∃ r, 0 ≤ r ∧ r ≤ 100000 ∧ (r ≤ 10000 → r = (v : Int)) ∧ Ev g r
theorem hw_step {g f : Nat → Option Int} {v : Nat} (h : HasW f v) (e : ∀ k, g (k + 1) = f k) : HasW g v := by
  obtain ⟨r, h0, h1, h2, h3⟩ := h
  exact ⟨r, h0, h1, h2, step h3 e⟩
theorem w03_loop (deep : Int) (l : List Pt) (hl : l.length ≤ 10000) (hfit : ∀ y ∈ l, FitPart y) (hsub : ∀ y ∈ l, HasW (fun n => deadfallref03_Weight.f n y.f4 (wrap64 (deep + 1))) (wt y.f4)) :
    ∀ (d i : Nat), l.length - i ≤ d → i ≤ l.length → ∀ n5 : Int, 0 ≤ n5 → n5 ≤ 10000 → ∀ v : Nat, (v : Int) = n5 + (wt (l.drop i) : Int) → HasW (fun n => deadfallref03_Weight.l0 n deep n5 l (l.length : Int) (i : Int)) v := by
  intro d
  induction d with
  | zero =>
    intro i hd hi n5 h0 h1 v hv
    rw [List.drop_eq_nil_of_le (by omega), wt_eq] at hv
    refine ⟨n5, h0, by omega, fun _ => by simp at hv; omega, now fun k => ?_⟩
    show deadfallref03_Weight.l0 (k + 1) deep n5 l (l.length : Int) (i : Int) = _
    rw [deadfallref03_Weight.l0, if_neg (by omega)]
  | succ d ih =>
    intro i hd hi n5 h0 h1 v hv
    by_cases hlt : i < l.length
    · have hm : l[i] ∈ l := List.getElem_mem hlt
      have hrd := rd_in l i hlt
      rw [wt_drop l i hlt] at hv
      obtain ⟨t, t0, t1, t2, ht⟩ := hsub _ hm
      obtain ⟨_, s2, s3, _, _⟩ := hfit _ hm
      unfold Lim at s2 s3
      rw [← hrd] at ht t2 s2 s3 hv
      have e : wrap64 (n5 + wrap64 (wrap64 (wrap64 (1 + ((rd_T33 l (i : Int)).f2.size : Int)) + ((rd_T33 l (i : Int)).f3.size : Int)) + t)) = n5 + (1 + ((rd_T33 l (i : Int)).f2.size : Int) + ((rd_T33 l (i : Int)).f3.size : Int) + t) := by
        rw [wr (1 + ((rd_T33 l (i : Int)).f2.size : Int)) (by omega) (by omega), wr (1 + ((rd_T33 l (i : Int)).f2.size : Int) + ((rd_T33 l (i : Int)).f3.size : Int)) (by omega) (by omega), wr (1 + ((rd_T33 l (i : Int)).f2.size : Int) + ((rd_T33 l (i : Int)).f3.size : Int) + t) (by omega) (by omega)]
        exact wr _ (by omega) (by omega)
      obtain ⟨n', hn'⟩ : ∃ n', n' = n5 + (1 + ((rd_T33 l (i : Int)).f2.size : Int) + ((rd_T33 l (i : Int)).f3.size : Int) + t) := ⟨_, rfl⟩
      rw [← hn'] at e
      by_cases hb : n' > 10000
      · refine ⟨100000, by omega, by omega, fun h => by omega, via ht (r := 100000) (h' := fun _ => some 100000) ⟨0, fun _ _ => rfl⟩ fun k hk => ?_⟩
        show deadfallref03_Weight.l0 (k + 1) deep n5 l (l.length : Int) (i : Int) = _
        rw [deadfallref03_Weight.l0, if_pos (by omega), if_pos (by omega), if_pos (by omega), hk, Option.bind_some, e, if_pos hb]
      · have ht3 := t2 (by omega)
        obtain ⟨r, r0, r1, r2, hr⟩ := ih (i + 1) (by omega) (by omega) n' (by omega) (by omega) v (by omega)
        refine ⟨r, r0, r1, r2, via ht hr fun k hk => ?_⟩
        show deadfallref03_Weight.l0 (k + 1) deep n5 l (l.length : Int) (i : Int) = _
        rw [deadfallref03_Weight.l0, if_pos (by omega), if_pos (by omega), if_pos (by omega), hk, Option.bind_some, e, if_neg hb, wr ((i : Int) + 1) (by omega) (by omega)]
        rfl
    · rw [List.drop_eq_nil_of_le (by omega), wt_eq] at hv
      refine ⟨n5, h0, by omega, fun _ => by simp at hv; omega, now fun k => ?_⟩
      show deadfallref03_Weight.l0 (k + 1) deep n5 l (l.length : Int) (i : Int) = _
      rw [deadfallref03_Weight.l0, if_neg (by omega)]
theorem w03_any : ∀ (d : Nat), d ≤ 251 → ∀ l, FitWord l → HasW (fun n => deadfallref03_Weight.f n l (251 - (d : Int))) (wt l) := by
  intro d
  induction d with
  | zero =>
    intro _ l _
    refine hw_step (f := fun k => deadfallref03_Weight.j0 k l (251 - ((0 : Nat) : Int)) true) ⟨100000, by omega, by omega, fun h => by omega, now fun k => ?_⟩ fun k => ?_
    · show deadfallref03_Weight.j0 (k + 1) l (251 - ((0 : Nat) : Int)) true = _
      rw [deadfallref03_Weight.j0, if_pos rfl]
    · show deadfallref03_Weight.f (k + 1) l (251 - ((0 : Nat) : Int)) = _
      rw [deadfallref03_Weight.f, if_pos (by omega)]
  | succ d ih =>
    intro hd l hl
    have hw : wrap64 (251 - ((d + 1 : Nat) : Int) + 1) = 251 - (d : Int) := by unfold wrap64; omega
    refine hw_step (f := fun k => deadfallref03_Weight.j0 k l (251 - ((d + 1 : Nat) : Int)) (decide ((l.length : Int) > 10000))) ?_ (fun k => ?_)
    · by_cases hb : (l.length : Int) > 10000
      · refine ⟨100000, by omega, by omega, fun h => by omega, now fun k => ?_⟩
        show deadfallref03_Weight.j0 (k + 1) l (251 - ((d + 1 : Nat) : Int)) (decide ((l.length : Int) > 10000)) = _
        rw [deadfallref03_Weight.j0, if_pos (decide_eq_true hb)]
      · refine hw_step (w03_loop (251 - ((d + 1 : Nat) : Int)) l (by omega) hl.2 (fun y hy => ?_) l.length 0 (by omega) (by omega) 0 (by omega) (by omega) (wt l) (by rw [List.drop_zero]; omega)) fun k => ?_
        · rw [hw]
          have hf := hl.2 y hy
          exact ih (by omega) y.f4 (by cases hf with | mk _ _ _ a b => exact ⟨a, b⟩)
        · show deadfallref03_Weight.j0 (k + 1) l (251 - ((d + 1 : Nat) : Int)) (decide ((l.length : Int) > 10000)) = _
          rw [deadfallref03_Weight.j0, if_neg (by simpa using hb)]
          rfl
    · show deadfallref03_Weight.f (k + 1) l (251 - ((d + 1 : Nat) : Int)) = _
      rw [deadfallref03_Weight.f, if_neg (by omega)]
theorem w03 (l : List Pt) (h : FitWord l) : HasW (fun n => deadfallref03_Weight.f n l 0) (wt l) := w03_any 251 (by omega) l h
theorem weight_any (l : List Pt) (h : FitWord l) : ∃ r, (r ≤ 10000 → r = (wt l : Int)) ∧ ∀ (A : Option Addr) (n c : Nat) (w : World), Kd.C k33 w A n l → n ≤ c → Calls Tryd.prog 7 #[.slice A n c, .int .i64 0] w fun e w' => e = .returned (.int .i64 r) ∧ Below w.heap.size w w' := by
  obtain ⟨r, _, _, h2, K, hK⟩ := w03 l h
  refine ⟨r, h2, fun A n c w hC hc => ?_⟩
  obtain rfl := hC.1
  exact deadfallref03_Weight.calls K A c l 0 r w hC hc (hK K (Nat.le_refl _))
end Go.Proofs.YtkecpfjmdokieaaDoor.Word
namespace Go.Proofs.YtkecpfjmdokieaaDoor.Class
open Go.RowKit Go.Proofs.YtkecpfjmdokieaaDoorW.PrintWords Go.Proofs.YtkecpfjmdokieaaDoorW.PrintLast Go.Proofs.YtkecpfjmdokieaaDoor.Base
set_option linter.unusedVariables false
set_option linter.unusedSimpArgs false
def blankB (c : Int) : Bool := c == 32 || c == 9
def breakB (c : Int) : Bool := blankB c || c == 10
set_option maxHeartbeats 400000 in
theorem blank_any (c : Int) (w : World) : Calls Tryd.prog 90 #[.int .u8 c] w fun e w' => e = .returned (.bool (blankB c)) ∧ w = w' := by
  unfold blankB
  by_cases h : (c == 32) = true
  · go_enter Tryd.func90, Tryd.ntmps90
    go_wp2
    go_ret
    exact ⟨by simp [h], rfl⟩
  · replace h := Bool.eq_false_iff.mpr h
    go_enter Tryd.func90, Tryd.ntmps90
    go_wp2
    go_ret
    exact ⟨by simp [h], rfl⟩
set_option maxHeartbeats 400000 in
theorem break_any (c : Int) (w : World) : Calls Tryd.prog 67 #[.int .u8 c] w fun e w' => e = .returned (.bool (breakB c)) ∧ w = w' := by
  unfold breakB
  by_cases h : blankB c = true
  · go_enter Tryd.func67, Tryd.ntmps67
    go_wp2_with (go_at_call 90; refine (blank_any _ _).mono ?_; rintro e w' ⟨rfl, rfl⟩)
    go_ret
    exact ⟨by simp [h], rfl⟩
  · replace h := Bool.eq_false_iff.mpr h
    go_enter Tryd.func67, Tryd.ntmps67
    go_wp2_with (go_at_call 90; refine (blank_any _ _).mono ?_; rintro e w' ⟨rfl, rfl⟩)
    go_ret
    exact ⟨by simp [h], rfl⟩
end Go.Proofs.YtkecpfjmdokieaaDoor.Class
namespace Go.Proofs.YtkecpfjmdokieaaDoor.Class
open Go.RowKit Go.Proofs.YtkecpfjmdokieaaDoorW.PrintWords Go.Proofs.YtkecpfjmdokieaaDoorW.PrintLast Go.Proofs.YtkecpfjmdokieaaDoor.Base
set_option linter.unusedVariables false
set_option linter.unusedSimpArgs false
def digitB (c : Int) : Bool := decide (48 ≤ c) && decide (c ≤ 57)
def letterB (c : Int) : Bool := (decide (97 ≤ c) && decide (c ≤ 122)) || (decide (65 ≤ c) && decide (c ≤ 90)) || c == 95
def signB (c : Int) : Bool := [59, 38, 124, 40, 41, 60, 62].contains c
def bareB (c : Int) : Bool := !breakB c && !signB c && c != 36 && c != 92 && c != 34 && c != 39 && c != 96
theorem ret_b {a b : Bool} (h : a = b) : Ending.returned (.bool a) = .returned (.bool b) := by rw [h]
theorem all_bytes {p : Int → Prop} (h : ∀ n : Fin 256, p ((n.val : Nat) : Int)) {c : Int} (h0 : 0 ≤ c) (h1 : c ≤ 255) : p c := by
  obtain ⟨n, rfl⟩ := Int.eq_ofNat_of_zero_le h0
  exact h ⟨n, by omega⟩
set_option maxHeartbeats 400000 in
theorem digit_any (c : Int) (w : World) : Calls Tryd.prog 46 #[.int .u8 c] w fun e w' => e = .returned (.bool (digitB c)) ∧ w = w' := by
  unfold digitB
  go_enter Tryd.func46, Tryd.ntmps46
  go_wp2
  all_goals
    go_ret
    exact ⟨ret_b (by first | (simp [*]; done) | (simp; omega)), rfl⟩
set_option maxHeartbeats 400000 in
theorem letter_any (c : Int) (w : World) : Calls Tryd.prog 45 #[.int .u8 c] w fun e w' => e = .returned (.bool (letterB c)) ∧ w = w' := by
  unfold letterB
  go_enter Tryd.func45, Tryd.ntmps45
  go_wp2
  all_goals
    go_ret
    refine ⟨ret_b ?_, rfl⟩
    simp at *
    first | done | omega
theorem sign_eq {c : Int} (h0 : 0 ≤ c) (h1 : c ≤ 255) : decide (0 ≤ Lib.indexByte [59, 38, 124, 40, 41, 60, 62] c.toNat.toUInt8) = signB c :=
  all_bytes (p := fun c => decide (0 ≤ Lib.indexByte [59, 38, 124, 40, 41, 60, 62] c.toNat.toUInt8) = signB c) (by decide +kernel) h0 h1
set_option maxHeartbeats 400000 in
theorem sign_any (c : Int) (w : World) (h0 : 0 ≤ c) (h1 : c ≤ 255) : Calls Tryd.prog 68 #[.int .u8 c] w fun e w' => e = .returned (.bool (signB c)) ∧ w = w' := by
  have hs := sign_eq h0 h1
  go_enter Tryd.func68, Tryd.ntmps68
  go_wp2_with (go_at_call 58; refine (Tryd.strings_IndexByte _ _ _).mono ?_; rintro e w' ⟨rfl, rfl⟩)
  go_ret
  exact ⟨ret_b (by first | rfl | exact hs), rfl⟩
set_option maxHeartbeats 400000 in
theorem bare_any (c : Int) (w : World) (h0 : 0 ≤ c) (h1 : c ≤ 255) : Calls Tryd.prog 50 #[.int .u8 c] w fun e w' => e = .returned (.bool (bareB c)) ∧ w = w' := by
  unfold bareB
  go_enter Tryd.func50, Tryd.ntmps50
  go_wp2_with (first
    | (go_at_call 67; refine (break_any _ _).mono ?_; rintro e w' ⟨rfl, rfl⟩)
    | (go_at_call 68; refine (sign_any _ _ h0 h1).mono ?_; rintro e w' ⟨rfl, rfl⟩))
  all_goals
    go_ret
    exact ⟨ret_b (by simp [*]), rfl⟩
def nameL (l : List Int) : Bool := match l with
  | [] => false
  | c :: r => letterB c && r.all fun c => letterB c || digitB c
def nameB (s : ByteArray) : Bool := nameL (bytesOf s)
theorem bytes_get (s : ByteArray) (k : Nat) (h : k < s.size) : (bytesOf s)[k]'(by rw [bytesOf_length]; exact h) = bt s k := by
  rw [← rd_bytesOf]
  simp [rd, List.getD_eq_getElem?_getD, List.getElem?_eq_getElem (show k < (bytesOf s).length by rw [bytesOf_length]; exact h)]
theorem all_iff (s : ByteArray) (p : Int → Bool) : (bytesOf s).all p = true ↔ ∀ k : Nat, k < s.size → p (bt s k) = true := by
  rw [List.all_eq_true]
  constructor
  · intro h k hk
    rw [← bytes_get s k hk]
    exact h _ (List.getElem_mem _)
  · intro h x hx
    obtain ⟨k, hk, rfl⟩ := List.getElem_of_mem hx
    rw [bytesOf_length] at hk
    rw [bytes_get s k hk]
    exact h k hk
theorem name_iff (s : ByteArray) : nameB s = true ↔ s.size ≠ 0 ∧ letterB (bt s 0) = true ∧ ∀ k : Nat, k < s.size → (letterB (bt s k) || digitB (bt s k)) = true := by
  unfold nameB
  have hl := bytesOf_length s
  have ha := all_iff s (fun c => letterB c || digitB c)
  cases hb : bytesOf s with
  | nil => rw [hb] at hl; simp at hl; simp [nameL, hl.symm]
  | cons c r =>
    rw [hb] at hl ha
    have h0 : 0 < s.size := by simp at hl; omega
    have hc : c = bt s 0 := by
      have := bytes_get s 0 h0
      simp only [hb, List.getElem_cons_zero] at this
      exact this
    simp only [nameL, Bool.and_eq_true]
    rw [← hc, ← ha]
    simp only [List.all_cons, Bool.and_eq_true, Bool.or_eq_true]
    constructor
    · rintro ⟨h1, h2⟩; exact ⟨by omega, h1, .inl h1, h2⟩
    · rintro ⟨_, h1, _, h2⟩; exact ⟨h1, h2⟩
set_option maxHeartbeats 1000000 in
set_option maxRecDepth 100000 in
theorem name_any (s : ByteArray) (w : World) (hs : s.size ≤ 140737488355328) : Calls Tryd.prog 32 #[.string s] w fun e w' => e = .returned (.bool (nameB s)) ∧ w = w' := by
  go_enter Tryd.func32, Tryd.ntmps32
  go_wp2
  go_loop [6] (fun v6 => ∃ k : Nat, k ≤ s.size ∧ v6 = .int .i64 k ∧ Aside0 (∀ j : Nat, j < k → (letterB (bt s j) || digitB (bt s j)) = true ∧ (j = 0 → letterB (bt s 0) = true))) (fun v6 => s.size - (intOf v6).toNat)
  case atStart => exact ⟨0, Nat.zero_le _, rfl, ⟨by omega⟩⟩
  case round =>
    obtain ⟨k, hk, rfl, HA⟩ := hrel
    by_cases hlt : k < s.size
    · have hbt := bt_nat s k
      have hi0 : (0 : Int) ≤ (k : Int) := by omega
      have hi1 : (k : Int) < (s.size : Int) := by omega
      by_cases h1 : letterB (bt s k) = true
      · go_wp2_with (first
          | (go_at_call 45; refine (letter_any _ _).mono ?_; rintro e w' ⟨rfl, rfl⟩)
          | (go_at_call 46; refine (digit_any _ _).mono ?_; rintro e w' ⟨rfl, rfl⟩))
        go_round
        case measure => simp [intOf]; omega
        case rel =>
          refine ⟨k + 1, by omega, by go_num, ⟨fun j hj => ?_⟩⟩
          rcases Nat.lt_or_ge j k with h | h
          · exact HA.out j h
          · obtain rfl : j = k := by omega
            exact ⟨by rw [h1]; rfl, by rintro rfl; exact h1⟩
      · replace h1 := Bool.eq_false_iff.mpr h1
        by_cases hk0 : k = 0
        · subst hk0
          have h10 : letterB (bt s 0) = false := h1
          have hb0 : ∀ h : 0 < s.size, ((s[0]'h).toNat : Int) = bt s 0 := bt_nat s 0
          clear hbt
          go_wp2_with (first
            | (go_at_call 45; refine (letter_any _ _).mono ?_; rintro e w' ⟨rfl, rfl⟩)
            | (go_at_call 46; refine (digit_any _ _).mono ?_; rintro e w' ⟨rfl, rfl⟩))
          go_ret
          refine ⟨ret_b ?_, rfl⟩
          cases hn : nameB s with
          | false => rfl
          | true => have := ((name_iff s).1 hn).2.1; rw [show ((0 : Nat) : Int) = 0 from rfl] at h1; rw [h1] at this; cases this
        · have hd0 : ((k : Int) == 0) = false := by simpa using hk0
          by_cases h2 : digitB (bt s k) = true
          · go_wp2_with (first
              | (go_at_call 45; refine (letter_any _ _).mono ?_; rintro e w' ⟨rfl, rfl⟩)
              | (go_at_call 46; refine (digit_any _ _).mono ?_; rintro e w' ⟨rfl, rfl⟩))
            go_round
            case measure => simp [intOf]; omega
            case rel =>
              refine ⟨k + 1, by omega, by go_num, ⟨fun j hj => ?_⟩⟩
              rcases Nat.lt_or_ge j k with h | h
              · exact HA.out j h
              · obtain rfl : j = k := by omega
                exact ⟨by rw [h1, h2]; rfl, fun h => absurd h hk0⟩
          · replace h2 := Bool.eq_false_iff.mpr h2
            go_wp2_with (first
              | (go_at_call 45; refine (letter_any _ _).mono ?_; rintro e w' ⟨rfl, rfl⟩)
              | (go_at_call 46; refine (digit_any _ _).mono ?_; rintro e w' ⟨rfl, rfl⟩))
            go_ret
            refine ⟨ret_b ?_, rfl⟩
            cases hn : nameB s with
            | false => rfl
            | true => have := ((name_iff s).1 hn).2.2 k hlt; rw [h1, h2] at this; cases this
    · obtain rfl : k = s.size := by omega
      have HN := Aside0.mk (name_iff s)
      by_cases hz : s.size = 0
      · have he : s.toList = [] := by rw [ByteArray.toList_eq]; exact List.eq_nil_of_length_eq_zero (by rw [data_length]; exact hz)
        have hnf : nameB s = false := by
          cases hn : nameB s with
          | false => rfl
          | true => exact absurd hz ((name_iff s).1 hn).1
        have HF := Aside0.mk hnf
        clear hnf
        go_wp2
        go_ret
        exact ⟨ret_b (by rw [HF.out] <;> simp [he]), rfl⟩
      · obtain ⟨he0, he1, he2⟩ := str_ne_empty hz
        have hnt : nameB s = true := (name_iff s).2 ⟨hz, (HA.out 0 (by omega)).2 rfl, fun k hk => (HA.out k hk).1⟩
        have HT := Aside0.mk hnt
        clear hnt
        go_wp2
        go_ret
        exact ⟨ret_b (by rw [HT.out] <;> simp [he1, he2, he0]), rfl⟩
end Go.Proofs.YtkecpfjmdokieaaDoor.Class
namespace Go.Proofs.YtkecpfjmdokieaaDoor.Class
open Go.RowKit Go.Proofs.YtkecpfjmdokieaaDoorW.PrintWords Go.Proofs.YtkecpfjmdokieaaDoorW.PrintLast Go.Proofs.YtkecpfjmdokieaaDoor.Base
set_option linter.unusedVariables false
set_option linter.unusedSimpArgs false
def setB (c : Int) : Bool := [64, 42, 35, 63, 36, 33].contains c
def allD (s : ByteArray) : Bool := (bytesOf s).all digitB
def paramB (s : ByteArray) : Bool := (decide (s.size = 1) && (digitB (bt s 0) || setB (bt s 0))) || nameB s || (allD s && decide (1 < s.size) && decide (s.size ≤ 3) && bt s 0 != 48)
theorem set_eq (c : UInt8) : decide (0 ≤ Lib.indexByte [64, 42, 35, 63, 36, 33] c) = setB (c.toNat : Int) := by
  have h : ∀ n : Fin 256, decide (0 ≤ Lib.indexByte [64, 42, 35, 63, 36, 33] (UInt8.ofNat n.val)) = setB ((n.val : Nat) : Int) := by decide +kernel
  have := h ⟨c.toNat, c.toNat_lt⟩
  simpa using this
theorem contains_set (c : UInt8) (w : World) : Calls Tryd.prog 69 #[.string ⟨#[64, 42, 35, 63, 36, 33]⟩, .string ⟨#[c]⟩] w fun e w' => e = .returned (.bool (setB (c.toNat : Int))) ∧ w = w' := by
  refine (Tryd.strings_Contains_one _ c w).mono ?_
  rintro e w' ⟨rfl, rfl⟩
  exact ⟨ret_b (set_eq c), rfl⟩
def notDigit (x : Nat) : Bool := decide (x < 48) || decide (57 < x)
set_option maxHeartbeats 400000 in
theorem closure_any (x : Nat) (w : World) : Calls Tryd.prog 71 #[.int .i32 (x : Int)] w fun e w' => e = .returned (.bool (notDigit x)) ∧ w = w' := by
  unfold notDigit
  have e1 : decide ((x : Int) < 48) = decide (x < 48) := by simp; omega
  have e2 : decide ((57 : Int) < (x : Int)) = decide (57 < x) := by simp; omega
  by_cases h1 : x < 48
  · have d1 : decide ((x : Int) < 48) = true := by rw [e1]; simpa using h1
    clear e1 e2
    go_enter Tryd.func71, Tryd.ntmps71
    go_wp2
    go_ret
    exact ⟨ret_b (by rw [decide_eq_true h1]; rfl), rfl⟩
  · have d1 : decide ((x : Int) < 48) = false := by rw [e1]; simpa using h1
    have d2 : decide ((57 : Int) < (x : Int)) = decide (57 < x) := e2
    have D2 := Aside0.mk d2
    clear e1 e2 d2
    go_enter Tryd.func71, Tryd.ntmps71
    go_wp2
    go_ret
    exact ⟨ret_b (by rw [decide_eq_false h1]; first | exact D2.out | (simp; done) | rfl), rfl⟩
theorem idx_from (s : ByteArray) : ∀ (f pos : Nat), s.size ≤ pos + f → (0 ≤ Lib.idxFuncFrom notDigit true s f pos ↔ ∃ j : Nat, pos ≤ j ∧ j < s.size ∧ digitB (bt s j) = false)
  | 0, pos, h => by
    simp only [Lib.idxFuncFrom]
    constructor
    · intro h; omega
    · rintro ⟨j, h1, h2, _⟩; omega
  | f + 1, pos, h => by
    unfold Lib.idxFuncFrom
    by_cases hp : pos < s.size
    · rw [if_pos hp]
      have hbt : bt s pos = ((s[pos]'hp).toNat : Int) := (bt_nat s pos hp).symm
      by_cases ha : (s[pos]'hp).toNat < 128
      · rw [decode_ascii s pos hp ha]
        by_cases hd : notDigit (s[pos]'hp).toNat = true
        · rw [if_pos hd]
          refine ⟨fun _ => ⟨pos, Nat.le_refl _, hp, ?_⟩, fun _ => by omega⟩
          rw [hbt]
          simp only [notDigit, digitB, Bool.or_eq_true, decide_eq_true_eq] at hd ⊢
          simp
          omega
        · rw [if_neg hd]
          rw [idx_from s f (pos + 1) (by omega)]
          constructor
          · rintro ⟨j, h1, h2, h3⟩; exact ⟨j, by omega, h2, h3⟩
          · rintro ⟨j, h1, h2, h3⟩
            rcases Nat.lt_or_ge pos j with h4 | h4
            · exact ⟨j, h4, h2, h3⟩
            · obtain rfl : j = pos := by omega
              rw [hbt] at h3
              simp only [notDigit, digitB, Bool.or_eq_true, decide_eq_true_eq] at hd h3
              simp at h3
              omega
      · have hh := decode_high s pos hp (by omega)
        have hd : notDigit (Utf8.decode s pos).1 = true := by simp only [notDigit, Bool.or_eq_true, decide_eq_true_eq]; omega
        rw [if_pos hd]
        refine ⟨fun _ => ⟨pos, Nat.le_refl _, hp, ?_⟩, fun _ => by omega⟩
        rw [hbt]
        simp only [digitB]
        simp
        omega
    · rw [if_neg hp]
      constructor
      · intro h; omega
      · rintro ⟨j, h1, h2, _⟩; omega
theorem idx_digits (s : ByteArray) : decide (0 ≤ Lib.idxFunc notDigit true s) = !allD s := by
  have h := idx_from s s.size 0 (by omega)
  have ha := all_iff s digitB
  unfold Lib.idxFunc
  cases hd : allD s with
  | true =>
    simp only [Bool.not_true, decide_eq_false_iff_not]
    rw [h]
    rintro ⟨j, _, h2, h3⟩
    rw [ha.1 hd j h2] at h3
    cases h3
  | false =>
    simp only [Bool.not_false, decide_eq_true_eq]
    rw [h]
    apply Classical.byContradiction
    intro hn
    have : allD s = true := ha.2 fun k hk => by
      cases hb : digitB (bt s k) with
      | true => rfl
      | false => exact absurd ⟨k, Nat.zero_le _, hk, hb⟩ hn
    rw [hd] at this
    cases this
theorem containsFunc_any (s : ByteArray) (w : World) : Calls Tryd.prog 70 #[.string s, .func (.func 71) #[] #[]] w fun e w' => e = .returned (.bool (!allD s)) ∧ Below w.heap.size w w' := by
  refine (Tryd.strings_ContainsFunc_grows 71 #[] (enters_of Tryd.func71 (by kernel_rfl) rfl) notDigit s w ?_).mono ?_
  · intro W x hx hb
    refine (closure_any x W).mono ?_
    rintro e w' ⟨rfl, rfl⟩
    exact ⟨rfl, Below.refl _ _⟩
  · rintro e w' ⟨rfl, hB⟩
    exact ⟨ret_b (idx_digits s), hB⟩
set_option maxHeartbeats 1000000 in
set_option maxRecDepth 100000 in
theorem param_one (c : UInt8) (w : World) : Calls Tryd.prog 51 #[.string ⟨#[c]⟩] w fun e w' => e = .returned (.bool (paramB ⟨#[c]⟩)) ∧ Below w.heap.size w w' := by
  have hb0 : bt ⟨#[c]⟩ 0 = (c.toNat : Int) := by unfold bt; rw [dif_pos (by show (0 : Nat) < 1; omega)]; rfl
  have hix : ∀ h : 0 < (⟨#[c]⟩ : ByteArray).size, (((⟨#[c]⟩ : ByteArray)[0]'h).toNat : Int) = (c.toNat : Int) := fun _ => rfl
  have hA : allD ⟨#[c]⟩ = digitB (c.toNat : Int) := by simp [allD, bytesOf]
  have hP : paramB ⟨#[c]⟩ = (digitB (c.toNat : Int) || setB (c.toNat : Int) || nameB ⟨#[c]⟩) := by
    unfold paramB
    rw [hb0, show (⟨#[c]⟩ : ByteArray).size = 1 from rfl]
    simp
  have HA := Aside0.mk hA
  rw [hP]
  clear hA hP
  generalize hN : nameB ⟨#[c]⟩ = nm
  have HN := Aside0.mk hN
  clear hN hb0
  by_cases h1 : digitB (c.toNat : Int) = true
  · go_enter Tryd.func51, Tryd.ntmps51
    go_wp2_with (go_at_call 46; refine (digit_any _ _).mono ?_; rintro e w' ⟨rfl, rfl⟩)
    go_ret
    exact ⟨ret_b (by simp [h1]), Below.refl _ _⟩
  · replace h1 := Bool.eq_false_iff.mpr h1
    by_cases h2 : setB (c.toNat : Int) = true
    · go_enter Tryd.func51, Tryd.ntmps51
      go_wp2_with (first
        | (go_at_call 46; refine (digit_any _ _).mono ?_; rintro e w' ⟨rfl, rfl⟩)
        | (go_at_call 69; refine (contains_set _ _).mono ?_; rintro e w' ⟨rfl, rfl⟩))
      go_ret
      exact ⟨ret_b (by simp [h2]), Below.refl _ _⟩
    · replace h2 := Bool.eq_false_iff.mpr h2
      cases nm with
      | true =>
        go_enter Tryd.func51, Tryd.ntmps51
        go_wp2_with (first
          | (go_at_call 46; refine (digit_any _ _).mono ?_; rintro e w' ⟨rfl, rfl⟩)
          | (go_at_call 69; refine (contains_set _ _).mono ?_; rintro e w' ⟨rfl, rfl⟩)
          | (go_at_call 32; refine (name_any _ _ (by show (1 : Nat) ≤ 140737488355328; omega)).mono ?_; rintro e w' ⟨rfl, rfl⟩; rw [HN.out]))
        go_ret
        exact ⟨ret_b (by simp), Below.refl _ _⟩
      | false =>
        go_enter Tryd.func51, Tryd.ntmps51
        go_wp2_with (first
          | (go_at_call 46; refine (digit_any _ _).mono ?_; rintro e w' ⟨rfl, rfl⟩)
          | (go_at_call 69; refine (contains_set _ _).mono ?_; rintro e w' ⟨rfl, rfl⟩)
          | (go_at_call 32; refine (name_any _ _ (by show (1 : Nat) ≤ 140737488355328; omega)).mono ?_; rintro e w' ⟨rfl, rfl⟩; rw [HN.out])
          | (go_at_call 70; refine (containsFunc_any _ _).mono ?_; rintro e w1 ⟨rfl, hB⟩; rw [HA.out]; have HB := Aside0.mk hB; clear hB))
        go_ret
        exact ⟨ret_b (by simp [h1, h2]), HB.out⟩
set_option maxHeartbeats 1000000 in
set_option maxRecDepth 100000 in
theorem param_many (s : ByteArray) (w : World) (hs : s.size ≤ 140737488355328) (h1 : s.size ≠ 1) : Calls Tryd.prog 51 #[.string s] w fun e w' => e = .returned (.bool (paramB s)) ∧ Below w.heap.size w w' := by
  have hP : paramB s = (nameB s || (allD s && decide (1 < s.size) && decide (s.size ≤ 3) && bt s 0 != 48)) := by
    unfold paramB
    simp [h1]
  rw [hP]
  clear hP
  have hn1 : ((s.size : Int) == 1) = false := by simp; omega
  have hn2 : (s.size == 1) = false := by simp; omega
  clear h1
  generalize hN : nameB s = nm
  have HN := Aside0.mk hN
  clear hN
  generalize hD : allD s = ad
  have HD := Aside0.mk hD
  clear hD
  cases nm with
  | true =>
    go_enter Tryd.func51, Tryd.ntmps51
    go_wp2_with (first
      | (go_at_call 32; refine (name_any _ _ hs).mono ?_; rintro e w' ⟨rfl, rfl⟩; rw [HN.out]))
    go_ret
    exact ⟨ret_b (by simp), Below.refl _ _⟩
  | false =>
    by_cases h2 : 1 < s.size
    · have hbt : ∀ h : 0 < s.size, ((s[0]'h).toNat : Int) = bt s 0 := bt_nat s 0
      have hi1 : (0 : Int) < (s.size : Int) := by omega
      have hi2 : 0 < s.size := by omega
      have hd1 : decide ((1 : Int) < (s.size : Int)) = true := by simp; omega
      by_cases h3 : s.size ≤ 3
      · have hd3 : decide ((s.size : Int) ≤ 3) = true := by simp; omega
        cases ad
        all_goals
          go_enter Tryd.func51, Tryd.ntmps51
          go_wp2_with (first
            | (go_at_call 32; refine (name_any _ _ hs).mono ?_; rintro e w' ⟨rfl, rfl⟩; rw [HN.out])
            | (go_at_call 70; refine (containsFunc_any _ _).mono ?_; rintro e w1 ⟨rfl, hB⟩; rw [HD.out]; have HB := Aside0.mk hB; clear hB))
          go_ret
          exact ⟨ret_b (by simp [h2, h3]), HB.out⟩
      · have hd3 : decide ((s.size : Int) ≤ 3) = false := by simp; omega
        cases ad
        all_goals
          go_enter Tryd.func51, Tryd.ntmps51
          go_wp2_with (first
            | (go_at_call 32; refine (name_any _ _ hs).mono ?_; rintro e w' ⟨rfl, rfl⟩; rw [HN.out])
            | (go_at_call 70; refine (containsFunc_any _ _).mono ?_; rintro e w1 ⟨rfl, hB⟩; rw [HD.out]; have HB := Aside0.mk hB; clear hB))
          go_ret
          exact ⟨ret_b (by simp [h2, h3]), HB.out⟩
    · have hd1 : decide ((1 : Int) < (s.size : Int)) = false := by simp; omega
      cases ad
      all_goals
        go_enter Tryd.func51, Tryd.ntmps51
        go_wp2_with (first
          | (go_at_call 32; refine (name_any _ _ hs).mono ?_; rintro e w' ⟨rfl, rfl⟩; rw [HN.out])
          | (go_at_call 70; refine (containsFunc_any _ _).mono ?_; rintro e w1 ⟨rfl, hB⟩; rw [HD.out]; have HB := Aside0.mk hB; clear hB))
        go_ret
        exact ⟨ret_b (by simp [h2]), HB.out⟩
theorem one_byte {s : ByteArray} (h : s.size = 1) : ∃ c, s = ⟨#[c]⟩ := by
  obtain ⟨⟨l⟩⟩ := s
  match l, h with
  | [c], _ => exact ⟨c, rfl⟩
theorem param_any (s : ByteArray) (w : World) (hs : s.size ≤ 140737488355328) : Calls Tryd.prog 51 #[.string s] w fun e w' => e = .returned (.bool (paramB s)) ∧ Below w.heap.size w w' := by
  by_cases h1 : s.size = 1
  · obtain ⟨c, rfl⟩ := one_byte h1
    exact param_one c w
  · exact param_many s w hs h1
end Go.Proofs.YtkecpfjmdokieaaDoor.Class
namespace Go.Proofs.YtkecpfjmdokieaaDoor.P
open Go.RowKit Go.Proofs.YtkecpfjmdokieaaDoorW.PrintWords Go.Proofs.YtkecpfjmdokieaaDoorW.PrintLast Go.Proofs.YtkecpfjmdokieaaDoor.Base Go.Proofs.YtkecpfjmdokieaaDoor.Class
set_option linter.unusedVariables false
def class_Name.f (a0 : ByteArray) : Option Bool := if a0.size ≤ 140737488355328 then some (nameB a0) else none
theorem class_Name.calls (a0 : ByteArray) (r : Bool) (w : World) (h : class_Name.f a0 = some r) : Calls Tryd.prog 32 #[.string a0] w fun e w' => e = .returned (.bool r) ∧ Below w.heap.size w w' := by
  unfold class_Name.f at h
  split at h
  · rename_i h1
    injection h with h
    subst h
    refine (name_any a0 w h1).mono ?_
    rintro e w' ⟨rfl, rfl⟩
    exact ⟨rfl, Below.refl _ _⟩
  · cases h
def class_Param.f (a0 : ByteArray) : Option Bool := if a0.size ≤ 140737488355328 then some (paramB a0) else none
theorem class_Param.calls (a0 : ByteArray) (r : Bool) (w : World) (h : class_Param.f a0 = some r) : Calls Tryd.prog 51 #[.string a0] w fun e w' => e = .returned (.bool r) ∧ Below w.heap.size w w' := by
  unfold class_Param.f at h
  split at h
  · rename_i h1
    injection h with h
    subst h
    exact param_any a0 w h1
  · cases h
def class_Bare.f (a0 : Int) : Option Bool := if 0 ≤ a0 then (if a0 ≤ 255 then some (bareB a0) else none) else none
theorem class_Bare.calls (a0 : Int) (r : Bool) (w : World) (h : class_Bare.f a0 = some r) : Calls Tryd.prog 50 #[.int .u8 a0] w fun e w' => e = .returned (.bool r) ∧ Below w.heap.size w w' := by
  unfold class_Bare.f at h
  split at h
  · rename_i h1
    split at h
    · rename_i h2
      injection h with h
      subst h
      refine (bare_any a0 w h1 h2).mono ?_
      rintro e w' ⟨rfl, rfl⟩
      exact ⟨rfl, Below.refl _ _⟩
    · cases h
  · cases h
end Go.Proofs.YtkecpfjmdokieaaDoor.P
namespace Go.Proofs.YtkecpfjmdokieaaDoor.Word
open Go Go.Lib
set_option linter.unusedVariables false
theorem decN (n b0 b1 b2 b3 : Nat) (h0 : 128 ≤ b0) (hn : 0 < n) : 128 ≤ (decodeN n b0 b1 b2 b3).1 ∧ 1 ≤ (decodeN n b0 b1 b2 b3).2 ∧ ((decodeN n b0 b1 b2 b3).2 ≤ 4) ∧ (1 < (decodeN n b0 b1 b2 b3).2 → 1 < n ∧ 128 ≤ b1) ∧ (2 < (decodeN n b0 b1 b2 b3).2 → 2 < n ∧ 128 ≤ b2) ∧ (3 < (decodeN n b0 b1 b2 b3).2 → 3 < n ∧ 128 ≤ b3) := by
  unfold decodeN
  repeat' split
  all_goals (refine ⟨?_, ?_, ?_, ?_, ?_, ?_⟩ <;> simp only [] <;> (try intro h) <;> omega)
theorem decV (n b0 b1 b2 b3 : Nat) : ((decodeN n b0 b1 b2 b3).1 < 55296 ∨ (57343 < (decodeN n b0 b1 b2 b3).1 ∧ (decodeN n b0 b1 b2 b3).1 ≤ 1114111)) := by
  unfold decodeN
  repeat' split
  all_goals (simp only []; omega)
theorem skipL (s : ByteArray) (pos : Nat) (hp : pos < s.size) (hb : 128 ≤ (s.data.toList.getD pos 0).toNat) :
    128 ≤ (Utf8.decode s pos).1 ∧ 1 ≤ (Utf8.decode s pos).2 ∧ ∀ j, pos ≤ j → j < pos + (Utf8.decode s pos).2 → j < s.size ∧ 128 ≤ (s.data.toList.getD j 0).toNat := by
  have hl : s.data.toList.length = s.size := by rw [Array.length_toList]; rfl
  rw [decode_N]
  obtain ⟨k1, k2, k3, k4, k5, k6⟩ := decN (s.data.toList.length - pos) (s.data.toList.getD pos 0).toNat (s.data.toList.getD (pos + 1) 0).toNat (s.data.toList.getD (pos + 2) 0).toNat (s.data.toList.getD (pos + 3) 0).toNat hb (by omega)
  refine ⟨k1, k2, fun j h1 h2 => ?_⟩
  generalize (decodeN (s.data.toList.length - pos) (s.data.toList.getD pos 0).toNat (s.data.toList.getD (pos + 1) 0).toNat (s.data.toList.getD (pos + 2) 0).toNat (s.data.toList.getD (pos + 3) 0).toNat).2 = K at *
  have hj : j = pos ∨ j = pos + 1 ∨ j = pos + 2 ∨ j = pos + 3 := by omega
  rcases hj with rfl | rfl | rfl | rfl
  · exact ⟨hp, hb⟩
  · have := k4 (by omega); exact ⟨by omega, this.2⟩
  · have := k5 (by omega); exact ⟨by omega, this.2⟩
  · have := k6 (by omega); exact ⟨by omega, this.2⟩
theorem rune_ok (s : ByteArray) (pos : Nat) : (Utf8.decode s pos).1 < 55296 ∨ (57343 < (Utf8.decode s pos).1 ∧ (Utf8.decode s pos).1 ≤ 1114111) := by
  rw [decode_N]
  exact decV _ _ _ _ _
abbrev CH : ByteArray := ⟨#[34, 36, 39, 92, 96, 125]⟩
theorem ch_low (b : UInt8) (h : 128 ≤ b.toNat) : CH.data.toList.contains b = false := by
  have : ∀ c ∈ CH.data.toList, c.toNat < 128 := by decide
  cases hc : CH.data.toList.contains b with
  | false => rfl
  | true =>
    have hm := List.contains_iff_mem.1 hc
    have := this b hm
    omega
end Go.Proofs.YtkecpfjmdokieaaDoor.Word
namespace Go.Proofs.YtkecpfjmdokieaaDoor.Seq
open Go.RowKit Go.Proofs.YtkecpfjmdokieaaDoorW.PrintWords Go.Proofs.YtkecpfjmdokieaaDoorW.PrintLast Go.Proofs.YtkecpfjmdokieaaDoor.Base
set_option linter.unusedVariables false
section
variable {P : Program} {ops : Array Oper} {Q : Exit → Act → World → Prop} {S : World → Prop}
def opsAt (ops : Array Oper) (r : List (Nat × Option Tmp × K)) : List Oper := r.filterMap fun x => ops[x.1]?
def lastsB (ops : Array Oper) : List (Nat × Option Tmp × K) → Bool
  | [] => true
  | (i, _, .last) :: r => decide (i < ops.size) && lastsB ops r
  | _ => false
theorem s_tailL : ∀ (r : List (Nat × Option Tmp × K)) {a : Act} {w : World}, lastsB ops r = true → wpList P ops Q (opsAt ops r) a w → wpSeq P ops Q S r a w
  | [], a, w, ht, h => h
  | (i, N, .last) :: r, a, w, ht, h => by
    simp only [lastsB, Bool.and_eq_true, decide_eq_true_eq] at ht
    obtain ⟨hlt, ht⟩ := ht
    have ho : ops[i]? = some ops[i] := Array.getElem?_eq_getElem hlt
    have hd : opsAt ops ((i, N, K.last) :: r) = ops[i] :: opsAt ops r := by
      unfold opsAt
      rw [List.filterMap_cons]
      simp only [ho]
    rw [hd] at h
    unfold wpSeq wpOp
    simp only [ho]
    unfold wpList at h
    split
    · rename_i hw
      simp only [hw, if_true] at h
      exact h.imp (Oper.wp_mono fun a w hk => s_tailL r ht hk) id
    · rename_i hw
      simp only [hw] at h
      exact s_tailL r ht h
  | (i, _, .pure) :: r, a, w, ht, h => by simp [lastsB] at ht
  | (i, _, .held) :: r, a, w, ht, h => by simp [lastsB] at ht
  | (i, _, .one) :: r, a, w, ht, h => by simp [lastsB] at ht
theorem s_oneL {i : Nat} {N : Option Tmp} {r : List (Nat × Option Tmp × K)} {o : Oper} {a : Act} {w : World} (ho : ops[i]? = some o)
    (h : ∀ K : Act → World → Prop, Shut (∀ a' w', S w' → wpSeq P ops Q S r a' w' → K a' w') → wpList P ops (Exit.then K Q) [o] a w) (hw : Region.wanted o (yielded ops a.tmps) = true) : wpSeq P ops Q S ((i, N, .one) :: r) a w := by
  unfold wpSeq wpOp
  simp only [ho, hw, if_true]
  have hK : Shut (∀ a' w', S w' → wpSeq P ops Q S r a' w' → (fun a' w' => (S w → S w') ∧ wpSeq P ops Q S r a' w') a' w') := fun a' w' hS hk => ⟨fun _ => hS, hk⟩
  have h1 := h _ hK
  unfold wpList at h1
  simp only [hw, if_true] at h1
  exact h1
end
end Go.Proofs.YtkecpfjmdokieaaDoor.Seq
namespace Go.Proofs.YtkecpfjmdokieaaDoor.Word
open Go.RowKit Go.Proofs.YtkecpfjmdokieaaDoorW.PrintWords Go.Proofs.YtkecpfjmdokieaaDoorW.PrintLast Go.Proofs.YtkecpfjmdokieaaDoor.Base Go.Proofs.YtkecpfjmdokieaaDoor.Seq
set_option linter.unusedVariables false
set_option linter.unusedSimpArgs false
theorem ch_idx (b : UInt8) (h : 128 ≤ b.toNat) (k : Nat) : Lib.indexByte (CH.extract k 6).data.toList b = -1 := by
  have key : ∀ (l : List UInt8), (∀ c ∈ l, c.toNat < 128) → Lib.indexByte l b = -1 := by
    intro l
    induction l with
    | nil => intro _; rfl
    | cons c l ih =>
      intro hl
      have h1 := ih (fun x hx => hl x (List.mem_cons_of_mem _ hx))
      unfold Lib.indexByte
      have h2 := hl c List.mem_cons_self
      rw [if_neg (by
        intro e
        have := beq_iff_eq.1 e
        subst this
        omega), h1]
      rfl
  have hlow : ∀ c ∈ CH.data.toList, c.toNat < 128 := by decide
  exact key _ (fun c hc => hlow c (mem_extract hc))
set_option maxHeartbeats 4000000 in
set_option maxRecDepth 100000 in
theorem irune_far1 (r : Int) (h128 : 128 ≤ r) (hv : Utf8.valid r = true) (hv2 : Lib.validRune r = true) (hne : r ≠ 65533) (w : World) (hs : (Utf8.encode r).size = 2) :
    Calls Tryd.prog 86 #[.string CH, .int .i32 r] w fun e w' => e = .returned (.int .i64 (-1)) ∧ Below w.heap.size w w' := by
  obtain ⟨z1, z2, z3⟩ := encode_facts r hv h128
  generalize hE : Utf8.encode r = E at *
  have hlt : 1 < E.size := by omega
  have z4 : 128 ≤ (E[1]'hlt).toNat := by
    have := z3 (by omega)
    simpa only [hs] using this
  have bd : decide (r < 128) = false := decide_eq_false (by omega)
  have b0 : decide (0 ≤ r) = true := decide_eq_true (by omega)
  have bn : (r == 65533) = false := beq_eq_false_iff_ne.2 hne
  have HV := Aside0.mk hv2
  have HE := Aside0.mk hE
  have HS := Aside0.mk hs
  clear hv hv2 hne z3 h128 z1 z2 hE hs
  go_enter Tryd.func86, Tryd.ntmps86
  go_wp2_with (go_at_call 96; go_loud (with_reducible refine (Tryd.utf8_ValidRune r _).mono ?_); rintro e w1 ⟨rfl, rfl⟩; rw [HV.out])
  go_step3
  go_wp2
  rw [HE.out]
  have hs := HS.out
  rw [show wrap64 ((E.size : Int) - 1) = 1 by unfold wrap64; omega]
  go_loopw [9] (fun v9 wr => v9 = .int .i64 1 ∧ wr = w1) (fun _ _ => 0)
  case atStart => exact ⟨rfl, rfl⟩
  case round =>
    obtain ⟨rfl, hw⟩ := hrel
    subst hw
    go_upto_region 6 with (fail)
    go_step3
    go_upto_region 6 with (fail)
    refine region_seq (fun w_ => Below wr.heap.size wr w_) []
      [(0, some 27, .pure), (1, some 28, .pure), (2, some 29, .pure), (3, some 30, .pure), (4, some 31, .pure), (5, some 32, .pure), (6, some 33, .pure)] (by kernel_rfl) (by kernel_rfl) ?_
    have hS := below_drew (Below.refl wr.heap.size wr)
    repeat (first
      | (refine s_pure (v := ?_) (a' := ?_) rfl (fun _ _ _ h => h) rfl ?hy ?ha ?_; (case hy => (intro w_; go_simp; with_reducible rfl)); (case ha => (simp only [Act.put, List.setIfInBounds_toArray, List.set_cons_zero, List.set_cons_succ, i64_w, i32_w]; rfl)))
      | (refine s_held (v := ?_) (a' := ?_) hS rfl (fun _ _ _ h => h) rfl ?hy ?ha ?_; (case hy => (intro w_ hb_; go_simp; with_reducible rfl)); (case ha => (simp only [Act.put, List.setIfInBounds_toArray, List.set_cons_zero, List.set_cons_succ, i64_w, i32_w]; rfl))))
    refine s_tailL _ (by kernel_rfl) ?_
    simp only [opsAt, List.filterMap_nil]
    have HB1 := Aside0.mk hS
    clear hS
    generalize wr.drew = w2 at *
    have hq : ((((CH[1]'(by decide)).toNat : Nat) : Int) != ((E[1]'hlt).toNat : Int)) = true := by
      rw [bne_iff_ne]
      intro e
      have : (CH[1]'(by decide)).toNat = 36 := rfl
      omega
    have hw2 : wrap64 2 = 2 := by unfold wrap64; omega
    have HX := Aside0.mk (ch_idx (E[1]'hlt) z4 2)
    have HY := Aside0.mk (show ((E[1]'hlt).toNat : Int).toNat.toUInt8 = E[1]'hlt by simp)
    go_upto_region 7 with (fail)
    refine region_seq (fun w_ => Below w2.heap.size w2 w_) []
      [(0, some 34, .pure), (1, some 35, .pure), (2, some 36, .pure), (3, some 37, .pure), (4, some 38, .pure), (5, some 39, .pure), (6, some 40, .pure), (7, some 41, .one), (8, some 11, .pure)] (by kernel_rfl) (by kernel_rfl) ?_
    have hS := below_drew (Below.refl w2.heap.size w2)
    repeat (first
      | (refine s_pure (v := ?_) (a' := ?_) rfl (fun _ _ _ h => h) rfl ?hy ?ha ?_; (case hy => (intro w_; go_simp; with_reducible rfl)); (case ha => (simp only [Act.put, List.setIfInBounds_toArray, List.set_cons_zero, List.set_cons_succ, i64_w, i32_w]; rfl)))
      | (refine s_held (v := ?_) (a' := ?_) hS rfl (fun _ _ _ h => h) rfl ?hy ?ha ?_; (case hy => (intro w_ hb_; go_simp; with_reducible rfl)); (case ha => (simp only [Act.put, List.setIfInBounds_toArray, List.set_cons_zero, List.set_cons_succ, i64_w, i32_w]; rfl))))
    refine s_oneL rfl (fun K hK => ?_) rfl
    go_wp2_with (go_at_call 58; go_loud (with_reducible refine (Tryd.strings_IndexByte _ _ _).mono ?_); rintro e w7 ⟨rfl, rfl⟩; rw [HY.out]; go_loud (rw [HX.out]))
    refine hK _ _ hS ?_
    clear hK
    repeat (first
      | (refine s_pure (v := ?_) (a' := ?_) rfl (fun _ _ _ h => h) rfl ?hy ?ha ?_; (case hy => (intro w_; go_simp; with_reducible rfl)); (case ha => (simp only [Act.put, List.setIfInBounds_toArray, List.set_cons_zero, List.set_cons_succ, i64_w, i32_w]; rfl)))
      | (refine s_held (v := ?_) (a' := ?_) hS rfl (fun _ _ _ h => h) rfl ?hy ?ha ?_; (case hy => (intro w_ hb_; go_simp; with_reducible rfl)); (case ha => (simp only [Act.put, List.setIfInBounds_toArray, List.set_cons_zero, List.set_cons_succ, i64_w, i32_w]; rfl))))
    refine s_tailL _ (by kernel_rfl) ?_
    simp only [opsAt, List.filterMap_nil]
    have HB2 := Aside0.mk (HB1.out.trans (below_sub hS HB1.out.size))
    clear hS
    go_wp2
    rw [Exit.noGoto_ret]
    simp +zetaDelta only [Exit.noGoto_ret, Exit.inBlock, Exit.then]
    go_ret
    exact ⟨rfl, HB2.out⟩
set_option maxHeartbeats 4000000 in
set_option maxRecDepth 100000 in
theorem irune_far2 (r : Int) (h128 : 128 ≤ r) (hv : Utf8.valid r = true) (hv2 : Lib.validRune r = true) (hne : r ≠ 65533) (w : World) (hs : (Utf8.encode r).size = 3) :
    Calls Tryd.prog 86 #[.string CH, .int .i32 r] w fun e w' => e = .returned (.int .i64 (-1)) ∧ Below w.heap.size w w' := by
  obtain ⟨z1, z2, z3⟩ := encode_facts r hv h128
  generalize hE : Utf8.encode r = E at *
  have hlt : 2 < E.size := by omega
  have z4 : 128 ≤ (E[2]'hlt).toNat := by
    have := z3 (by omega)
    simpa only [hs] using this
  have bd : decide (r < 128) = false := decide_eq_false (by omega)
  have b0 : decide (0 ≤ r) = true := decide_eq_true (by omega)
  have bn : (r == 65533) = false := beq_eq_false_iff_ne.2 hne
  have HV := Aside0.mk hv2
  have HE := Aside0.mk hE
  have HS := Aside0.mk hs
  clear hv hv2 hne z3 h128 z1 z2 hE hs
  go_enter Tryd.func86, Tryd.ntmps86
  go_wp2_with (go_at_call 96; go_loud (with_reducible refine (Tryd.utf8_ValidRune r _).mono ?_); rintro e w1 ⟨rfl, rfl⟩; rw [HV.out])
  go_step3
  go_wp2
  rw [HE.out]
  have hs := HS.out
  rw [show wrap64 ((E.size : Int) - 1) = 2 by unfold wrap64; omega]
  go_loopw [9] (fun v9 wr => v9 = .int .i64 2 ∧ wr = w1) (fun _ _ => 0)
  case atStart => exact ⟨rfl, rfl⟩
  case round =>
    obtain ⟨rfl, hw⟩ := hrel
    subst hw
    go_upto_region 6 with (fail)
    go_step3
    go_upto_region 6 with (fail)
    refine region_seq (fun w_ => Below wr.heap.size wr w_) []
      [(0, some 27, .pure), (1, some 28, .pure), (2, some 29, .pure), (3, some 30, .pure), (4, some 31, .pure), (5, some 32, .pure), (6, some 33, .pure)] (by kernel_rfl) (by kernel_rfl) ?_
    have hS := below_drew (Below.refl wr.heap.size wr)
    repeat (first
      | (refine s_pure (v := ?_) (a' := ?_) rfl (fun _ _ _ h => h) rfl ?hy ?ha ?_; (case hy => (intro w_; go_simp; with_reducible rfl)); (case ha => (simp only [Act.put, List.setIfInBounds_toArray, List.set_cons_zero, List.set_cons_succ, i64_w, i32_w]; rfl)))
      | (refine s_held (v := ?_) (a' := ?_) hS rfl (fun _ _ _ h => h) rfl ?hy ?ha ?_; (case hy => (intro w_ hb_; go_simp; with_reducible rfl)); (case ha => (simp only [Act.put, List.setIfInBounds_toArray, List.set_cons_zero, List.set_cons_succ, i64_w, i32_w]; rfl))))
    refine s_tailL _ (by kernel_rfl) ?_
    simp only [opsAt, List.filterMap_nil]
    have HB1 := Aside0.mk hS
    clear hS
    generalize wr.drew = w2 at *
    have hq : ((((CH[2]'(by decide)).toNat : Nat) : Int) != ((E[2]'hlt).toNat : Int)) = true := by
      rw [bne_iff_ne]
      intro e
      have : (CH[2]'(by decide)).toNat = 39 := rfl
      omega
    have hw2 : wrap64 3 = 3 := by unfold wrap64; omega
    have HX := Aside0.mk (ch_idx (E[2]'hlt) z4 3)
    have HY := Aside0.mk (show ((E[2]'hlt).toNat : Int).toNat.toUInt8 = E[2]'hlt by simp)
    go_upto_region 7 with (fail)
    refine region_seq (fun w_ => Below w2.heap.size w2 w_) []
      [(0, some 34, .pure), (1, some 35, .pure), (2, some 36, .pure), (3, some 37, .pure), (4, some 38, .pure), (5, some 39, .pure), (6, some 40, .pure), (7, some 41, .one), (8, some 11, .pure)] (by kernel_rfl) (by kernel_rfl) ?_
    have hS := below_drew (Below.refl w2.heap.size w2)
    repeat (first
      | (refine s_pure (v := ?_) (a' := ?_) rfl (fun _ _ _ h => h) rfl ?hy ?ha ?_; (case hy => (intro w_; go_simp; with_reducible rfl)); (case ha => (simp only [Act.put, List.setIfInBounds_toArray, List.set_cons_zero, List.set_cons_succ, i64_w, i32_w]; rfl)))
      | (refine s_held (v := ?_) (a' := ?_) hS rfl (fun _ _ _ h => h) rfl ?hy ?ha ?_; (case hy => (intro w_ hb_; go_simp; with_reducible rfl)); (case ha => (simp only [Act.put, List.setIfInBounds_toArray, List.set_cons_zero, List.set_cons_succ, i64_w, i32_w]; rfl))))
    refine s_oneL rfl (fun K hK => ?_) rfl
    go_wp2_with (go_at_call 58; go_loud (with_reducible refine (Tryd.strings_IndexByte _ _ _).mono ?_); rintro e w7 ⟨rfl, rfl⟩; rw [HY.out]; go_loud (rw [HX.out]))
    refine hK _ _ hS ?_
    clear hK
    repeat (first
      | (refine s_pure (v := ?_) (a' := ?_) rfl (fun _ _ _ h => h) rfl ?hy ?ha ?_; (case hy => (intro w_; go_simp; with_reducible rfl)); (case ha => (simp only [Act.put, List.setIfInBounds_toArray, List.set_cons_zero, List.set_cons_succ, i64_w, i32_w]; rfl)))
      | (refine s_held (v := ?_) (a' := ?_) hS rfl (fun _ _ _ h => h) rfl ?hy ?ha ?_; (case hy => (intro w_ hb_; go_simp; with_reducible rfl)); (case ha => (simp only [Act.put, List.setIfInBounds_toArray, List.set_cons_zero, List.set_cons_succ, i64_w, i32_w]; rfl))))
    refine s_tailL _ (by kernel_rfl) ?_
    simp only [opsAt, List.filterMap_nil]
    have HB2 := Aside0.mk (HB1.out.trans (below_sub hS HB1.out.size))
    clear hS
    go_wp2
    rw [Exit.noGoto_ret]
    simp +zetaDelta only [Exit.noGoto_ret, Exit.inBlock, Exit.then]
    go_ret
    exact ⟨rfl, HB2.out⟩
set_option maxHeartbeats 4000000 in
set_option maxRecDepth 100000 in
theorem irune_far3 (r : Int) (h128 : 128 ≤ r) (hv : Utf8.valid r = true) (hv2 : Lib.validRune r = true) (hne : r ≠ 65533) (w : World) (hs : (Utf8.encode r).size = 4) :
    Calls Tryd.prog 86 #[.string CH, .int .i32 r] w fun e w' => e = .returned (.int .i64 (-1)) ∧ Below w.heap.size w w' := by
  obtain ⟨z1, z2, z3⟩ := encode_facts r hv h128
  generalize hE : Utf8.encode r = E at *
  have hlt : 3 < E.size := by omega
  have z4 : 128 ≤ (E[3]'hlt).toNat := by
    have := z3 (by omega)
    simpa only [hs] using this
  have bd : decide (r < 128) = false := decide_eq_false (by omega)
  have b0 : decide (0 ≤ r) = true := decide_eq_true (by omega)
  have bn : (r == 65533) = false := beq_eq_false_iff_ne.2 hne
  have HV := Aside0.mk hv2
  have HE := Aside0.mk hE
  have HS := Aside0.mk hs
  clear hv hv2 hne z3 h128 z1 z2 hE hs
  go_enter Tryd.func86, Tryd.ntmps86
  go_wp2_with (go_at_call 96; go_loud (with_reducible refine (Tryd.utf8_ValidRune r _).mono ?_); rintro e w1 ⟨rfl, rfl⟩; rw [HV.out])
  go_step3
  go_wp2
  rw [HE.out]
  have hs := HS.out
  rw [show wrap64 ((E.size : Int) - 1) = 3 by unfold wrap64; omega]
  go_loopw [9] (fun v9 wr => v9 = .int .i64 3 ∧ wr = w1) (fun _ _ => 0)
  case atStart => exact ⟨rfl, rfl⟩
  case round =>
    obtain ⟨rfl, hw⟩ := hrel
    subst hw
    go_upto_region 6 with (fail)
    go_step3
    go_upto_region 6 with (fail)
    refine region_seq (fun w_ => Below wr.heap.size wr w_) []
      [(0, some 27, .pure), (1, some 28, .pure), (2, some 29, .pure), (3, some 30, .pure), (4, some 31, .pure), (5, some 32, .pure), (6, some 33, .pure)] (by kernel_rfl) (by kernel_rfl) ?_
    have hS := below_drew (Below.refl wr.heap.size wr)
    repeat (first
      | (refine s_pure (v := ?_) (a' := ?_) rfl (fun _ _ _ h => h) rfl ?hy ?ha ?_; (case hy => (intro w_; go_simp; with_reducible rfl)); (case ha => (simp only [Act.put, List.setIfInBounds_toArray, List.set_cons_zero, List.set_cons_succ, i64_w, i32_w]; rfl)))
      | (refine s_held (v := ?_) (a' := ?_) hS rfl (fun _ _ _ h => h) rfl ?hy ?ha ?_; (case hy => (intro w_ hb_; go_simp; with_reducible rfl)); (case ha => (simp only [Act.put, List.setIfInBounds_toArray, List.set_cons_zero, List.set_cons_succ, i64_w, i32_w]; rfl))))
    refine s_tailL _ (by kernel_rfl) ?_
    simp only [opsAt, List.filterMap_nil]
    have HB1 := Aside0.mk hS
    clear hS
    generalize wr.drew = w2 at *
    have hq : ((((CH[3]'(by decide)).toNat : Nat) : Int) != ((E[3]'hlt).toNat : Int)) = true := by
      rw [bne_iff_ne]
      intro e
      have : (CH[3]'(by decide)).toNat = 92 := rfl
      omega
    have hw2 : wrap64 4 = 4 := by unfold wrap64; omega
    have HX := Aside0.mk (ch_idx (E[3]'hlt) z4 4)
    have HY := Aside0.mk (show ((E[3]'hlt).toNat : Int).toNat.toUInt8 = E[3]'hlt by simp)
    go_upto_region 7 with (fail)
    refine region_seq (fun w_ => Below w2.heap.size w2 w_) []
      [(0, some 34, .pure), (1, some 35, .pure), (2, some 36, .pure), (3, some 37, .pure), (4, some 38, .pure), (5, some 39, .pure), (6, some 40, .pure), (7, some 41, .one), (8, some 11, .pure)] (by kernel_rfl) (by kernel_rfl) ?_
    have hS := below_drew (Below.refl w2.heap.size w2)
    repeat (first
      | (refine s_pure (v := ?_) (a' := ?_) rfl (fun _ _ _ h => h) rfl ?hy ?ha ?_; (case hy => (intro w_; go_simp; with_reducible rfl)); (case ha => (simp only [Act.put, List.setIfInBounds_toArray, List.set_cons_zero, List.set_cons_succ, i64_w, i32_w]; rfl)))
      | (refine s_held (v := ?_) (a' := ?_) hS rfl (fun _ _ _ h => h) rfl ?hy ?ha ?_; (case hy => (intro w_ hb_; go_simp; with_reducible rfl)); (case ha => (simp only [Act.put, List.setIfInBounds_toArray, List.set_cons_zero, List.set_cons_succ, i64_w, i32_w]; rfl))))
    refine s_oneL rfl (fun K hK => ?_) rfl
    go_wp2_with (go_at_call 58; go_loud (with_reducible refine (Tryd.strings_IndexByte _ _ _).mono ?_); rintro e w7 ⟨rfl, rfl⟩; rw [HY.out]; go_loud (rw [HX.out]))
    refine hK _ _ hS ?_
    clear hK
    repeat (first
      | (refine s_pure (v := ?_) (a' := ?_) rfl (fun _ _ _ h => h) rfl ?hy ?ha ?_; (case hy => (intro w_; go_simp; with_reducible rfl)); (case ha => (simp only [Act.put, List.setIfInBounds_toArray, List.set_cons_zero, List.set_cons_succ, i64_w, i32_w]; rfl)))
      | (refine s_held (v := ?_) (a' := ?_) hS rfl (fun _ _ _ h => h) rfl ?hy ?ha ?_; (case hy => (intro w_ hb_; go_simp; with_reducible rfl)); (case ha => (simp only [Act.put, List.setIfInBounds_toArray, List.set_cons_zero, List.set_cons_succ, i64_w, i32_w]; rfl))))
    refine s_tailL _ (by kernel_rfl) ?_
    simp only [opsAt, List.filterMap_nil]
    have HB2 := Aside0.mk (HB1.out.trans (below_sub hS HB1.out.size))
    clear hS
    go_wp2
    rw [Exit.noGoto_ret]
    simp +zetaDelta only [Exit.noGoto_ret, Exit.inBlock, Exit.then]
    go_ret
    exact ⟨rfl, HB2.out⟩
theorem irune_far (r : Int) (h128 : 128 ≤ r) (hv : Utf8.valid r = true) (hv2 : Lib.validRune r = true) (hne : r ≠ 65533) (w : World) :
    Calls Tryd.prog 86 #[.string CH, .int .i32 r] w fun e w' => e = .returned (.int .i64 (-1)) ∧ Below w.heap.size w w' := by
  obtain ⟨z1, z2, _⟩ := encode_facts r hv h128
  have hs : (Utf8.encode r).size = 2 ∨ (Utf8.encode r).size = 3 ∨ (Utf8.encode r).size = 4 := by omega
  rcases hs with hs | hs | hs
  · exact irune_far1 r h128 hv hv2 hne w hs
  · exact irune_far2 r h128 hv hv2 hne w hs
  · exact irune_far3 r h128 hv hv2 hne w hs
set_option maxHeartbeats 4000000 in
set_option maxRecDepth 100000 in
theorem irune_err (w : World) : Calls Tryd.prog 86 #[.string CH, .int .i32 65533] w fun e w' => e = .returned (.int .i64 (-1)) ∧ Below w.heap.size w w' := by
  go_enter Tryd.func86, Tryd.ntmps86
  go_wp2
  go_loopg [] 6 (fun gf wx => ∃ pos : Nat, wx.heap[w.heap.size]? = some (.stringIter CH pos) ∧ Below w.heap.size w wx ∧ pos + gf = 6)
  case atStart => exact ⟨0, World.iter_heap w CH 0, (Below.refl _ w).alloc (Nat.le_refl _) _, rfl⟩
  case round =>
    obtain ⟨pos, hit, hbw, hfu⟩ := hrel
    cases gk with
    | zero =>
      have hnx : ∀ ty, (Instr.next (.pointer (some ⟨w.heap.size, 0, none⟩)) true ty).run Tryd.prog wr = _ := fun ty => Lib.run_next_end_at wr w.heap.size CH pos ty hit (by show ¬ pos < 6; omega)
      go_wp2
      go_ret
      exact ⟨rfl, hbw⟩
    | succ g =>
      have hps : pos < CH.size := by show pos < 6; omega
      have hlow : ∀ k : Fin 6, (CH[k.val]'(by show k.val < 6; exact k.isLt)).toNat < 128 := by decide
      have ha : (CH[pos]'hps).toNat < 128 := hlow ⟨pos, hps⟩
      have hnx : ∀ ty, (Instr.next (.pointer (some ⟨w.heap.size, 0, none⟩)) true ty).run Tryd.prog wr = _ := fun ty => Lib.run_next_ascii_at wr w.heap.size CH pos ty hit hps ha
      obtain ⟨x, hx⟩ : ∃ x : Nat, (CH[pos]'hps).toNat = x := ⟨_, rfl⟩
      rw [hx] at hnx ha
      have hit2 := Lib.iterAt_heap wr w.heap.size CH pos (pos + 1) hit
      have hbw2 := Lib.below_iterAt hbw (k := w.heap.size) (Nat.le_refl _) CH (pos + 1)
      obtain ⟨W, hWd⟩ : ∃ W, wr.iterAt w.heap.size CH (pos + 1) = W := ⟨_, rfl⟩
      rw [hWd] at hnx hit2 hbw2
      have hq : ((x : Int) == 65533) = false := by rw [beq_eq_false_iff_ne]; omega
      clear hit hx
      go_wp2
      go_roundg g
      case measure => omega
      case rel => exact ⟨pos + 1, hit2, hbw2, by omega⟩
end Go.Proofs.YtkecpfjmdokieaaDoor.Word
namespace Go.Proofs.YtkecpfjmdokieaaDoor.Word
open Go.RowKit Go.Proofs.YtkecpfjmdokieaaDoorW.PrintWords Go.Proofs.YtkecpfjmdokieaaDoorW.PrintLast Go.Proofs.YtkecpfjmdokieaaDoor.Base Go.Proofs.YtkecpfjmdokieaaDoor.Seq
set_option linter.unusedVariables false
set_option linter.unusedSimpArgs false
theorem getD_of {l : List UInt8} {j : Nat} {b : UInt8} (h : l[j]? = some b) : l.getD j 0 = b := by
  rw [List.getD_eq_getElem?_getD, h]; rfl
set_option maxHeartbeats 8000000 in
set_option maxRecDepth 100000 in
theorem iany_short (s : ByteArray) (h8 : s.size ≤ 8) (w : World) : Calls Tryd.prog 66 #[.string s, .string CH] w fun e w' => e = .returned (.int .i64 (Lib.indexAny s.data.toList CH.data.toList)) ∧ Below w.heap.size w w' := by
  have hsl : s.data.toList.length = s.size := data_length s
  have HSL := Aside0.mk hsl
  have d8 : decide ((8 : Int) < (s.size : Int)) = false := decide_eq_false (by omega)
  have HD8 := Aside0.mk d8
  clear hsl d8
  go_enter Tryd.func66, Tryd.ntmps66
  go_wp2_with (go_at_call 87; go_loud (with_reducible refine (Tryd.strings_shouldUseASCIISet _ _).mono ?_); rintro e w1 ⟨rfl, hw⟩; rw [hw, HD8.out]; clear hw)
  go_loopg [9, 10] s.size (fun gf _ _ wx => ∃ pos : Nat, Aside0 (wx.heap[w.heap.size]? = some (.stringIter s pos)) ∧ Aside0 (Below w.heap.size w wx) ∧ Aside0 (Lib.NoAny s.data.toList CH.data.toList pos) ∧ pos ≤ s.size ∧ s.size ≤ pos + gf)
  case atStart => exact ⟨0, ⟨World.iter_heap w s 0⟩, ⟨(Below.refl _ w).alloc (Nat.le_refl _) _⟩, ⟨Lib.NoAny.zero _ _⟩, Nat.zero_le _, by omega⟩
  case round =>
    obtain ⟨pos, HIT, HBW, HNA, hp1, hfu⟩ := hrel
    by_cases hps : pos < s.size
    · obtain ⟨g', rfl⟩ : ∃ g', gk = g' + 1 := ⟨gk - 1, by omega⟩
      have hnx : ∀ ty, (Instr.next (.pointer (some ⟨w.heap.size, 0, none⟩)) true ty).run Tryd.prog wr = _ := fun ty => Lib.run_next_any_at wr w.heap.size s pos ty HIT.out hps
      obtain ⟨b, hb⟩ : ∃ b, s.data.toList[pos]? = some b := ⟨_, List.getElem?_eq_getElem (by rw [HSL.out]; exact hps)⟩
      have HB := Aside0.mk hb
      obtain ⟨R, hR⟩ : ∃ R, (Utf8.decode s pos).1 = R := ⟨_, rfl⟩
      obtain ⟨K, hK⟩ : ∃ K, (Utf8.decode s pos).2 = K := ⟨_, rfl⟩
      have hit2 := Lib.iterAt_heap wr w.heap.size s pos (pos + K) HIT.out
      have hbw2 := Lib.below_iterAt HBW.out (k := w.heap.size) (Nat.le_refl _) s (pos + K)
      have HRO := Aside0.mk (rune_ok s pos)
      rw [hR, hK] at hnx
      obtain ⟨W, hWd⟩ : ∃ W, wr.iterAt w.heap.size s (pos + K) = W := ⟨_, rfl⟩
      rw [hWd] at hnx hit2 hbw2
      have HIT2 := Aside0.mk hit2
      have HBW2 := Aside0.mk hbw2
      clear hit2 hbw2 hWd
      by_cases h128 : b.toNat < 128
      · have hsb : (s[pos]'hps) = b := by
          have := hb
          rw [List.getElem?_eq_getElem (by rw [HSL.out]; exact hps)] at this
          injection this with this
        have hd := decode_ascii s pos hps (by rw [hsb]; exact h128)
        rw [hsb] at hd
        have hR1 : R = b.toNat := by rw [← hR, hd]
        have hK1 : K = 1 := by rw [← hK, hd]
        subst hR1
        subst hK1
        clear hR hK hd hsb HRO
        have hcon := Lib.contains_iff_indexByte CH.data.toList b
        have HBK := Aside0.mk (show ((b.toNat : Int)).toNat.toUInt8 = b by simp)
        cases hin : CH.data.toList.contains b with
        | false =>
          rw [hin] at hcon
          have hlt : ¬ ((0 : Int) ≤ Lib.indexByte CH.data.toList b) := of_decide_eq_false hcon.symm
          have HN2 := Aside0.mk (HNA.out.succ HB.out hin)
          clear hcon hin hb
          go_wp2_with (go_at_call 86; go_loud (with_reducible refine (Tryd.strings_IndexRune_ascii CH _ _ (by omega) (by omega)).mono ?_); rintro e w' ⟨rfl, hw⟩; rw [hw, HBK.out]; clear hw)
          go_roundg g'
          case measure => omega
          case rel => exact ⟨pos + 1, HIT2, HBW2, HN2, by omega, by omega⟩
        | true =>
          rw [hin] at hcon
          have hge : (0 : Int) ≤ Lib.indexByte CH.data.toList b := of_decide_eq_true hcon.symm
          have HEQ := Aside0.mk (Lib.indexAny_hit HNA.out HB.out hin)
          clear hcon hin hb
          go_wp2_with (go_at_call 86; go_loud (with_reducible refine (Tryd.strings_IndexRune_ascii CH _ _ (by omega) (by omega)).mono ?_); rintro e w' ⟨rfl, hw⟩; rw [hw, HBK.out]; clear hw)
          go_ret
          exact ⟨by rw [HEQ.out]; rfl, HBW2.out⟩
      · obtain ⟨k1, k2, k3⟩ := skipL s pos hps (by rw [getD_of hb]; omega)
        rw [hR] at k1
        rw [hK] at k2 k3
        rw [hR] at HRO
        have HN2 := Aside0.mk (show Lib.NoAny s.data.toList CH.data.toList (pos + K) from fun j x hj hx => by
          by_cases hjp : j < pos
          · exact HNA.out j x hjp hx
          · have h3 := k3 j (by omega) hj
            rw [getD_of hx] at h3
            exact ch_low x h3.2)
        have hKs : pos + K ≤ s.size := by have := k3 (pos + K - 1) (by omega) (by omega); omega
        have HCR := Aside0.mk (show ∀ W2 : World, Calls Tryd.prog 86 #[.string CH, .int .i32 (R : Int)] W2 fun e w' => e = .returned (.int .i64 (-1)) ∧ Below W2.heap.size W2 w' from fun W2 => by
          by_cases hre : R = 65533
          · subst hre
            exact irune_err W2
          · have hval : ((0 : Int) ≤ (R : Int) ∧ (R : Int) < 55296) ∨ (57343 < (R : Int) ∧ (R : Int) ≤ 1114111) := by have := HRO.out; omega
            exact irune_far (R : Int) (by omega) (by simp only [Utf8.valid]; first | (simp; omega) | (simp only [Bool.or_eq_true, Bool.and_eq_true, decide_eq_true_eq]; omega)) (by simp only [Lib.validRune, decide_eq_true_eq]; omega) (by omega) W2)
        clear hb k3 hR hK HRO h128
        go_wp2_with (go_at_call 86; go_loud (with_reducible refine (HCR.out _).mono ?_); rintro e w2 ⟨rfl, hB⟩; have HIT3 := Aside0.mk ((hB.block _ (Array.getElem?_eq_some_iff.1 HIT2.out).1).trans HIT2.out); have HBW3 := Aside0.mk (HBW2.out.trans (hB.mono HBW2.out.size)); clear hB)
        go_roundg g'
        case measure => omega
        case rel => exact ⟨pos + K, HIT3, HBW3, HN2, by omega, by omega⟩
    · have hnx : ∀ ty, (Instr.next (.pointer (some ⟨w.heap.size, 0, none⟩)) true ty).run Tryd.prog wr = _ := fun ty => Lib.run_next_end_at wr w.heap.size s pos ty HIT.out hps
      have HEQ := Aside0.mk (Lib.indexAny_none (s := s.data.toList) (chars := CH.data.toList) (by rw [HSL.out, show s.size = pos by omega]; exact HNA.out))
      go_wp2
      go_ret
      exact ⟨by rw [HEQ.out]; rfl, HBW.out⟩
theorem iany_any (s : ByteArray) (hs : s.size < 4294967281) (w : World) : Calls Tryd.prog 66 #[.string s, .string CH] w fun e w' => e = .returned (.int .i64 (Lib.indexAny s.data.toList CH.data.toList)) ∧ Below w.heap.size w w' := by
  by_cases h8 : s.size ≤ 8
  · exact iany_short s h8 w
  · refine (Tryd.strings_IndexAny_long (zero_of_info (P := Tryd.prog) (t := 94) (n := 256) (by kernel_rfl)).1 s CH w (by decide) (by omega) hs (by decide) (fun j b hb => by
      have key : ∀ c ∈ CH.data.toList, c.toNat < 128 := by decide
      exact key b (List.mem_of_getElem? hb))).mono ?_
    rintro e w' ⟨rfl, rfl⟩
    exact ⟨rfl, below_alloc (below_alloc (Below.refl _ _) _) _⟩
set_option maxHeartbeats 2000000 in
set_option maxRecDepth 100000 in
theorem cany_any (s : ByteArray) (hs : s.size < 4294967281) (w : World) : Calls Tryd.prog 49 #[.string s, .string CH] w fun e w' => e = .returned (.bool (Lib.containsAny s.data.toList CH.data.toList)) ∧ Below w.heap.size w w' := by
  have HS := Aside0.mk (iany_any s hs w)
  have HE := Aside0.mk (show decide (0 ≤ Lib.indexAny s.data.toList CH.data.toList) = Lib.containsAny s.data.toList CH.data.toList from rfl)
  generalize Lib.indexAny s.data.toList CH.data.toList = v at *
  clear hs
  go_enter Tryd.func49, Tryd.ntmps49
  go_wp2_with (go_at_call 66; go_loud (with_reducible refine HS.out.mono ?_); rintro e w1 ⟨rfl, hB⟩; have HB := Aside0.mk hB; clear hB)
  go_ret
  exact ⟨by rw [← HE.out]; rfl, HB.out⟩
end Go.Proofs.YtkecpfjmdokieaaDoor.Word
namespace Go.Proofs.YtkecpfjmdokieaaDoor.P
open Go.RowKit Go.Proofs.YtkecpfjmdokieaaDoorW.PrintWords Go.Proofs.YtkecpfjmdokieaaDoorW.PrintLast Go.Proofs.YtkecpfjmdokieaaDoor.Base
set_option linter.unusedVariables false
def strings_ContainsAny.f (a0 : ByteArray) (a1 : ByteArray) : Option Bool := if a0.size < 4294967281 then (if a1 = Word.CH then some (Lib.containsAny a0.data.toList Word.CH.data.toList) else none) else none
theorem strings_ContainsAny.calls (a0 : ByteArray) (a1 : ByteArray) (r : Bool) (w : World) (h : strings_ContainsAny.f a0 a1 = some r) : Calls Tryd.prog 49 #[.string a0, .string a1] w fun e w' => e = .returned (.bool r) ∧ Below w.heap.size w w' := by
  unfold strings_ContainsAny.f at h
  split at h
  · rename_i h1
    split at h
    · rename_i h2
      injection h with h
      subst h
      subst h2
      exact Word.cany_any a0 h1 w
    · cases h
  · cases h
end Go.Proofs.YtkecpfjmdokieaaDoor.P
namespace Go.Proofs.YtkecpfjmdokieaaDoor.P
open Go.RowKit Go.Proofs.YtkecpfjmdokieaaDoorW.PrintWords Go.Proofs.YtkecpfjmdokieaaDoorW.PrintLast Go.Proofs.YtkecpfjmdokieaaDoorW.PrintMore
attribute [local go_sem] max2_int min2_int max_two min_two max_three min_three max_four min_four   -- for this text's walks alone
set_option linter.unusedVariables false
set_option linter.unusedSimpArgs false
mutual
def word_literal.j0 : Nat → Int → Bool → Int → Bool → ByteArray → ByteArray → List (S33) → Option (Bool)
  | 0, _, _, _, _, _, _, _ => none
  | k + 1, x1, x14, x103000, x103001, x103002, x103003, x103004 => if x14 = true then (some false) else (if x1 = 2 then (if x103001 = true then (some (x103002.toList != ([] : List UInt8))) else (some false)) else (if x103001 = true then (some true) else (if x1 = 1 then (if x103002.toList = ([] : List UInt8) then (some false) else ((strings_ContainsAny.f x103002 (⟨#[34, 36, 39, 92, 96, 125]⟩ : ByteArray)).bind fun t103 => (some (!t103)))) else (word_literal.l0 k (x103002.size : Int) 0 x103000 x103001 x103002 x103003 x103004))))
def word_literal.l0 : Nat → Int → Int → Int → Bool → ByteArray → ByteArray → List (S33) → Option (Bool)
  | 0, _, _, _, _, _, _, _ => none
  | k + 1, x42, x43, x103000, x103001, x103002, x103003, x103004 => if x43 < x42 then (if 0 ≤ x43 then (if x43 < (x103002.size : Int) then ((class_Bare.f (bt x103002 x43)).bind fun t104 => (if t104 = true then (word_literal.l0 k x42 (wrap64 (x43 + 1)) x103000 x103001 x103002 x103003 x103004) else (some false))) else (none)) else (none)) else (some (x103002.toList != ([] : List UInt8)))
end
def word_literal.f (k : Nat) (a0_0 : Int) (a0_1 : Bool) (a0_2 : ByteArray) (a0_3 : ByteArray) (l0_4 : List (S33)) (a1 : Int) : Option (Bool) := if a0_3.toList = ([] : List UInt8) then (word_literal.j0 k a1 (decide ((l0_4.length : Int) > 0)) a0_0 a0_1 a0_2 a0_3 l0_4) else (word_literal.j0 k a1 true a0_0 a0_1 a0_2 a0_3 l0_4)
set_option maxHeartbeats 8000000 in
set_option maxRecDepth 100000 in
theorem word_literal.calls (k : Nat) (a0_0 : Int) (a0_1 : Bool) (a0_2 : ByteArray) (a0_3 : ByteArray) (A0_4 : Option Addr) (c0_4 : Nat) (l0_4 : List (S33)) (a1 : Int) (r : Bool) (w : World) (hr0_4 : Kd.C k33 w A0_4 l0_4.length l0_4) (hc0_4 : l0_4.length ≤ c0_4) (h : word_literal.f k a0_0 a0_1 a0_2 a0_3 l0_4 a1 = some r) :
    Calls Tryd.prog 35 #[.agg #[.int .i64 a0_0, .bool a0_1, .string a0_2, .string a0_3, .slice A0_4 l0_4.length c0_4], .int .i64 a1] w fun e w' => e = .returned (.bool r) ∧ Below w.heap.size w w' := by
  have hu33 := Tryd.underlying33
  have HR0_4 := Aside0.mk hr0_4
  have HC0_4 := Aside0.mk hc0_4
  clear hr0_4 hc0_4
  have HB := Aside0.mk (Below.refl w.heap.size w)
  have H : (if a0_3.toList = ([] : List UInt8) then (word_literal.j0 k a1 (decide ((l0_4.length : Int) > 0)) a0_0 a0_1 a0_2 a0_3 l0_4) else (word_literal.j0 k a1 true a0_0 a0_1 a0_2 a0_3 l0_4)) = some r := h
  clear h
  have HC3 := Aside0.mk H
  clear H
  go_enter Tryd.func35, Tryd.ntmps35
  go_upto_region 1 with (first | ((with_reducible refine gate_dst (N := 2) rfl ?_); (try (refine gate_guard (by rfl) ?_; dsimp only)); refine box_event ?hg (N := 2) ?hd (cs := #[.int .i64 a0_0, .bool a0_1, .string a0_2, .string a0_3, .slice A0_4 l0_4.length c0_4]) (t := 33) ?hr ?_; (case hd => rfl); (case hg => rfl); (case hr => first | (go_simp; done) | (go_simp; rfl)); intro gb102 hg w4 hbox hb; have n0_ := Aside0.mk (below_step (by repeat (first | (with_reducible first | exact HB.out | apply below_alloc | apply pw_below_drewN | apply below_drew1) | exact HB.out)) hb); have n1_ := Aside0.mk (hbox); have n2_ := Aside0.mk ((by rw [hg]; exact (below_size (by repeat (first | (with_reducible first | exact HB.out | apply below_alloc | apply pw_below_drewN | apply below_drew1) | exact HB.out))) : w.heap.size ≤ gb102)); have n3_ := Aside0.mk ((by rw [hg]; exact (below_size (by repeat (first | (with_reducible first | exact HB.out | apply below_alloc | apply pw_below_drewN | apply below_drew1) | exact HB.out))) : w.heap.size ≤ gb102)); clear HB; have HB := n0_; have BK102 := n1_; have GW102 := n2_; have GE102 := n3_; clear n0_ n1_ n2_ n3_; clear hb hbox hg))
  (try simp only [Act.put, List.setIfInBounds_toArray, List.set_cons_zero, List.set_cons_succ])
  go_cut [14] (fun v14 wc => ∃ (kq : Nat) (x14_2 : Bool), v14 = .bool x14_2 ∧ Aside0 (word_literal.j0 kq a1 x14_2 a0_0 a0_1 a0_2 a0_3 l0_4 = some r) ∧ Aside0 (kq ≤ k) ∧ Aside0 (wc.heap[gb102]? = some (.cells #[.int .i64 a0_0, .bool a0_1, .string a0_2, .string a0_3, (.slice A0_4 l0_4.length c0_4)] 33 (0, 0))) ∧ Aside0 (Below w.heap.size w wc))
  case first =>
    have H := HC3.out
    clear HC3
    by_cases c5 : a0_3.toList = ([] : List UInt8)
    · rw [if_pos c5] at H
      have c5b0 : (a0_3.toList == ([] : List UInt8)) = true := beq_iff_eq.mpr c5
      have c5b1 : (a0_3.toList != ([] : List UInt8)) = false := bne_eq_false_iff_eq.mpr c5
      clear c5
      (first | rw [c5b0] | (simp only [i64_w, i32_w]; rw [c5b0]) | skip)
      have H' := Aside0.mk H
      clear H
      have hcz6_0 : w4.cell? ⟨gb102, 0, none⟩ = some (.int .i64 a0_0) := (blk_cell BK102.out 0).trans rfl
      have hcz6_1 : w4.cell? ⟨gb102, 1, none⟩ = some (.bool a0_1) := (blk_cell BK102.out 1).trans rfl
      have hcz6_2 : w4.cell? ⟨gb102, 2, none⟩ = some (.string a0_2) := (blk_cell BK102.out 2).trans rfl
      have hcz6_3 : w4.cell? ⟨gb102, 3, none⟩ = some (.string a0_3) := (blk_cell BK102.out 3).trans rfl
      have hcz6_4 : w4.cell? ⟨gb102, 4, none⟩ = some (.slice A0_4 l0_4.length c0_4) := (blk_cell BK102.out 4).trans rfl
      have hfz6_0 := blk_frozen BK102.out 0
      have hfz6_1 := blk_frozen BK102.out 1
      have hfz6_2 := blk_frozen BK102.out 2
      have hfz6_3 := blk_frozen BK102.out 3
      have hfz6_4 := blk_frozen BK102.out 4
      go_wp2
      go_meet
      case rel => exact ⟨_, (decide ((l0_4.length : Int) > 0)), (by first | rfl | (simp; done) | (simp [*]; done)), H', ⟨by first | omega | exact Nat.le_refl _⟩, ⟨by (with_reducible repeat (first | refine blk_drewN ?_ _ | refine blk_drew ?_ | refine blk_alloc ?_ _)); exact BK102.out⟩, ⟨by repeat (first | (with_reducible first | exact HB.out | apply below_alloc | apply pw_below_drewN | apply below_drew1 | refine below_set ?_ GE102.out) | exact HB.out)⟩⟩
    · rw [if_neg c5] at H
      have c5b0 : (a0_3.toList == ([] : List UInt8)) = false := beq_eq_false_iff_ne.mpr c5
      have c5b1 : (a0_3.toList != ([] : List UInt8)) = true := bne_iff_ne.mpr c5
      (first | rw [c5b0] | (simp only [i64_w, i32_w]; rw [c5b0]) | skip)
      have H' := Aside0.mk H
      clear H
      have hcz7_0 : w4.cell? ⟨gb102, 0, none⟩ = some (.int .i64 a0_0) := (blk_cell BK102.out 0).trans rfl
      have hcz7_1 : w4.cell? ⟨gb102, 1, none⟩ = some (.bool a0_1) := (blk_cell BK102.out 1).trans rfl
      have hcz7_2 : w4.cell? ⟨gb102, 2, none⟩ = some (.string a0_2) := (blk_cell BK102.out 2).trans rfl
      have hcz7_3 : w4.cell? ⟨gb102, 3, none⟩ = some (.string a0_3) := (blk_cell BK102.out 3).trans rfl
      have hcz7_4 : w4.cell? ⟨gb102, 4, none⟩ = some (.slice A0_4 l0_4.length c0_4) := (blk_cell BK102.out 4).trans rfl
      have hfz7_0 := blk_frozen BK102.out 0
      have hfz7_1 := blk_frozen BK102.out 1
      have hfz7_2 := blk_frozen BK102.out 2
      have hfz7_3 := blk_frozen BK102.out 3
      have hfz7_4 := blk_frozen BK102.out 4
      go_wp2
      go_meet
      case rel => exact ⟨_, (true), (by first | rfl | (simp; done) | (simp [*]; done)), H', ⟨by first | omega | exact Nat.le_refl _⟩, ⟨by (with_reducible repeat (first | refine blk_drewN ?_ _ | refine blk_drew ?_ | refine blk_alloc ?_ _)); exact BK102.out⟩, ⟨by repeat (first | (with_reducible first | exact HB.out | apply below_alloc | apply pw_below_drewN | apply below_drew1 | refine below_set ?_ GE102.out) | exact HB.out)⟩⟩
  case rest =>
    clear HC3
    try clear p2
    try clear c3
    try clear c5
    try clear c5b0
    try clear c5b1
    try clear hcz6_0
    try clear hcz6_1
    try clear hcz6_2
    try clear hcz6_3
    try clear hcz6_4
    try clear hcz7_0
    try clear hcz7_1
    try clear hcz7_2
    try clear hcz7_3
    try clear hcz7_4
    try clear hfz6_0
    try clear hfz6_1
    try clear hfz6_2
    try clear hfz6_3
    try clear hfz6_4
    try clear hfz7_0
    try clear hfz7_1
    try clear hfz7_2
    try clear hfz7_3
    try clear hfz7_4
    obtain ⟨kq, x14_2, rfl, HA, HJ2, BK102, HB⟩ := hcut
    cases kq with
    | zero => exact absurd HA.out (by simp [word_literal.j0])
    | succ kj2 =>
      have H := HA.out
      clear HA
      simp only [word_literal.j0] at H
      by_cases c8 : x14_2 = true
      · subst c8
        have H1 : (some false) = some r := by rw [if_pos rfl] at H; exact H
        clear H
        have H := H1
        clear H1
        obtain rfl := Option.some.inj H
        go_wp2
        go_ret
        exact ⟨by first | rfl | (simp [errW_none, errW_some] <;> rfl) | (simp [*, errW_none, errW_some] <;> rfl) | (simp [errW_none, errW_some] <;> (cases a0_2.toList <;> rfl)) | (simp [*, errW_none, errW_some] <;> (cases a0_2.toList <;> rfl)), by repeat (first | (with_reducible first | exact HB.out | apply below_alloc | apply pw_below_drewN | apply below_drew1 | refine below_set ?_ GE102.out) | exact HB.out)⟩
      · replace c8 := Bool.eq_false_iff.mpr c8
        subst c8
        have H1 : (if a1 = 2 then (if a0_1 = true then (some (a0_2.toList != ([] : List UInt8))) else (some false)) else (if a0_1 = true then (some true) else (if a1 = 1 then (if a0_2.toList = ([] : List UInt8) then (some false) else ((strings_ContainsAny.f a0_2 (⟨#[34, 36, 39, 92, 96, 125]⟩ : ByteArray)).bind fun t103 => (some (!t103)))) else (word_literal.l0 kj2 (a0_2.size : Int) 0 a0_0 a0_1 a0_2 a0_3 l0_4)))) = some r := by rw [if_neg (show ¬ (false = true) by decide)] at H; exact H
        clear H
        have H := H1
        clear H1
        by_cases c9 : a1 = 2
        · rw [if_pos c9] at H
          have c9b0 : (a1 == 2) = true := beq_iff_eq.mpr c9
          have c9b1 : (a1 != 2) = false := bne_eq_false_iff_eq.mpr c9
          clear c9
          by_cases c10 : a0_1 = true
          · subst c10
            have H1 : (some (a0_2.toList != ([] : List UInt8))) = some r := by rw [if_pos rfl] at H; exact H
            clear H
            have H := H1
            clear H1
            obtain rfl := Option.some.inj H
            have hcz11_0 : wc.cell? ⟨gb102, 0, none⟩ = some (.int .i64 a0_0) := (blk_cell BK102.out 0).trans rfl
            have hcz11_1 : wc.cell? ⟨gb102, 1, none⟩ = some (.bool true) := (blk_cell BK102.out 1).trans rfl
            have hcz11_2 : wc.cell? ⟨gb102, 2, none⟩ = some (.string a0_2) := (blk_cell BK102.out 2).trans rfl
            have hcz11_3 : wc.cell? ⟨gb102, 3, none⟩ = some (.string a0_3) := (blk_cell BK102.out 3).trans rfl
            have hcz11_4 : wc.cell? ⟨gb102, 4, none⟩ = some (.slice A0_4 l0_4.length c0_4) := (blk_cell BK102.out 4).trans rfl
            have hfz11_0 := blk_frozen BK102.out 0
            have hfz11_1 := blk_frozen BK102.out 1
            have hfz11_2 := blk_frozen BK102.out 2
            have hfz11_3 := blk_frozen BK102.out 3
            have hfz11_4 := blk_frozen BK102.out 4
            go_wp2
            go_ret
            exact ⟨by first | rfl | (simp [errW_none, errW_some] <;> rfl) | (simp [*, errW_none, errW_some] <;> rfl) | (simp [errW_none, errW_some] <;> (cases a0_2.toList <;> rfl)) | (simp [*, errW_none, errW_some] <;> (cases a0_2.toList <;> rfl)), by repeat (first | (with_reducible first | exact HB.out | apply below_alloc | apply pw_below_drewN | apply below_drew1 | refine below_set ?_ GE102.out) | exact HB.out)⟩
          · replace c10 := Bool.eq_false_iff.mpr c10
            subst c10
            have H1 : (some false) = some r := by rw [if_neg (show ¬ (false = true) by decide)] at H; exact H
            clear H
            have H := H1
            clear H1
            obtain rfl := Option.some.inj H
            have hcz12_0 : wc.cell? ⟨gb102, 0, none⟩ = some (.int .i64 a0_0) := (blk_cell BK102.out 0).trans rfl
            have hcz12_1 : wc.cell? ⟨gb102, 1, none⟩ = some (.bool false) := (blk_cell BK102.out 1).trans rfl
            have hcz12_2 : wc.cell? ⟨gb102, 2, none⟩ = some (.string a0_2) := (blk_cell BK102.out 2).trans rfl
            have hcz12_3 : wc.cell? ⟨gb102, 3, none⟩ = some (.string a0_3) := (blk_cell BK102.out 3).trans rfl
            have hcz12_4 : wc.cell? ⟨gb102, 4, none⟩ = some (.slice A0_4 l0_4.length c0_4) := (blk_cell BK102.out 4).trans rfl
            have hfz12_0 := blk_frozen BK102.out 0
            have hfz12_1 := blk_frozen BK102.out 1
            have hfz12_2 := blk_frozen BK102.out 2
            have hfz12_3 := blk_frozen BK102.out 3
            have hfz12_4 := blk_frozen BK102.out 4
            go_wp2
            go_ret
            exact ⟨by first | rfl | (simp [errW_none, errW_some] <;> rfl) | (simp [*, errW_none, errW_some] <;> rfl) | (simp [errW_none, errW_some] <;> (cases a0_2.toList <;> rfl)) | (simp [*, errW_none, errW_some] <;> (cases a0_2.toList <;> rfl)), by repeat (first | (with_reducible first | exact HB.out | apply below_alloc | apply pw_below_drewN | apply below_drew1 | refine below_set ?_ GE102.out) | exact HB.out)⟩
        · rw [if_neg c9] at H
          have c9b0 : (a1 == 2) = false := beq_eq_false_iff_ne.mpr c9
          have c9b1 : (a1 != 2) = true := bne_iff_ne.mpr c9
          by_cases c13 : a0_1 = true
          · subst c13
            have H1 : (some true) = some r := by rw [if_pos rfl] at H; exact H
            clear H
            have H := H1
            clear H1
            obtain rfl := Option.some.inj H
            have hcz14_0 : wc.cell? ⟨gb102, 0, none⟩ = some (.int .i64 a0_0) := (blk_cell BK102.out 0).trans rfl
            have hcz14_1 : wc.cell? ⟨gb102, 1, none⟩ = some (.bool true) := (blk_cell BK102.out 1).trans rfl
            have hcz14_2 : wc.cell? ⟨gb102, 2, none⟩ = some (.string a0_2) := (blk_cell BK102.out 2).trans rfl
            have hcz14_3 : wc.cell? ⟨gb102, 3, none⟩ = some (.string a0_3) := (blk_cell BK102.out 3).trans rfl
            have hcz14_4 : wc.cell? ⟨gb102, 4, none⟩ = some (.slice A0_4 l0_4.length c0_4) := (blk_cell BK102.out 4).trans rfl
            have hfz14_0 := blk_frozen BK102.out 0
            have hfz14_1 := blk_frozen BK102.out 1
            have hfz14_2 := blk_frozen BK102.out 2
            have hfz14_3 := blk_frozen BK102.out 3
            have hfz14_4 := blk_frozen BK102.out 4
            go_wp2
            go_ret
            exact ⟨by first | rfl | (simp [errW_none, errW_some] <;> rfl) | (simp [*, errW_none, errW_some] <;> rfl) | (simp [errW_none, errW_some] <;> (cases a0_2.toList <;> rfl)) | (simp [*, errW_none, errW_some] <;> (cases a0_2.toList <;> rfl)), by repeat (first | (with_reducible first | exact HB.out | apply below_alloc | apply pw_below_drewN | apply below_drew1 | refine below_set ?_ GE102.out) | exact HB.out)⟩
          · replace c13 := Bool.eq_false_iff.mpr c13
            subst c13
            have H1 : (if a1 = 1 then (if a0_2.toList = ([] : List UInt8) then (some false) else ((strings_ContainsAny.f a0_2 (⟨#[34, 36, 39, 92, 96, 125]⟩ : ByteArray)).bind fun t103 => (some (!t103)))) else (word_literal.l0 kj2 (a0_2.size : Int) 0 a0_0 false a0_2 a0_3 l0_4)) = some r := by rw [if_neg (show ¬ (false = true) by decide)] at H; exact H
            clear H
            have H := H1
            clear H1
            by_cases c15 : a1 = 1
            · rw [if_pos c15] at H
              have c15b0 : (a1 == 1) = true := beq_iff_eq.mpr c15
              have c15b1 : (a1 != 1) = false := bne_eq_false_iff_eq.mpr c15
              clear c15
              by_cases c16 : a0_2.toList = ([] : List UInt8)
              · rw [if_pos c16] at H
                have c16b0 : (a0_2.toList == ([] : List UInt8)) = true := beq_iff_eq.mpr c16
                have c16b1 : (a0_2.toList != ([] : List UInt8)) = false := bne_eq_false_iff_eq.mpr c16
                clear c16
                obtain rfl := Option.some.inj H
                have hcz17_0 : wc.cell? ⟨gb102, 0, none⟩ = some (.int .i64 a0_0) := (blk_cell BK102.out 0).trans rfl
                have hcz17_1 : wc.cell? ⟨gb102, 1, none⟩ = some (.bool false) := (blk_cell BK102.out 1).trans rfl
                have hcz17_2 : wc.cell? ⟨gb102, 2, none⟩ = some (.string a0_2) := (blk_cell BK102.out 2).trans rfl
                have hcz17_3 : wc.cell? ⟨gb102, 3, none⟩ = some (.string a0_3) := (blk_cell BK102.out 3).trans rfl
                have hcz17_4 : wc.cell? ⟨gb102, 4, none⟩ = some (.slice A0_4 l0_4.length c0_4) := (blk_cell BK102.out 4).trans rfl
                have hfz17_0 := blk_frozen BK102.out 0
                have hfz17_1 := blk_frozen BK102.out 1
                have hfz17_2 := blk_frozen BK102.out 2
                have hfz17_3 := blk_frozen BK102.out 3
                have hfz17_4 := blk_frozen BK102.out 4
                go_wp2
                go_ret
                exact ⟨by first | rfl | (simp [errW_none, errW_some] <;> rfl) | (simp [*, errW_none, errW_some] <;> rfl) | (simp [errW_none, errW_some] <;> (cases a0_2.toList <;> rfl)) | (simp [*, errW_none, errW_some] <;> (cases a0_2.toList <;> rfl)), by repeat (first | (with_reducible first | exact HB.out | apply below_alloc | apply pw_below_drewN | apply below_drew1 | refine below_set ?_ GE102.out) | exact HB.out)⟩
              · rw [if_neg c16] at H
                have c16b0 : (a0_2.toList == ([] : List UInt8)) = false := beq_eq_false_iff_ne.mpr c16
                have c16b1 : (a0_2.toList != ([] : List UInt8)) = true := bne_iff_ne.mpr c16
                replace H := Option.bind_eq_some_iff.mp H
                obtain ⟨t103, A180, H⟩ := H
                replace H : (some (!t103)) = some r := H
                have A18 := Aside0.mk A180
                clear A180
                obtain rfl := Option.some.inj H
                have hcz19_0 : wc.cell? ⟨gb102, 0, none⟩ = some (.int .i64 a0_0) := (blk_cell BK102.out 0).trans rfl
                have hcz19_1 : wc.cell? ⟨gb102, 1, none⟩ = some (.bool false) := (blk_cell BK102.out 1).trans rfl
                have hcz19_2 : wc.cell? ⟨gb102, 2, none⟩ = some (.string a0_2) := (blk_cell BK102.out 2).trans rfl
                have hcz19_3 : wc.cell? ⟨gb102, 3, none⟩ = some (.string a0_3) := (blk_cell BK102.out 3).trans rfl
                have hcz19_4 : wc.cell? ⟨gb102, 4, none⟩ = some (.slice A0_4 l0_4.length c0_4) := (blk_cell BK102.out 4).trans rfl
                have hfz19_0 := blk_frozen BK102.out 0
                have hfz19_1 := blk_frozen BK102.out 1
                have hfz19_2 := blk_frozen BK102.out 2
                have hfz19_3 := blk_frozen BK102.out 3
                have hfz19_4 := blk_frozen BK102.out 4
                go_wp2_with (first | (go_at_call 49; (with_reducible refine (strings_ContainsAny.calls a0_2 (⟨#[34, 36, 39, 92, 96, 125]⟩ : ByteArray) t103 _ A18.out).mono ?_); rintro e w20 ⟨rfl, hb⟩; have n0_ := Aside0.mk (blk_below (g := gb102) (o := .cells #[.int .i64 a0_0, .bool false, .string a0_2, .string a0_3, .slice A0_4 l0_4.length c0_4] 33 (0, 0)) (by (with_reducible repeat (first | refine blk_drewN ?_ _ | refine blk_drew ?_ | refine blk_alloc ?_ _)); exact BK102.out) hb); have n1_ := Aside0.mk (below_step (by repeat (first | (with_reducible first | exact HB.out | apply below_alloc | apply pw_below_drewN | apply below_drew1 | refine below_set ?_ GE102.out) | exact HB.out)) hb); clear BK102; clear HB; have BK102 := n0_; have HB := n1_; clear n0_ n1_; (try clear hb); (try clear hb2); (try clear hk); (try clear hi)))
                go_ret
                exact ⟨by first | rfl | (simp [errW_none, errW_some] <;> rfl) | (simp [*, errW_none, errW_some] <;> rfl) | (simp [errW_none, errW_some] <;> (cases a0_2.toList <;> rfl)) | (simp [*, errW_none, errW_some] <;> (cases a0_2.toList <;> rfl)), by repeat (first | (with_reducible first | exact HB.out | apply below_alloc | apply pw_below_drewN | apply below_drew1 | refine below_set ?_ GE102.out) | exact HB.out)⟩
            · rw [if_neg c15] at H
              have c15b0 : (a1 == 1) = false := beq_eq_false_iff_ne.mpr c15
              have c15b1 : (a1 != 1) = true := bne_iff_ne.mpr c15
              have H' := Aside0.mk H
              clear H
              have hcz21_0 : wc.cell? ⟨gb102, 0, none⟩ = some (.int .i64 a0_0) := (blk_cell BK102.out 0).trans rfl
              have hcz21_1 : wc.cell? ⟨gb102, 1, none⟩ = some (.bool false) := (blk_cell BK102.out 1).trans rfl
              have hcz21_2 : wc.cell? ⟨gb102, 2, none⟩ = some (.string a0_2) := (blk_cell BK102.out 2).trans rfl
              have hcz21_3 : wc.cell? ⟨gb102, 3, none⟩ = some (.string a0_3) := (blk_cell BK102.out 3).trans rfl
              have hcz21_4 : wc.cell? ⟨gb102, 4, none⟩ = some (.slice A0_4 l0_4.length c0_4) := (blk_cell BK102.out 4).trans rfl
              have hfz21_0 := blk_frozen BK102.out 0
              have hfz21_1 := blk_frozen BK102.out 1
              have hfz21_2 := blk_frozen BK102.out 2
              have hfz21_3 := blk_frozen BK102.out 3
              have hfz21_4 := blk_frozen BK102.out 4
              go_wp2
              go_loopg [43] kj2 (fun kq v43 w' => ∃ (x43_2 : Int), v43 = .int .i64 x43_2 ∧ Aside0 (word_literal.l0 kq (a0_2.size : Int) x43_2 a0_0 false a0_2 a0_3 l0_4 = some r) ∧ Aside0 (kq ≤ kj2) ∧ Aside0 (w'.heap[gb102]? = some (.cells #[.int .i64 a0_0, .bool false, .string a0_2, .string a0_3, (.slice A0_4 l0_4.length c0_4)] 33 (0, 0))) ∧ Aside0 (Below w.heap.size w w'))
              case atStart => exact ⟨(0), (by first | rfl | (simp; done) | (simp [*]; done)), H', ⟨Nat.le_refl _⟩, ⟨by (with_reducible repeat (first | refine blk_drewN ?_ _ | refine blk_drew ?_ | refine blk_alloc ?_ _)); exact BK102.out⟩, ⟨by repeat (first | (with_reducible first | exact HB.out | apply below_alloc | apply pw_below_drewN | apply below_drew1 | refine below_set ?_ GE102.out) | exact HB.out)⟩⟩
              case round =>
                clear H'
                try clear c1
                try clear p2
                try clear c3
                try clear c5
                try clear c5b0
                try clear c5b1
                try clear c8
                try clear c9
                try clear c9b0
                try clear c9b1
                try clear c10
                try clear c13
                try clear c15
                try clear c15b0
                try clear c15b1
                try clear c16
                try clear c16b0
                try clear c16b1
                try clear hcz11_0
                try clear hcz11_1
                try clear hcz11_2
                try clear hcz11_3
                try clear hcz11_4
                try clear hcz12_0
                try clear hcz12_1
                try clear hcz12_2
                try clear hcz12_3
                try clear hcz12_4
                try clear hcz14_0
                try clear hcz14_1
                try clear hcz14_2
                try clear hcz14_3
                try clear hcz14_4
                try clear hcz17_0
                try clear hcz17_1
                try clear hcz17_2
                try clear hcz17_3
                try clear hcz17_4
                try clear hcz19_0
                try clear hcz19_1
                try clear hcz19_2
                try clear hcz19_3
                try clear hcz19_4
                try clear hcz21_0
                try clear hcz21_1
                try clear hcz21_2
                try clear hcz21_3
                try clear hcz21_4
                try clear hcz6_0
                try clear hcz6_1
                try clear hcz6_2
                try clear hcz6_3
                try clear hcz6_4
                try clear hcz7_0
                try clear hcz7_1
                try clear hcz7_2
                try clear hcz7_3
                try clear hcz7_4
                try clear hfz11_0
                try clear hfz11_1
                try clear hfz11_2
                try clear hfz11_3
                try clear hfz11_4
                try clear hfz12_0
                try clear hfz12_1
                try clear hfz12_2
                try clear hfz12_3
                try clear hfz12_4
                try clear hfz14_0
                try clear hfz14_1
                try clear hfz14_2
                try clear hfz14_3
                try clear hfz14_4
                try clear hfz17_0
                try clear hfz17_1
                try clear hfz17_2
                try clear hfz17_3
                try clear hfz17_4
                try clear hfz19_0
                try clear hfz19_1
                try clear hfz19_2
                try clear hfz19_3
                try clear hfz19_4
                try clear hfz21_0
                try clear hfz21_1
                try clear hfz21_2
                try clear hfz21_3
                try clear hfz21_4
                try clear hfz6_0
                try clear hfz6_1
                try clear hfz6_2
                try clear hfz6_3
                try clear hfz6_4
                try clear hfz7_0
                try clear hfz7_1
                try clear hfz7_2
                try clear hfz7_3
                try clear hfz7_4
                try clear p2
                obtain ⟨x43_2, rfl, HA, HK2, BK102, HB⟩ := hrel
                cases gk with
                | zero => exact absurd HA.out (by simp [word_literal.l0])
                | succ k2 =>
                  have H := HA.out
                  clear HA
                  simp only [word_literal.l0] at H
                  by_cases c22 : x43_2 < (a0_2.size : Int)
                  · rw [if_pos c22] at H
                    have c22b0 : decide (x43_2 < (a0_2.size : Int)) = true := decide_eq_true c22
                    clear c22
                    by_cases c23 : 0 ≤ x43_2
                    · rw [if_pos c23] at H
                      have c23b0 : decide (0 ≤ x43_2) = true := decide_eq_true c23
                      clear c23
                      by_cases c24 : x43_2 < (a0_2.size : Int)
                      · rw [if_pos c24] at H
                        have c24b0 : decide (x43_2 < (a0_2.size : Int)) = true := decide_eq_true c24
                        clear c24
                        replace H := Option.bind_eq_some_iff.mp H
                        obtain ⟨t104, A260, H⟩ := H
                        replace H : (if t104 = true then (word_literal.l0 k2 (a0_2.size : Int) (wrap64 (x43_2 + 1)) a0_0 false a0_2 a0_3 l0_4) else (some false)) = some r := H
                        have A26 := Aside0.mk A260
                        clear A260
                        by_cases c27 : t104 = true
                        · subst c27
                          have H1 : (word_literal.l0 k2 (a0_2.size : Int) (wrap64 (x43_2 + 1)) a0_0 false a0_2 a0_3 l0_4) = some r := by rw [if_pos rfl] at H; exact H
                          clear H
                          have H := H1
                          clear H1
                          have H' := Aside0.mk H
                          clear H
                          have hcz28_0 : wr.cell? ⟨gb102, 0, none⟩ = some (.int .i64 a0_0) := (blk_cell BK102.out 0).trans rfl
                          have hcz28_1 : wr.cell? ⟨gb102, 1, none⟩ = some (.bool false) := (blk_cell BK102.out 1).trans rfl
                          have hcz28_2 : wr.cell? ⟨gb102, 2, none⟩ = some (.string a0_2) := (blk_cell BK102.out 2).trans rfl
                          have hcz28_3 : wr.cell? ⟨gb102, 3, none⟩ = some (.string a0_3) := (blk_cell BK102.out 3).trans rfl
                          have hcz28_4 : wr.cell? ⟨gb102, 4, none⟩ = some (.slice A0_4 l0_4.length c0_4) := (blk_cell BK102.out 4).trans rfl
                          have hfz28_0 := blk_frozen BK102.out 0
                          have hfz28_1 := blk_frozen BK102.out 1
                          have hfz28_2 := blk_frozen BK102.out 2
                          have hfz28_3 := blk_frozen BK102.out 3
                          have hfz28_4 := blk_frozen BK102.out 4
                          have p25 : 0 ≤ (x43_2 : Int) := of_decide_eq_true (by first | (with_reducible assumption) | assumption)
                          have q25 : x43_2 < (a0_2.size : Int) := of_decide_eq_true (by first | (with_reducible assumption) | assumption)
                          have hx25 := bt_at a0_2 x43_2
                          replace p25 := eq_true p25
                          replace q25 := eq_true q25
                          go_wp2_with (first | ((with_reducible refine gate_callee (f := 50) rfl ?_); refine goesL_ (some 50) rfl rfl Tryd.func50 (by kernel_rfl) rfl #[.int .u8 (bt a0_2 x43_2)] rfl (by (try simp only [List.map_toArray, List.map_cons, List.map_nil]); first | done | rfl | (simp only [List.length_drop, List.length_take]; rfl)) ?_; (with_reducible refine (class_Bare.calls (bt a0_2 x43_2) true _ A26.out).mono ?_); rintro e w29 ⟨rfl, hb⟩; refine ⟨_, rfl, ?_⟩; have n0_ := Aside0.mk (blk_below (g := gb102) (o := .cells #[.int .i64 a0_0, .bool false, .string a0_2, .string a0_3, .slice A0_4 l0_4.length c0_4] 33 (0, 0)) (by (with_reducible repeat (first | refine blk_drewN ?_ _ | refine blk_drew ?_ | refine blk_alloc ?_ _)); exact BK102.out) hb); have n1_ := Aside0.mk (below_step (by repeat (first | (with_reducible first | exact HB.out | apply below_alloc | apply pw_below_drewN | apply below_drew1 | refine below_set ?_ GE102.out) | exact HB.out)) hb); clear BK102; clear HB; have BK102 := n0_; have HB := n1_; clear n0_ n1_; (try clear hb); (try clear hb2); (try clear hk); (try clear hi)))
                          go_roundg k2
                          case measure => have := HJ2.out; have := HK2.out; omega
                          case rel => exact ⟨(wrap64 (x43_2 + 1)), (by first | rfl | (simp; done) | (simp [*]; done)), H', ⟨by have := HJ2.out; have := HK2.out; omega⟩, ⟨by (with_reducible repeat (first | refine blk_drewN ?_ _ | refine blk_drew ?_ | refine blk_alloc ?_ _)); exact BK102.out⟩, ⟨by repeat (first | (with_reducible first | exact HB.out | apply below_alloc | apply pw_below_drewN | apply below_drew1 | refine below_set ?_ GE102.out) | exact HB.out)⟩⟩
                        · replace c27 := Bool.eq_false_iff.mpr c27
                          subst c27
                          have H1 : (some false) = some r := by rw [if_neg (show ¬ (false = true) by decide)] at H; exact H
                          clear H
                          have H := H1
                          clear H1
                          obtain rfl := Option.some.inj H
                          have hcz30_0 : wr.cell? ⟨gb102, 0, none⟩ = some (.int .i64 a0_0) := (blk_cell BK102.out 0).trans rfl
                          have hcz30_1 : wr.cell? ⟨gb102, 1, none⟩ = some (.bool false) := (blk_cell BK102.out 1).trans rfl
                          have hcz30_2 : wr.cell? ⟨gb102, 2, none⟩ = some (.string a0_2) := (blk_cell BK102.out 2).trans rfl
                          have hcz30_3 : wr.cell? ⟨gb102, 3, none⟩ = some (.string a0_3) := (blk_cell BK102.out 3).trans rfl
                          have hcz30_4 : wr.cell? ⟨gb102, 4, none⟩ = some (.slice A0_4 l0_4.length c0_4) := (blk_cell BK102.out 4).trans rfl
                          have hfz30_0 := blk_frozen BK102.out 0
                          have hfz30_1 := blk_frozen BK102.out 1
                          have hfz30_2 := blk_frozen BK102.out 2
                          have hfz30_3 := blk_frozen BK102.out 3
                          have hfz30_4 := blk_frozen BK102.out 4
                          have p25 : 0 ≤ (x43_2 : Int) := of_decide_eq_true (by first | (with_reducible assumption) | assumption)
                          have q25 : x43_2 < (a0_2.size : Int) := of_decide_eq_true (by first | (with_reducible assumption) | assumption)
                          have hx25 := bt_at a0_2 x43_2
                          replace p25 := eq_true p25
                          replace q25 := eq_true q25
                          go_wp2_with (first | ((with_reducible refine gate_callee (f := 50) rfl ?_); refine goesL_ (some 50) rfl rfl Tryd.func50 (by kernel_rfl) rfl #[.int .u8 (bt a0_2 x43_2)] rfl (by (try simp only [List.map_toArray, List.map_cons, List.map_nil]); first | done | rfl | (simp only [List.length_drop, List.length_take]; rfl)) ?_; (with_reducible refine (class_Bare.calls (bt a0_2 x43_2) false _ A26.out).mono ?_); rintro e w31 ⟨rfl, hb⟩; refine ⟨_, rfl, ?_⟩; have n0_ := Aside0.mk (blk_below (g := gb102) (o := .cells #[.int .i64 a0_0, .bool false, .string a0_2, .string a0_3, .slice A0_4 l0_4.length c0_4] 33 (0, 0)) (by (with_reducible repeat (first | refine blk_drewN ?_ _ | refine blk_drew ?_ | refine blk_alloc ?_ _)); exact BK102.out) hb); have n1_ := Aside0.mk (below_step (by repeat (first | (with_reducible first | exact HB.out | apply below_alloc | apply pw_below_drewN | apply below_drew1 | refine below_set ?_ GE102.out) | exact HB.out)) hb); clear BK102; clear HB; have BK102 := n0_; have HB := n1_; clear n0_ n1_; (try clear hb); (try clear hb2); (try clear hk); (try clear hi)))
                          go_ret
                          exact ⟨by first | rfl | (simp [errW_none, errW_some] <;> rfl) | (simp [*, errW_none, errW_some] <;> rfl) | (simp [errW_none, errW_some] <;> (cases a0_2.toList <;> rfl)) | (simp [*, errW_none, errW_some] <;> (cases a0_2.toList <;> rfl)), by repeat (first | (with_reducible first | exact HB.out | apply below_alloc | apply pw_below_drewN | apply below_drew1 | refine below_set ?_ GE102.out) | exact HB.out)⟩
                      · rw [if_neg c24] at H
                        exact absurd H (by simp)
                    · rw [if_neg c23] at H
                      exact absurd H (by simp)
                  · rw [if_neg c22] at H
                    have c22b0 : decide (x43_2 < (a0_2.size : Int)) = false := decide_eq_false c22
                    clear c22
                    obtain rfl := Option.some.inj H
                    have hcz32_0 : wr.cell? ⟨gb102, 0, none⟩ = some (.int .i64 a0_0) := (blk_cell BK102.out 0).trans rfl
                    have hcz32_1 : wr.cell? ⟨gb102, 1, none⟩ = some (.bool false) := (blk_cell BK102.out 1).trans rfl
                    have hcz32_2 : wr.cell? ⟨gb102, 2, none⟩ = some (.string a0_2) := (blk_cell BK102.out 2).trans rfl
                    have hcz32_3 : wr.cell? ⟨gb102, 3, none⟩ = some (.string a0_3) := (blk_cell BK102.out 3).trans rfl
                    have hcz32_4 : wr.cell? ⟨gb102, 4, none⟩ = some (.slice A0_4 l0_4.length c0_4) := (blk_cell BK102.out 4).trans rfl
                    have hfz32_0 := blk_frozen BK102.out 0
                    have hfz32_1 := blk_frozen BK102.out 1
                    have hfz32_2 := blk_frozen BK102.out 2
                    have hfz32_3 := blk_frozen BK102.out 3
                    have hfz32_4 := blk_frozen BK102.out 4
                    go_wp2
                    go_ret
                    exact ⟨by first | rfl | (simp [errW_none, errW_some] <;> rfl) | (simp [*, errW_none, errW_some] <;> rfl) | (simp [errW_none, errW_some] <;> (cases a0_2.toList <;> rfl)) | (simp [*, errW_none, errW_some] <;> (cases a0_2.toList <;> rfl)), by repeat (first | (with_reducible first | exact HB.out | apply below_alloc | apply pw_below_drewN | apply below_drew1 | refine below_set ?_ GE102.out) | exact HB.out)⟩
end Go.Proofs.YtkecpfjmdokieaaDoor.P
namespace Go.Proofs.YtkecpfjmdokieaaDoor.P
open Go.RowKit Go.Proofs.YtkecpfjmdokieaaDoorW.PrintWords Go.Proofs.YtkecpfjmdokieaaDoorW.PrintLast Go.Proofs.YtkecpfjmdokieaaDoorW.PrintMore
attribute [local go_sem] max2_int min2_int max_two min_two max_three min_three max_four min_four   -- for this text's walks alone
set_option linter.unusedVariables false
set_option linter.unusedSimpArgs false
end Go.Proofs.YtkecpfjmdokieaaDoor.P
namespace Go.Proofs.YtkecpfjmdokieaaDoor.P
open Go.RowKit Go.Proofs.YtkecpfjmdokieaaDoorW.PrintWords Go.Proofs.YtkecpfjmdokieaaDoorW.PrintLast Go.Proofs.YtkecpfjmdokieaaDoorW.PrintMore
attribute [local go_sem] max2_int min2_int max_two min_two max_three min_three max_four min_four   -- for this text's walks alone
set_option linter.unusedVariables false
set_option linter.unusedSimpArgs false
end Go.Proofs.YtkecpfjmdokieaaDoor.P
namespace Go.Proofs.YtkecpfjmdokieaaDoor.Word
open Go.RowKit Go.Proofs.YtkecpfjmdokieaaDoorW.PrintWords Go.Proofs.YtkecpfjmdokieaaDoorW.PrintLast Go.Proofs.YtkecpfjmdokieaaDoor.Base Go.Proofs.YtkecpfjmdokieaaDoor.P Go.Proofs.YtkecpfjmdokieaaDoor.NodeOps Go.Proofs.YtkecpfjmdokieaaDoor.Class
set_option linter.unusedVariables false
set_option linter.unusedSimpArgs false
def bareS (s : ByteArray) : Bool := (bytesOf s).all bareB
def looseS (s : ByteArray) : Bool := (bytesOf s).all fun b => !(bytesOf CH).contains b
def neS (s : ByteArray) : Bool := decide (0 < s.size)
def litB (at_ : Int) (x : Pt) : Bool :=
  if x.f3.size = 0 ∧ x.f4.length = 0 then (if at_ = 2 then x.f1 && neS x.f2 else if x.f1 = true then true else if at_ = 1 then neS x.f2 && looseS x.f2 else neS x.f2 && bareS x.f2) else false
theorem toList_nil (s : ByteArray) : s.toList = ([] : List UInt8) ↔ s.size = 0 := by
  rw [Go.Lib.toList_data]
  have := data_length s
  constructor
  · intro e; rw [e] at this; exact this.symm
  · intro e; exact List.length_eq_zero_iff.1 (by omega)
theorem toList_ne (s : ByteArray) : (s.toList != ([] : List UInt8)) = neS s := by
  unfold neS
  by_cases h : s.size = 0
  · rw [decide_eq_false (by omega)]
    have := (toList_nil s).2 h
    rw [this]
    rfl
  · rw [decide_eq_true (by omega), bne_iff_ne]
    exact fun e => h ((toList_nil s).1 e)
theorem bytes_drop (s : ByteArray) (i : Nat) (h : i < s.size) : (bytesOf s).drop i = bt s i :: (bytesOf s).drop (i + 1) := by
  rw [List.drop_eq_getElem_cons (by rw [bytesOf_length]; exact h)]
  congr 1
  have := bt_nat s i h
  rw [← this]
  simp [bytesOf, ByteArray.getElem_eq_getElem_data]
theorem all_drop (s : ByteArray) (p : Int → Bool) (i : Nat) (h : i < s.size) : ((bytesOf s).drop i).all p = (p (bt s i) && ((bytesOf s).drop (i + 1)).all p) := by
  rw [bytes_drop s i h, List.all_cons]
theorem lit_loop (x : Pt) (hz : x.f2.size ≤ 1000000) : ∀ (d i : Nat), x.f2.size - i ≤ d → i ≤ x.f2.size → Ev (fun k => word_literal.l0 k (x.f2.size : Int) (i : Int) x.f0 x.f1 x.f2 x.f3 x.f4) (neS x.f2 && ((bytesOf x.f2).drop i).all bareB) := by
  have hend : ∀ i : Nat, ¬ i < x.f2.size → Ev (fun k => word_literal.l0 k (x.f2.size : Int) (i : Int) x.f0 x.f1 x.f2 x.f3 x.f4) (neS x.f2 && ((bytesOf x.f2).drop i).all bareB) := by
    intro i hi
    refine now fun k => ?_
    show word_literal.l0 (k + 1) (x.f2.size : Int) (i : Int) x.f0 x.f1 x.f2 x.f3 x.f4 = _
    rw [word_literal.l0, if_neg (by omega), List.drop_eq_nil_of_le (by rw [bytesOf_length]; omega), toList_ne]
    simp
  intro d
  induction d with
  | zero => exact fun i hd hi => hend i (by omega)
  | succ d ih =>
    intro i hd hi
    by_cases hlt : i < x.f2.size
    · have hw : wrap64 ((i : Int) + 1) = ((i + 1 : Nat) : Int) := by unfold wrap64; omega
      have hr := bt_range x.f2 i
      have hf : class_Bare.f (bt x.f2 i) = some (bareB (bt x.f2 i)) := by unfold class_Bare.f; rw [if_pos hr.1, if_pos hr.2]
      rw [all_drop _ _ _ hlt]
      cases hb : bareB (bt x.f2 i) with
      | true =>
        refine step (by simpa using ih (i + 1) (by omega) (by omega)) fun k => ?_
        show word_literal.l0 (k + 1) (x.f2.size : Int) (i : Int) x.f0 x.f1 x.f2 x.f3 x.f4 = word_literal.l0 k (x.f2.size : Int) ((i + 1 : Nat) : Int) x.f0 x.f1 x.f2 x.f3 x.f4
        rw [word_literal.l0, if_pos (by omega), if_pos (by omega), if_pos (by omega), hf, Option.bind_some, hb, if_pos rfl, hw]
      | false =>
        refine now fun k => ?_
        show word_literal.l0 (k + 1) (x.f2.size : Int) (i : Int) x.f0 x.f1 x.f2 x.f3 x.f4 = _
        rw [word_literal.l0, if_pos (by omega), if_pos (by omega), if_pos (by omega), hf, Option.bind_some, hb, if_neg (by decide)]
        simp
    · exact hend i hlt
theorem contains_loose (s : ByteArray) : Lib.containsAny s.data.toList CH.data.toList = !looseS s := by
  have key : ∀ l : List UInt8, decide (0 ≤ Lib.indexAny l CH.data.toList) = !((l.map fun b => (b.toNat : Int)).all fun b => !(bytesOf CH).contains b) := by
    intro l
    induction l with
    | nil => rfl
    | cons b l ih =>
      have hc : CH.data.toList.contains b = (bytesOf CH).contains (b.toNat : Int) := by
        have hall : ∀ b : UInt8, CH.data.toList.contains b = (bytesOf CH).contains (b.toNat : Int) := by
          intro b
          have h1 : ∀ n : Fin 256, CH.data.toList.contains (UInt8.ofNat n.val) = (bytesOf CH).contains ((n.val : Nat) : Int) := by decide +kernel
          have := h1 ⟨b.toNat, b.toNat_lt⟩
          simpa using this
        exact hall b
      rw [List.map_cons, List.all_cons, Bool.not_and, Bool.not_not, ← ih, ← hc]
      have hge := Lib.indexAny_ge CH.data.toList l
      have hu : Lib.indexAny (b :: l) CH.data.toList = (if CH.data.toList.contains b = true then 0 else if (Lib.indexAny l CH.data.toList == -1) = true then -1 else Lib.indexAny l CH.data.toList + 1) := rfl
      rw [hu]
      generalize Lib.indexAny l CH.data.toList = v at *
      cases hb : CH.data.toList.contains b with
      | true => rw [if_pos rfl]; simp
      | false =>
        rw [if_neg (by decide), Bool.false_or]
        by_cases h : v = -1
        · subst h; rfl
        · rw [if_neg (by simpa using h)]
          by_cases h0 : 0 ≤ v
          · rw [decide_eq_true h0, decide_eq_true (by omega)]
          · omega
  exact key s.data.toList
theorem lit_ev (at_ : Int) (x : Pt) (hz : x.f2.size ≤ 1000000) : Ev (fun k => word_literal.f k x.f0 x.f1 x.f2 x.f3 x.f4 at_) (litB at_ x) := by
  unfold litB
  have bad : ∀ g : Nat → Option Bool, (∀ k, g k = word_literal.j0 k at_ true x.f0 x.f1 x.f2 x.f3 x.f4) → Ev g false := by
    intro g hg
    refine via2 (f := fun k => word_literal.j0 k at_ true x.f0 x.f1 x.f2 x.f3 x.f4) (now fun k => ?_) hg
    rw [word_literal.j0, if_pos rfl]
  by_cases h3 : x.f3.size = 0
  · by_cases h4 : x.f4.length = 0
    · rw [if_pos ⟨h3, h4⟩]
      refine via2 (f := fun k => word_literal.j0 k at_ false x.f0 x.f1 x.f2 x.f3 x.f4) ?_ (fun k => by rw [word_literal.f, if_pos ((toList_nil _).2 h3), decide_eq_false (by omega)])
      by_cases h2 : at_ = 2
      · rw [if_pos h2]
        refine now fun k => ?_
        rw [word_literal.j0, if_neg (by decide), if_pos h2]
        cases x.f1 with
        | true => rw [if_pos rfl, toList_ne]; simp
        | false => rw [if_neg (by decide)]; rfl
      · rw [if_neg h2]
        cases hq : x.f1 with
        | true =>
          rw [if_pos rfl]
          refine now fun k => ?_
          rw [word_literal.j0, if_neg (by decide), if_neg h2, if_pos rfl]
        | false =>
          rw [if_neg (by decide)]
          by_cases h1 : at_ = 1
          · rw [if_pos h1]
            refine now fun k => ?_
            rw [word_literal.j0, if_neg (by decide), if_neg h2, if_neg (by decide), if_pos h1]
            by_cases hn : x.f2.size = 0
            · rw [if_pos ((toList_nil _).2 hn)]
              unfold neS
              rw [decide_eq_false (by omega)]
              rfl
            · rw [if_neg (fun e => hn ((toList_nil _).1 e))]
              unfold strings_ContainsAny.f neS
              rw [if_pos (by omega), if_pos rfl, Option.bind_some, contains_loose, Bool.not_not, decide_eq_true (by omega), Bool.true_and]
          · rw [if_neg h1]
            have := lit_loop x hz x.f2.size 0 (by omega) (by omega)
            rw [List.drop_zero, hq] at this
            refine step this fun k => ?_
            rw [word_literal.j0, if_neg (by decide), if_neg h2, if_neg (by decide), if_neg h1]
            rfl
    · rw [if_neg (fun h => h4 h.2)]
      exact bad _ (fun k => by rw [word_literal.f, if_pos ((toList_nil _).2 h3), decide_eq_true (by omega)])
  · rw [if_neg (fun h => h3 h.1)]
    exact bad _ (fun k => by rw [word_literal.f, if_neg (fun e => h3 ((toList_nil _).1 e))])
end Go.Proofs.YtkecpfjmdokieaaDoor.Word
namespace Go.Proofs.YtkecpfjmdokieaaDoor.P
open Go.RowKit Go.Proofs.YtkecpfjmdokieaaDoorW.PrintWords Go.Proofs.YtkecpfjmdokieaaDoorW.PrintLast Go.Proofs.YtkecpfjmdokieaaDoorW.PrintMore
attribute [local go_sem] max2_int min2_int max_two min_two max_three min_three max_four min_four   -- for this text's walks alone
set_option linter.unusedVariables false
set_option linter.unusedSimpArgs false
end Go.Proofs.YtkecpfjmdokieaaDoor.P
namespace Go.Proofs.YtkecpfjmdokieaaDoor.P
open Go.RowKit Go.Proofs.YtkecpfjmdokieaaDoorW.PrintWords Go.Proofs.YtkecpfjmdokieaaDoorW.PrintLast Go.Proofs.YtkecpfjmdokieaaDoorW.PrintMore
attribute [local go_sem] max2_int min2_int max_two min_two max_three min_three max_four min_four   -- for this text's walks alone
set_option linter.unusedVariables false
set_option linter.unusedSimpArgs false
end Go.Proofs.YtkecpfjmdokieaaDoor.P
namespace Go.Proofs.YtkecpfjmdokieaaDoor.Word
open Go.RowKit Go.Proofs.YtkecpfjmdokieaaDoorW.PrintWords Go.Proofs.YtkecpfjmdokieaaDoorW.PrintLast Go.Proofs.YtkecpfjmdokieaaDoor.Base Go.Proofs.YtkecpfjmdokieaaDoor.P Go.Proofs.YtkecpfjmdokieaaDoor.NodeOps Go.Proofs.YtkecpfjmdokieaaDoor.Class
set_option linter.unusedVariables false
set_option linter.unusedSimpArgs false
def OPS : List (List UInt8) := [[45], [58, 45], [61], [58, 61], [43], [58, 43], [63], [58, 63]]
def opB (s : ByteArray) : Bool := decide (s.toList ∈ OPS)
def eqOp (s : ByteArray) : Bool := decide (s.toList = [61]) || decide (s.toList = [58, 61])
def nextI (q : Bool) : Int := if q = true then 2 else 1
def parB (sub : Int → List Pt → Bool) (deep : Bool) (at_ : Int) (x : Pt) : Bool :=
  if deep = false then false else if paramB x.f2 = false then false else if at_ = 2 ∧ x.f1 = false then false else if x.f3.size = 0 then decide (x.f4.length = 0) else if opB x.f3 = false then false else if eqOp x.f3 = true ∧ nameB x.f2 = false then false else sub (nextI x.f1) x.f4
def adjB (l : List Pt) (i : Nat) : Bool := decide (0 < i) && (decide ((rd_T33 l ((i : Int) - 1)).f0 = 1) && ((rd_T33 l ((i : Int) - 1)).f1 == (rd_T33 l (i : Int)).f1))
def okI (sub : Int → List Pt → Bool) (deep : Bool) (at_ : Int) (l : List Pt) (i : Nat) : Bool :=
  if (rd_T33 l (i : Int)).f0 = 1 then litB at_ (rd_T33 l (i : Int)) && !adjB l i else if (rd_T33 l (i : Int)).f0 = 2 then parB sub deep at_ (rd_T33 l (i : Int)) else false
def allI (p : Nat → Bool) : Nat → Nat → Bool
  | _, 0 => true
  | i, d + 1 => p i && allI p (i + 1) d
def partsF : Nat → Int → List Pt → Bool
  | 0, at_, l => allI (okI (fun _ _ => false) false at_ l) 0 l.length
  | n + 1, at_, l => allI (okI (partsF n) true at_ l) 0 l.length
section
variable (l : List Pt) (at_ deep : Int) (i : Nat) (c : Bool)
end
theorem wt_in {l : List Pt} {x : Pt} (h : x ∈ l) : 1 + x.f2.size + x.f3.size + wt x.f4 ≤ wt l := by
  induction l with
  | nil => cases h
  | cons y l ih =>
    rw [wt_cons]
    rcases List.mem_cons.1 h with rfl | h
    · omega
    · have := ih h
      omega
theorem wt_len : ∀ l : List Pt, l.length ≤ wt l
  | [] => Nat.zero_le _
  | x :: l => by
    rw [wt_cons, List.length_cons]
    have := wt_len l
    omega
end Go.Proofs.YtkecpfjmdokieaaDoor.Word
namespace Go.Proofs.YtkecpfjmdokieaaDoor.P
open Go.RowKit Go.Proofs.YtkecpfjmdokieaaDoorW.PrintWords Go.Proofs.YtkecpfjmdokieaaDoorW.PrintLast Go.Proofs.YtkecpfjmdokieaaDoorW.PrintMore
attribute [local go_sem] max2_int min2_int max_two min_two max_three min_three max_four min_four   -- for this text's walks alone
set_option linter.unusedVariables false
set_option linter.unusedSimpArgs false
end Go.Proofs.YtkecpfjmdokieaaDoor.P
namespace Go.Proofs.YtkecpfjmdokieaaDoor.Word
open Go.RowKit Go.Proofs.YtkecpfjmdokieaaDoorW.PrintWords Go.Proofs.YtkecpfjmdokieaaDoorW.PrintLast Go.Proofs.YtkecpfjmdokieaaDoor.Base Go.Proofs.YtkecpfjmdokieaaDoor.P Go.Proofs.YtkecpfjmdokieaaDoor.NodeOps
set_option linter.unusedVariables false
set_option linter.unusedSimpArgs false
abbrev R4 : List UInt8 := [39, 92, 39, 39]
def qz (l : List UInt8) : List UInt8 := l.flatMap fun b => if b = 39 then R4 else [b]
theorem qz_cons (b : UInt8) (l : List UInt8) : qz (b :: l) = (if b = 39 then R4 else [b]) ++ qz l := by
  unfold qz
  rw [List.flatMap_cons]
theorem qz_len : ∀ l : List UInt8, (qz l).length ≤ 4 * l.length
  | [] => by unfold qz; simp
  | b :: l => by
    rw [qz_cons, List.length_append, List.length_cons]
    have := qz_len l
    by_cases h : b = 39
    · rw [if_pos h]
      show 4 + _ ≤ _
      omega
    · rw [if_neg h]
      show 1 + _ ≤ _
      omega
theorem replK : ∀ (s : List UInt8), Lib.replaceK [39] R4 (s.count 39) s = qz s
  | [] => rfl
  | b :: l => by
    have ih := replK l
    rw [qz_cons]
    by_cases h : b = 39
    · subst h
      rw [if_pos rfl, List.count_cons_self]
      have h0 : Lib.index (39 :: l) [39] = ((0 : Nat) : Int) := by
        rw [Lib.index_one]
        rfl
      rw [Lib.replaceK_hit _ _ _ _ 0 h0]
      show [] ++ R4 ++ Lib.replaceK [39] R4 (l.count 39) (List.drop 1 (39 :: l)) = _
      rw [List.drop_succ_cons, List.drop_zero, ih]
      rfl
    · rw [if_neg h, List.count_cons_of_ne (by simpa using h)]
      cases hk : l.count 39 with
      | zero =>
        rw [hk] at ih
        show b :: l = [b] ++ qz l
        rw [← ih]
        rfl
      | succ k =>
        rw [hk] at ih
        obtain ⟨i, hi⟩ := Lib.index_of_count (s := l) (old := [39]) (by rw [Lib.count_one, hk]; omega)
        have h1 : Lib.index (b :: l) [39] = ((i + 1 : Nat) : Int) := by
          rw [Lib.index_one] at hi ⊢
          unfold Lib.indexByte
          rw [if_neg (by simpa using h), hi, if_neg (by first | (simp; done) | (simp; omega))]
          rfl
        rw [Lib.replaceK_hit _ _ _ _ _ h1, ← ih, Lib.replaceK_hit _ _ _ _ _ hi]
        rfl
theorem replAll (s : List UInt8) : Lib.replaceAll s [39] R4 = qz s := by
  unfold Lib.replaceAll Lib.replace
  rw [if_neg (by decide)]
  have h1 : Lib.replaceNum s [39] (-1) = s.count 39 := by
    unfold Lib.replaceNum
    rw [if_pos (.inl (by decide)), Lib.count_one]
  rw [h1]
  exact replK s
def quoteS (s : ByteArray) : ByteArray := ⟨([39] ++ qz s.data.toList ++ [39]).toArray⟩
theorem quote_str (l : List UInt8) : ((⟨#[39]⟩ : ByteArray) ++ (⟨l.toArray⟩ : ByteArray)) ++ (⟨#[39]⟩ : ByteArray) = ⟨([39] ++ l ++ [39]).toArray⟩ := by
  apply ByteArray.ext
  simp [ByteArray.data_append]
set_option maxHeartbeats 2000000 in
set_option maxRecDepth 100000 in
theorem quote_any (s : ByteArray) (m : Int) (w : World) (hm : w.cell? ⟨0, 0, none⟩ = some (.int .i64 m)) (hs : s.size ≤ 1000000) :
    Calls Tryd.prog 17 #[.string s] w fun e w' => e = .returned (.string (quoteS s)) ∧ Below w.heap.size w w' := by
  have HL := Aside0.mk (Lib.countB_le ⟨#[39]⟩ (by decide) s.size s (Nat.le_refl _))
  have HM := Aside0.mk hm
  have HS := Aside0.mk hs
  have HQ := Aside0.mk (show (⟨(Lib.replaceAll s.data.toList [39] R4).toArray⟩ : ByteArray) = ⟨(qz s.data.toList).toArray⟩ by rw [replAll])
  have HQL := Aside0.mk (show (qz s.data.toList).length ≤ 4000000 by have h1 := qz_len s.data.toList; rw [data_length] at h1; omega)
  have HLN := Aside0.mk (show s.size + Lib.countB s ⟨#[39]⟩ * (ByteArray.mk #[39, 92, 39, 39]).size ≤ 140737488355328 by
    have e : (ByteArray.mk #[39, 92, 39, 39]).size = 4 := rfl
    have h1 := HL.out
    rw [e]
    omega)
  clear hm hs
  go_enter Tryd.func17, Tryd.ntmps17
  go_wp2_with (go_at_call 30; go_loud (with_reducible refine (Tryd.strings_ReplaceAll s ⟨#[39]⟩ ⟨#[39, 92, 39, 39]⟩ m _ (by have := HS.out; omega) HM.out (by decide) HLN.out).mono ?_); rintro e w1 ⟨rfl, hB⟩; go_loud (rw [show (⟨(Lib.replaceAll s.data.toList (ByteArray.mk #[39]).data.toList (ByteArray.mk #[39, 92, 39, 39]).data.toList).toArray⟩ : ByteArray) = ⟨(qz s.data.toList).toArray⟩ from HQ.out]); have HB := Aside0.mk hB; clear hB)
  all_goals first
    | (exfalso; have := HQL.out; omega)
    | (go_ret; exact ⟨by unfold quoteS; rw [← quote_str]; rfl, HB.out⟩)
end Go.Proofs.YtkecpfjmdokieaaDoor.Word
namespace Go.Proofs.YtkecpfjmdokieaaDoor.Word
open Go.RowKit Go.Proofs.YtkecpfjmdokieaaDoorW.PrintWords Go.Proofs.YtkecpfjmdokieaaDoorW.PrintLast Go.Proofs.YtkecpfjmdokieaaDoor.Base Go.Proofs.YtkecpfjmdokieaaDoor.P Go.Proofs.YtkecpfjmdokieaaDoor.NodeOps Go.Proofs.YtkecpfjmdokieaaDoor.Class
set_option linter.unusedVariables false
set_option linter.unusedSimpArgs false
inductive Rt : Int → List Pt → Prop
  | nil (a : Int) : Rt a []
  | lit (a : Int) (x : Pt) (l : List Pt) (h0 : x.f0 = 1) (h : litB a x = true) (hadj : ∀ y, l.head? = some y → y.f0 = 1 → y.f1 ≠ x.f1) (ht : Rt a l) : Rt a (x :: l)
  | par (a : Int) (x : Pt) (l : List Pt) (h0 : x.f0 = 2) (hp : paramB x.f2 = true) (hq : ¬ (a = 2 ∧ x.f1 = false)) (ho : x.f3.size = 0 ∧ x.f4 = [] ∨ opB x.f3 = true) (hs : Rt (nextI x.f1) x.f4) (ht : Rt a l) : Rt a (x :: l)
theorem allI_iff (p : Nat → Bool) : ∀ (d i : Nat), allI p i d = true ↔ ∀ j, i ≤ j → j < i + d → p j = true := by
  intro d
  induction d with
  | zero => exact fun i => ⟨fun _ j h1 h2 => absurd h2 (by omega), fun _ => rfl⟩
  | succ d ih =>
    intro i
    show (p i && allI p (i + 1) d) = true ↔ _
    rw [Bool.and_eq_true, ih]
    constructor
    · rintro ⟨h1, h2⟩ j h3 h4
      by_cases h : j = i
      · rw [h]; exact h1
      · exact h2 j (by omega) (by omega)
    · intro h
      exact ⟨h i (by omega) (by omega), fun j h1 h2 => h j (by omega) (by omega)⟩
theorem rd_succ (x : Pt) (l : List Pt) (i : Nat) : rd_T33 (x :: l) ((i + 1 : Nat) : Int) = rd_T33 l (i : Int) := by
  unfold rd_T33
  rw [Int.toNat_natCast, Int.toNat_natCast, List.getD_cons_succ]
theorem rd_zero (x : Pt) (l : List Pt) : rd_T33 (x :: l) ((0 : Nat) : Int) = x := rfl
theorem adj_tail (x : Pt) (l : List Pt) (i : Nat) (h : 0 < i) : adjB (x :: l) (i + 1) = adjB l i := by
  obtain ⟨i, rfl⟩ : ∃ j, i = j + 1 := ⟨i - 1, by omega⟩
  unfold adjB
  have e1 : (((i + 1 + 1 : Nat) : Int) - 1) = ((i + 1 : Nat) : Int) := by omega
  have e2 : (((i + 1 : Nat) : Int) - 1) = (i : Int) := by omega
  rw [e1, e2, rd_succ, rd_succ]
  simp
theorem okI_tail (sub : Int → List Pt → Bool) (deep : Bool) (a : Int) (x : Pt) (l : List Pt) (i : Nat) (h : okI sub deep a (x :: l) (i + 1) = true) : okI sub deep a l i = true := by
  unfold okI at h ⊢
  rw [rd_succ] at h
  by_cases hi : 0 < i
  · rw [adj_tail x l i hi] at h
    exact h
  · obtain rfl : i = 0 := by omega
    have e : adjB l 0 = false := rfl
    rw [e]
    split
    · rename_i h1
      rw [if_pos h1, Bool.and_eq_true] at h
      rw [h.1]
      rfl
    · rename_i h1
      rw [if_neg h1] at h
      exact h
theorem rt_row (sub : Int → List Pt → Bool) (hsub : ∀ q l, sub q l = true → Rt q l) (deep : Bool) (a : Int) : ∀ l : List Pt, (∀ i, i < l.length → okI sub deep a l i = true) → Rt a l := by
  intro l
  induction l with
  | nil => exact fun _ => .nil a
  | cons x l ih =>
    intro h
    have ht := ih fun i hi => okI_tail sub deep a x l i (h (i + 1) (by rw [List.length_cons]; omega))
    have h0 := h 0 (by rw [List.length_cons]; omega)
    unfold okI at h0
    rw [rd_zero] at h0
    by_cases h1 : x.f0 = 1
    · rw [if_pos h1, Bool.and_eq_true] at h0
      refine .lit a x l h1 h0.1 (fun y hy hy0 e => ?_) ht
      cases l with
      | nil => cases hy
      | cons z l =>
        obtain rfl : z = y := Option.some.inj hy
        have h2 := h 1 (by simp)
        unfold okI at h2
        have e1 : rd_T33 (x :: z :: l) ((1 : Nat) : Int) = z := rfl
        rw [e1, if_pos hy0, Bool.and_eq_true] at h2
        have h3 := h2.2
        unfold adjB at h3
        have e2 : (((1 : Nat) : Int) - 1) = ((0 : Nat) : Int) := by omega
        rw [e2, rd_zero, e1, h1, e] at h3
        simp at h3
    · rw [if_neg h1] at h0
      by_cases h2 : x.f0 = 2
      · rw [if_pos h2] at h0
        unfold parB at h0
        split at h0
        · cases h0
        split at h0
        · cases h0
        rename_i hp
        split at h0
        · cases h0
        rename_i hq
        have hp : paramB x.f2 = true := by simpa using hp
        split at h0
        · rename_i h3
          have h4 : x.f4 = [] := List.length_eq_zero_iff.1 (of_decide_eq_true h0)
          exact .par a x l h2 hp hq (.inl ⟨h3, h4⟩) (by rw [h4]; exact .nil _) ht
        · split at h0
          · cases h0
          rename_i ho
          have ho : opB x.f3 = true := by simpa using ho
          split at h0
          · cases h0
          exact .par a x l h2 hp hq (.inr ho) (hsub _ _ h0) ht
      · rw [if_neg h2] at h0
        cases h0
theorem rt_of : ∀ (n : Nat) (a : Int) (l : List Pt), partsF n a l = true → Rt a l
  | 0, a, l, h => rt_row (fun _ _ => false) (fun _ _ h => by cases h) false a l fun i hi => (allI_iff _ _ _).1 h i (by omega) (by omega)
  | n + 1, a, l, h => rt_row (partsF n) (fun q l h => rt_of n q l h) true a l fun i hi => (allI_iff _ _ _).1 h i (by omega) (by omega)
def spec (b : UInt8) : Bool := [34, 36, 92, 96, 125].contains b
def esc (l : List UInt8) : List UInt8 := l.flatMap fun b => if spec b = true then [92, b] else [b]
def mark (t : Bool) (x : Pt) : List UInt8 := if x.f1 = true then (if t = true then [] else [34]) else []
def oneL (t : Bool) (x : Pt) (sub : List UInt8) : List UInt8 :=
  if x.f0 = 1 then (if t = true then esc x.f2.data.toList else if x.f1 = true then [39] ++ qz x.f2.data.toList ++ [39] else x.f2.data.toList)
  else mark t x ++ [36, 123] ++ x.f2.data.toList ++ x.f3.data.toList ++ sub ++ [125] ++ mark t x
def wrL (t : Bool) (l : List Pt) : List UInt8 := (l.attach.map fun x => oneL t x.1 (wrL x.1.f1 x.1.f4)).flatten
termination_by SizeOf.sizeOf l
decreasing_by exact size_in x.2
theorem wrL_eq (t : Bool) (l : List Pt) : wrL t l = (l.map fun x => oneL t x (wrL x.f1 x.f4)).flatten := by
  rw [wrL]
  have e : ∀ (g : Pt → List UInt8), (l.attach.map fun x => g x.1) = l.map g := fun g => by simp
  exact congrArg List.flatten (e fun x => oneL t x (wrL x.f1 x.f4))
theorem wrL_nil (t : Bool) : wrL t [] = [] := by rw [wrL_eq]; rfl
theorem wrL_cons (t : Bool) (x : Pt) (l : List Pt) : wrL t (x :: l) = oneL t x (wrL x.f1 x.f4) ++ wrL t l := by
  rw [wrL_eq, wrL_eq t l]
  rfl
theorem wrL_snoc (t : Bool) (l : List Pt) (i : Nat) (h : i < l.length) : wrL t (l.take (i + 1)) = wrL t (l.take i) ++ oneL t l[i] (wrL l[i].f1 l[i].f4) := by
  rw [List.take_succ_eq_append_getElem h, wrL_eq, wrL_eq t (l.take i), List.map_append, List.flatten_append]
  simp
theorem esc_cons (b : UInt8) (l : List UInt8) : esc (b :: l) = (if spec b = true then [92, b] else [b]) ++ esc l := by
  unfold esc
  rw [List.flatMap_cons]
theorem esc_snoc (l : List UInt8) (b : UInt8) : esc (l ++ [b]) = esc l ++ (if spec b = true then [92, b] else [b]) := by
  unfold esc
  rw [List.flatMap_append]
  simp
theorem esc_len : ∀ l : List UInt8, (esc l).length ≤ 2 * l.length
  | [] => by unfold esc; simp
  | b :: l => by
    rw [esc_cons, List.length_append, List.length_cons]
    have := esc_len l
    by_cases h : spec b = true
    · rw [if_pos h]
      show 2 + _ ≤ _
      omega
    · rw [if_neg h]
      show 1 + _ ≤ _
      omega
theorem mark_len (t : Bool) (x : Pt) : (mark t x).length ≤ 1 := by
  unfold mark
  split
  · split <;> simp
  · simp
theorem oneL_len (t : Bool) (x : Pt) (sub : List UInt8) : (oneL t x sub).length ≤ 6 * (1 + x.f2.size + x.f3.size) + sub.length := by
  unfold oneL
  have e2 : x.f2.data.toList.length = x.f2.size := data_length _
  have e3 : x.f3.data.toList.length = x.f3.size := data_length _
  split
  · split
    · have := esc_len x.f2.data.toList
      omega
    · split
      · have := qz_len x.f2.data.toList
        simp only [List.length_append, List.length_cons, List.length_nil]
        omega
      · omega
  · have := mark_len t x
    simp only [List.length_append, List.length_cons, List.length_nil]
    omega
theorem wrL_len : ∀ (N : Nat) (l : List Pt), SizeOf.sizeOf l < N → ∀ t, (wrL t l).length ≤ 6 * wt l
  | 0, l, h, t => absurd h (Nat.not_lt_zero _)
  | N + 1, [], h, t => by rw [wrL_nil]; simp
  | N + 1, x :: l, h, t => by
    have h1 : SizeOf.sizeOf x.f4 < SizeOf.sizeOf (x :: l) := size_in (List.mem_cons_self ..)
    have h2 : SizeOf.sizeOf l < SizeOf.sizeOf (x :: l) := by simp; omega
    have i1 := wrL_len N x.f4 (by omega) x.f1
    have i2 := wrL_len N l (by omega) t
    have i3 := oneL_len t x (wrL x.f1 x.f4)
    rw [wrL_cons, wt_cons, List.length_append]
    omega
theorem wrL_le (t : Bool) (l : List Pt) : (wrL t l).length ≤ 6 * wt l := wrL_len (SizeOf.sizeOf l + 1) l (Nat.lt_succ_self _) t
end Go.Proofs.YtkecpfjmdokieaaDoor.Word
namespace Go.Proofs.YtkecpfjmdokieaaDoor.Word
open Go.RowKit Go.Proofs.YtkecpfjmdokieaaDoorW.PrintWords Go.Proofs.YtkecpfjmdokieaaDoorW.PrintLast Go.Proofs.YtkecpfjmdokieaaDoor.Base Go.Proofs.YtkecpfjmdokieaaDoor.P Go.Proofs.YtkecpfjmdokieaaDoor.NodeOps Go.Proofs.YtkecpfjmdokieaaDoor.Class
set_option linter.unusedVariables false
set_option linter.unusedSimpArgs false
abbrev by2 (s : ByteArray) : List UInt8 := s.data.toList
theorem by2_inj {s t : ByteArray} (h : by2 s = by2 t) : s = t := by
  cases s; cases t
  simp only [by2] at h
  congr 1
  exact Array.toList_inj.1 h
theorem by2_all (s : ByteArray) (p : Int → Bool) (h : (bytesOf s).all p = true) : ∀ b ∈ by2 s, p (b.toNat : Int) = true := by
  intro b hb
  rw [List.all_eq_true] at h
  exact h _ (List.mem_map.2 ⟨b, hb, rfl⟩)
theorem by2_ne (s : ByteArray) (h : neS s = true) : by2 s ≠ [] := by
  intro e
  have h1 := data_length s
  unfold by2 at e
  rw [e] at h1
  unfold neS at h
  have := of_decide_eq_true h
  simp at h1
  omega
theorem all_b {p : UInt8 → Prop} (h : ∀ n : Fin 256, p (UInt8.ofNat n.val)) (b : UInt8) : p b := by
  have := h ⟨b.toNat, b.toNat_lt⟩
  simpa using this
def tagB (a : Int) (b : UInt8) : Nat :=
  if a = 2 then (if b = 125 then 0 else if b = 36 then 4 else 2)
  else if b = 39 then 2 else if b = 34 then 4 else if b = 36 then 3 else if a = 1 ∧ b = 125 then 0 else 1
def tag (a : Int) : List UInt8 → Nat
  | [] => 0
  | b :: _ => tagB a b
def kindP (x : Pt) : Nat := if x.f0 = 1 then (if x.f1 = true then 2 else 1) else (if x.f1 = true then 4 else 3)
def kind : List Pt → Nat
  | [] => 0
  | x :: _ => kindP x
def Stop (a : Int) (r : List UInt8) : Prop := if a = 0 then r = [] else ∃ s, r = 125 :: s
abbrev Pl (a : Int) : Prop := a = 0 ∨ a = 1 ∨ a = 2
abbrev tt (a : Int) : Bool := decide (a = 2)
theorem bare_tag : ∀ b : UInt8, bareB (b.toNat : Int) = true → tagB 0 b = 1 ∧ b ≠ 92 := by
  refine all_b ?_
  decide +kernel
theorem loose_tag : ∀ b : UInt8, (!(bytesOf CH).contains (b.toNat : Int)) = true → tagB 1 b = 1 ∧ b ≠ 92 := by
  refine all_b ?_
  decide +kernel
theorem lit_cases {a : Int} (ha : Pl a) {x : Pt} (h : litB a x = true) : x.f3.size = 0 ∧ x.f4 = [] ∧ ((a = 2 ∧ x.f1 = true ∧ by2 x.f2 ≠ []) ∨ (a ≠ 2 ∧ x.f1 = true) ∨ (a ≠ 2 ∧ x.f1 = false ∧ by2 x.f2 ≠ [] ∧ ∀ b ∈ by2 x.f2, tagB a b = 1 ∧ b ≠ 92)) := by
  unfold litB at h
  split at h
  · rename_i h34
    refine ⟨h34.1, List.length_eq_zero_iff.1 h34.2, ?_⟩
    by_cases h2 : a = 2
    · rw [if_pos h2, Bool.and_eq_true] at h
      exact .inl ⟨h2, h.1, by2_ne _ h.2⟩
    · rw [if_neg h2] at h
      refine .inr ?_
      cases hq : x.f1 with
      | true => exact .inl ⟨h2, rfl⟩
      | false =>
        rw [hq, if_neg (by decide)] at h
        refine .inr ⟨h2, rfl, ?_⟩
        rcases ha with rfl | rfl | rfl
        · rw [if_neg (by decide), Bool.and_eq_true] at h
          exact ⟨by2_ne _ h.1, fun b hb => bare_tag b (by2_all _ _ h.2 b hb)⟩
        · rw [if_pos rfl, Bool.and_eq_true] at h
          exact ⟨by2_ne _ h.1, fun b hb => loose_tag b (by2_all _ _ h.2 b hb)⟩
        · exact absurd rfl h2
  · cases h
theorem one_q {t : Bool} {x : Pt} (h0 : x.f0 = 1) (ht : t = false) (hq : x.f1 = true) (s : List UInt8) : oneL t x s = 39 :: (qz (by2 x.f2) ++ [39]) := by
  unfold oneL
  rw [if_pos h0, ht, if_neg (by decide), hq, if_pos rfl]
  rfl
theorem one_b {t : Bool} {x : Pt} (h0 : x.f0 = 1) (ht : t = false) (hq : x.f1 = false) (s : List UInt8) : oneL t x s = by2 x.f2 := by
  unfold oneL
  rw [if_pos h0, ht, if_neg (by decide), hq, if_neg (by decide)]
theorem one_t {t : Bool} {x : Pt} (h0 : x.f0 = 1) (ht : t = true) (s : List UInt8) : oneL t x s = esc (by2 x.f2) := by
  unfold oneL
  rw [if_pos h0, ht, if_pos rfl]
theorem one_p {t : Bool} {x : Pt} (h0 : x.f0 = 2) (s : List UInt8) : oneL t x s = mark t x ++ (36 :: 123 :: (by2 x.f2 ++ (by2 x.f3 ++ (s ++ (125 :: mark t x))))) := by
  unfold oneL
  rw [if_neg (by rw [h0]; decide)]
  simp [by2]
theorem esc_head (b : UInt8) : spec b = false → b ≠ 125 ∧ b ≠ 36 ∧ b ≠ 92 := by
  revert b
  refine all_b ?_
  decide +kernel
theorem tag_one {a : Int} (ha : Pl a) {x : Pt} (h : (x.f0 = 1 ∧ litB a x = true) ∨ (x.f0 = 2 ∧ ¬ (a = 2 ∧ x.f1 = false))) (s z : List UInt8) :
    tag a (oneL (tt a) x s ++ z) = kindP x ∧ (oneL (tt a) x s ++ z).head? ≠ none ∧ (a ≠ 2 → (oneL (tt a) x s ++ z).head? ≠ some 92) := by
  rcases h with ⟨h0, hl⟩ | ⟨h0, hq⟩
  · have hk : kindP x = if x.f1 = true then 2 else 1 := if_pos h0
    obtain ⟨_, _, h⟩ := lit_cases ha hl
    rcases h with ⟨rfl, hq, hne⟩ | ⟨h2, hq⟩ | ⟨h2, hq, hne, hall⟩
    · rw [one_t (t := tt 2) h0 rfl, hk, hq, if_pos rfl]
      cases hb : by2 x.f2 with
      | nil => exact absurd hb hne
      | cons b l =>
        rw [esc_cons]
        by_cases hs : spec b = true
        · rw [if_pos hs]
          exact ⟨rfl, by simp, fun h => absurd rfl h⟩
        · rw [if_neg hs]
          obtain ⟨h1, h2, _⟩ := esc_head b (by simpa using hs)
          refine ⟨?_, by simp, fun h => absurd rfl h⟩
          show tagB 2 b = 2
          unfold tagB
          rw [if_pos rfl, if_neg h1, if_neg h2]
    · rw [one_q h0 (decide_eq_false h2) hq, hk, hq, if_pos rfl]
      refine ⟨?_, by simp, fun _ => by simp⟩
      show tagB a 39 = 2
      unfold tagB
      rw [if_neg h2, if_pos rfl]
    · rw [one_b h0 (decide_eq_false h2) hq, hk, hq, if_neg (by decide)]
      cases hb : by2 x.f2 with
      | nil => exact absurd hb hne
      | cons b l =>
        obtain ⟨h1, h3⟩ := hall b (by rw [hb]; exact List.mem_cons_self ..)
        exact ⟨h1, by simp, fun _ => by simpa using h3⟩
  · have hk : kindP x = if x.f1 = true then 4 else 3 := if_neg (by rw [h0]; decide)
    rw [one_p h0, hk]
    unfold mark
    cases hq1 : x.f1 with
    | false =>
      rw [if_neg (by decide), if_neg (by decide)]
      have h2 : a ≠ 2 := fun e => hq ⟨e, hq1⟩
      refine ⟨?_, by simp, fun _ => by simp⟩
      show tagB a 36 = 3
      unfold tagB
      rw [if_neg h2, if_neg (by decide), if_neg (by decide), if_pos rfl]
    | true =>
      rw [if_pos rfl, if_pos rfl]
      by_cases h2 : a = 2
      · subst h2
        exact ⟨rfl, by simp, fun h => absurd rfl h⟩
      · rw [show tt a = false from decide_eq_false h2, if_neg (by decide)]
        refine ⟨?_, by simp, fun _ => by simp⟩
        show tagB a 34 = 4
        unfold tagB
        rw [if_neg h2, if_neg (by decide), if_pos rfl]
theorem tag_row {a : Int} (ha : Pl a) {l : List Pt} (h : Rt a l) {r : List UInt8} (hr : Stop a r) : tag a (wrL (tt a) l ++ r) = kind l ∧ (a ≠ 2 → (wrL (tt a) l ++ r).head? ≠ some 92) := by
  cases h with
  | nil =>
    rw [wrL_nil, List.nil_append]
    unfold Stop at hr
    split at hr
    · subst hr
      exact ⟨rfl, fun _ => by simp⟩
    · rename_i h0
      obtain ⟨s, rfl⟩ := hr
      refine ⟨?_, fun _ => by simp⟩
      show tagB a 125 = 0
      rcases ha with rfl | rfl | rfl
      · exact absurd rfl h0
      · rfl
      · rfl
  | lit _ x l h0 hl hadj ht =>
    rw [wrL_cons, List.append_assoc]
    have := tag_one ha (.inl ⟨h0, hl⟩) (wrL x.f1 x.f4) (wrL (tt a) l ++ r)
    exact ⟨this.1, this.2.2⟩
  | par _ x l h0 hp hq ho hs ht =>
    rw [wrL_cons, List.append_assoc]
    have := tag_one ha (.inr ⟨h0, hq⟩) (wrL x.f1 x.f4) (wrL (tt a) l ++ r)
    exact ⟨this.1, this.2.2⟩
theorem span_eq (p : UInt8 → Bool) : ∀ (u u' z z' : List UInt8), (∀ b ∈ u, p b = true) → (∀ b ∈ u', p b = true) → (∀ b, z.head? = some b → p b = false) → (∀ b, z'.head? = some b → p b = false) → u ++ z = u' ++ z' → u = u' ∧ z = z'
  | [], [], z, z', _, _, _, _, h => ⟨rfl, h⟩
  | [], b :: u', z, z', _, h2, h3, _, h => by
    rw [List.nil_append] at h
    have h4 := h3 b (by rw [h]; rfl)
    rw [h2 b (List.mem_cons_self ..)] at h4
    cases h4
  | b :: u, [], z, z', h1, _, _, h3, h => by
    rw [List.nil_append] at h
    have h4 := h3 b (by rw [← h]; rfl)
    rw [h1 b (List.mem_cons_self ..)] at h4
    cases h4
  | b :: u, b' :: u', z, z', h1, h2, h3, h4, h => by
    obtain ⟨e1, e2⟩ := List.cons.inj h
    obtain ⟨e3, e4⟩ := span_eq p u u' z z' (fun b hb => h1 b (List.mem_cons_of_mem _ hb)) (fun b hb => h2 b (List.mem_cons_of_mem _ hb)) h3 h4 e2
    rw [e1, e3]
    exact ⟨rfl, e4⟩
theorem qz_eq : ∀ (u u' z z' : List UInt8), z.head? ≠ some 92 → z'.head? ≠ some 92 → qz u ++ 39 :: z = qz u' ++ 39 :: z' → u = u' ∧ z = z'
  | [], [], z, z', _, _, h => ⟨rfl, (List.cons.inj h).2⟩
  | [], b :: u', z, z', h1, _, h => by
    exfalso
    rw [qz_cons] at h
    by_cases hb : b = 39
    · rw [if_pos hb] at h
      have h2 := (List.cons.inj h).2
      exact h1 (by rw [h2]; rfl)
    · rw [if_neg hb] at h
      exact hb (List.cons.inj h).1.symm
  | b :: u, [], z, z', _, h1, h => by
    exfalso
    rw [qz_cons] at h
    by_cases hb : b = 39
    · rw [if_pos hb] at h
      have h2 := (List.cons.inj h).2
      exact h1 (by rw [← h2]; rfl)
    · rw [if_neg hb] at h
      exact hb (List.cons.inj h).1
  | b :: u, b' :: u', z, z', h1, h2, h => by
    rw [qz_cons, qz_cons] at h
    by_cases hb : b = 39
    · rw [if_pos hb] at h
      by_cases hb' : b' = 39
      · rw [if_pos hb'] at h
        simp only [R4, List.cons_append, List.nil_append, List.append_assoc, List.cons.injEq, true_and] at h
        obtain ⟨e1, e2⟩ := qz_eq u u' z z' h1 h2 h
        rw [hb, hb', e1]
        exact ⟨rfl, e2⟩
      · rw [if_neg hb'] at h
        exact absurd (List.cons.inj h).1.symm hb'
    · rw [if_neg hb] at h
      by_cases hb' : b' = 39
      · rw [if_pos hb'] at h
        exact absurd (List.cons.inj h).1 hb
      · rw [if_neg hb'] at h
        obtain ⟨e0, h⟩ := List.cons.inj h
        obtain ⟨e1, e2⟩ := qz_eq u u' z z' h1 h2 h
        rw [e0, e1]
        exact ⟨rfl, e2⟩
def Ends (z : List UInt8) : Prop := z.head? = some 36 ∨ z.head? = some 125
theorem esc_no (b : UInt8) (u z : List UInt8) (h : Ends (esc (b :: u) ++ z)) : False := by
  rw [esc_cons] at h
  unfold Ends at h
  by_cases hs : spec b = true
  · rw [if_pos hs] at h
    simp at h
  · rw [if_neg hs] at h
    obtain ⟨h1, h2, _⟩ := esc_head b (by simpa using hs)
    simp [h1, h2] at h
theorem esc_eq : ∀ (u u' z z' : List UInt8), Ends z → Ends z' → esc u ++ z = esc u' ++ z' → u = u' ∧ z = z'
  | [], [], z, z', _, _, h => ⟨rfl, h⟩
  | [], b :: u', z, z', h1, _, h => by
    rw [show esc [] ++ z = z from rfl] at h
    rw [h] at h1
    exact (esc_no _ _ _ h1).elim
  | b :: u, [], z, z', _, h1, h => by
    rw [show esc [] ++ z' = z' from rfl] at h
    rw [← h] at h1
    exact (esc_no _ _ _ h1).elim
  | b :: u, b' :: u', z, z', h1, h2, h => by
    rw [esc_cons, esc_cons] at h
    by_cases hb : spec b = true
    · rw [if_pos hb] at h
      by_cases hb' : spec b' = true
      · rw [if_pos hb'] at h
        simp only [List.cons_append, List.nil_append, List.append_assoc, List.cons.injEq, true_and] at h
        obtain ⟨e1, e2⟩ := esc_eq u u' z z' h1 h2 h.2
        rw [h.1, e1]
        exact ⟨rfl, e2⟩
      · rw [if_neg hb'] at h
        exact absurd (List.cons.inj h).1.symm (esc_head b' (by simpa using hb')).2.2
    · rw [if_neg hb] at h
      by_cases hb' : spec b' = true
      · rw [if_pos hb'] at h
        exact absurd (List.cons.inj h).1 (esc_head b (by simpa using hb)).2.2
      · rw [if_neg hb'] at h
        obtain ⟨e0, h⟩ := List.cons.inj h
        obtain ⟨e1, e2⟩ := esc_eq u u' z z' h1 h2 h
        rw [e0, e1]
        exact ⟨rfl, e2⟩
def lod (b : UInt8) : Bool := letterB (b.toNat : Int) || digitB (b.toNat : Int)
def opH (b : UInt8) : Bool := [125, 58, 45, 61, 43, 63].contains b
theorem opH_lod : ∀ b : UInt8, opH b = true → lod b = false := by
  refine all_b ?_
  decide +kernel
theorem set_lod : ∀ b : UInt8, setB (b.toNat : Int) = true → lod b = false := by
  refine all_b ?_
  decide +kernel
theorem by2_bt (s : ByteArray) (b : UInt8) (u : List UInt8) (h : by2 s = b :: u) : bt s 0 = (b.toNat : Int) := by
  have hz : 0 < s.size := by
    have := data_length s
    unfold by2 at h
    rw [h] at this
    simp at this
    omega
  have h1 := bytes_get s 0 hz
  have h2 : bytesOf s = (by2 s).map fun b => (b.toNat : Int) := rfl
  rw [show ((0 : Nat) : Int) = 0 from rfl] at h1
  rw [← h1]
  simp [h2, h]
theorem param_cases {s : ByteArray} (h : paramB s = true) : (∃ b, by2 s = [b] ∧ lod b = false) ∨ (by2 s ≠ [] ∧ ∀ b ∈ by2 s, lod b = true) := by
  have hz := data_length s
  unfold paramB at h
  rw [Bool.or_eq_true, Bool.or_eq_true] at h
  have hne : 0 < s.size → by2 s ≠ [] := fun h0 e => by unfold by2 at e; rw [e] at hz; simp at hz; omega
  rcases h with (h | h) | h
  · rw [Bool.and_eq_true, Bool.or_eq_true] at h
    have h1 := of_decide_eq_true h.1
    obtain ⟨b, hb⟩ : ∃ b, by2 s = [b] := List.length_eq_one_iff.1 (by unfold by2; omega)
    rw [by2_bt s b [] hb] at h
    rcases h.2 with h2 | h2
    · refine .inr ⟨hne (by omega), fun c hc => ?_⟩
      rw [hb] at hc
      obtain rfl : c = b := by simpa using hc
      unfold lod
      rw [h2, Bool.or_true]
    · exact .inl ⟨b, hb, set_lod b h2⟩
  · have h1 := (name_iff s).1 h
    have h2 := (all_iff s (fun c => letterB c || digitB c)).2 h1.2.2
    exact .inr ⟨hne (by omega), fun b hb => by2_all s _ h2 b hb⟩
  · rw [Bool.and_eq_true, Bool.and_eq_true, Bool.and_eq_true] at h
    refine .inr ⟨hne (by have := of_decide_eq_true h.1.1.2; omega), fun b hb => ?_⟩
    have := by2_all s _ h.1.1.1 b hb
    unfold lod
    rw [this, Bool.or_true]
theorem name_eq {s s' : ByteArray} {z z' : List UInt8} (h : paramB s = true) (h' : paramB s' = true) (hz : ∀ b, z.head? = some b → lod b = false) (hz' : ∀ b, z'.head? = some b → lod b = false) (e : by2 s ++ z = by2 s' ++ z') : s = s' ∧ z = z' := by
  rcases param_cases h with ⟨b, hb, hl⟩ | ⟨hne, hall⟩ <;> rcases param_cases h' with ⟨b', hb', hl'⟩ | ⟨hne', hall'⟩
  · rw [hb, hb'] at e
    obtain ⟨e1, e2⟩ := List.cons.inj e
    exact ⟨by2_inj (by rw [hb, hb', e1]), e2⟩
  · exfalso
    rw [hb] at e
    cases hs : by2 s' with
    | nil => exact hne' hs
    | cons c u =>
      rw [hs] at e
      have := hall' c (by rw [hs]; exact List.mem_cons_self ..)
      rw [← (List.cons.inj e).1, hl] at this
      cases this
  · exfalso
    rw [hb'] at e
    cases hs : by2 s with
    | nil => exact hne hs
    | cons c u =>
      rw [hs] at e
      have := hall c (by rw [hs]; exact List.mem_cons_self ..)
      rw [(List.cons.inj e).1, hl'] at this
      cases this
  · obtain ⟨e1, e2⟩ := span_eq lod _ _ _ _ hall hall' hz hz' e
    exact ⟨by2_inj e1, e2⟩
def OpOk (o : ByteArray) (f : List Pt) : Prop := o.size = 0 ∧ f = [] ∨ opB o = true
theorem op_mem {o : ByteArray} {f : List Pt} (h : OpOk o f) : (by2 o = [] ∧ f = []) ∨ by2 o ∈ OPS := by
  rcases h with ⟨h, e⟩ | h
  · refine .inl ⟨List.length_eq_zero_iff.1 ?_, e⟩
    have := data_length o
    unfold by2
    omega
  · unfold opB at h
    have := of_decide_eq_true h
    rw [Go.Lib.toList_data] at this
    exact .inr this
theorem op_head {o : ByteArray} {f : List Pt} (h : OpOk o f) (s z : List UInt8) (hs : f = [] → s = []) : ∀ b, (by2 o ++ (s ++ 125 :: z)).head? = some b → lod b = false := by
  intro b hb
  refine opH_lod b ?_
  rcases op_mem h with ⟨h, e⟩ | h
  · rw [h, hs e] at hb
    obtain rfl : (125 : UInt8) = b := by simpa using hb
    rfl
  · unfold OPS at h
    simp only [List.mem_cons, List.not_mem_nil, or_false] at h
    rcases h with h | h | h | h | h | h | h | h <;> (rw [h] at hb; simp at hb; subst hb; rfl)
theorem op_eq {o o' : ByteArray} {f f' : List Pt} (h : OpOk o f) (h' : OpOk o' f') (s s' z z' : List UInt8) (hs : f = [] → s = []) (hs' : f' = [] → s' = []) (e : by2 o ++ (s ++ 125 :: z) = by2 o' ++ (s' ++ 125 :: z')) : o = o' ∧ s ++ 125 :: z = s' ++ 125 :: z' := by
  suffices by2 o = by2 o' ∧ s ++ 125 :: z = s' ++ 125 :: z' from ⟨by2_inj this.1, this.2⟩
  rcases op_mem h with ⟨h1, e1⟩ | h1 <;> rcases op_mem h' with ⟨h2, e2⟩ | h2
  · rw [h1, h2] at e ⊢
    exact ⟨rfl, e⟩
  · exfalso
    rw [h1, hs e1] at e
    unfold OPS at h2
    simp only [List.mem_cons, List.not_mem_nil, or_false] at h2
    rcases h2 with h | h | h | h | h | h | h | h <;> (rw [h] at e; simp at e)
  · exfalso
    rw [h2, hs' e2] at e
    unfold OPS at h1
    simp only [List.mem_cons, List.not_mem_nil, or_false] at h1
    rcases h1 with h | h | h | h | h | h | h | h <;> (rw [h] at e; simp at e)
  · generalize by2 o = p at *
    generalize by2 o' = p' at *
    generalize s ++ 125 :: z = y at *
    generalize s' ++ 125 :: z' = y' at *
    unfold OPS at h1 h2
    simp only [List.mem_cons, List.not_mem_nil, or_false] at h1 h2
    rcases h1 with h1 | h1 | h1 | h1 | h1 | h1 | h1 | h1 <;> rcases h2 with h2 | h2 | h2 | h2 | h2 | h2 | h2 | h2 <;> (subst h1; subst h2; first | exact ⟨rfl, (List.cons.inj e).2⟩ | exact ⟨rfl, (List.cons.inj (List.cons.inj e).2).2⟩ | (exfalso; simp at e; done) | (exfalso; simp at e))
theorem kind_lit {x : Pt} (h : x.f0 = 1) : kindP x = if x.f1 = true then 2 else 1 := if_pos h
theorem kind_par {x : Pt} (h : x.f0 = 2) : kindP x = if x.f1 = true then 4 else 3 := if_neg (by rw [h]; decide)
theorem kind_same {x y : Pt} (hx : x.f0 = 1 ∨ x.f0 = 2) (hy : y.f0 = 1 ∨ y.f0 = 2) (h : kindP x = kindP y) : x.f0 = y.f0 ∧ x.f1 = y.f1 := by
  rcases hx with hx | hx <;> rcases hy with hy | hy
  · rw [kind_lit hx, kind_lit hy] at h
    refine ⟨hx.trans hy.symm, ?_⟩
    revert h
    cases x.f1 <;> cases y.f1 <;> simp
  · rw [kind_lit hx, kind_par hy] at h
    exfalso
    revert h
    cases x.f1 <;> cases y.f1 <;> simp
  · rw [kind_par hx, kind_lit hy] at h
    exfalso
    revert h
    cases x.f1 <;> cases y.f1 <;> simp
  · rw [kind_par hx, kind_par hy] at h
    refine ⟨hx.trans hy.symm, ?_⟩
    revert h
    cases x.f1 <;> cases y.f1 <;> simp
theorem kindP_pos (x : Pt) : kindP x ≠ 0 := by unfold kindP; repeat' split
                                               all_goals decide
theorem pt_ext {x y : Pt} (h0 : x.f0 = y.f0) (h1 : x.f1 = y.f1) (h2 : x.f2 = y.f2) (h3 : x.f3 = y.f3) (h4 : x.f4 = y.f4) : x = y := by
  cases x; cases y; simp_all
theorem size0 {s t : ByteArray} (h : s.size = 0) (h' : t.size = 0) : s = t := by
  refine by2_inj ?_
  have h1 := data_length s
  have h2 := data_length t
  unfold by2
  rw [List.length_eq_zero_iff.1 (h1.trans h), List.length_eq_zero_iff.1 (h2.trans h')]
theorem lit_eq {a : Int} (ha : Pl a) {x y : Pt} {l l' : List Pt} (hx : x.f0 = 1) (hy : y.f0 = 1) (hq : x.f1 = y.f1) (hlx : litB a x = true) (hly : litB a y = true) (hax : ∀ y, l.head? = some y → y.f0 = 1 → y.f1 ≠ x.f1) (hay : ∀ z, l'.head? = some z → z.f0 = 1 → z.f1 ≠ y.f1) (ht : Rt a l) (ht' : Rt a l') {r r' : List UInt8} (hr : Stop a r) (hr' : Stop a r') (s s' : List UInt8) (e : oneL (tt a) x s ++ (wrL (tt a) l ++ r) = oneL (tt a) y s' ++ (wrL (tt a) l' ++ r')) : x = y ∧ wrL (tt a) l ++ r = wrL (tt a) l' ++ r' := by
  obtain ⟨hx3, hx4, hcx⟩ := lit_cases ha hlx
  obtain ⟨hy3, hy4, hcy⟩ := lit_cases ha hly
  suffices by2 x.f2 = by2 y.f2 ∧ wrL (tt a) l ++ r = wrL (tt a) l' ++ r' from ⟨pt_ext (hx.trans hy.symm) hq (by2_inj this.1) (size0 hx3 hy3) (hx4.trans hy4.symm), this.2⟩
  obtain ⟨g1, g2⟩ := tag_row ha ht hr
  obtain ⟨g3, g4⟩ := tag_row ha ht' hr'
  have nk : ∀ (m : List Pt) (q : Bool), (∀ y, m.head? = some y → y.f0 = 1 → y.f1 ≠ q) → kind m ≠ if q = true then 2 else 1 := by
    intro m q h e
    cases m with
    | nil => revert e; cases q <;> simp [kind]
    | cons y m =>
      by_cases h0 : y.f0 = 1
      · have := h y rfl h0
        rw [show kind (y :: m) = kindP y from rfl, kind_lit h0] at e
        revert e this
        cases q <;> cases y.f1 <;> simp
      · rw [show kind (y :: m) = if y.f1 = true then 4 else 3 from if_neg h0] at e
        revert e
        cases q <;> cases y.f1 <;> simp
  have n1 := nk l x.f1 hax
  have n2 := nk l' x.f1 (by rw [hq]; exact hay)
  rcases hcx with ⟨h2, hqx, hne⟩ | ⟨h2, hqx⟩ | ⟨h2, hqx, hne, hall⟩
  · subst h2
    rw [one_t (t := tt 2) hx rfl, one_t (t := tt 2) hy rfl] at e
    rw [hqx, if_pos rfl] at n1 n2
    have ends : ∀ z : List UInt8, ∀ m : List Pt, Rt 2 m → tag 2 z = kind m → kind m ≠ 2 → z ≠ [] → Ends z := by
      intro z m _ h1 h2 h3
      cases z with
      | nil => exact absurd rfl h3
      | cons b z =>
        rw [show tag 2 (b :: z) = tagB 2 b from rfl] at h1
        unfold tagB at h1
        rw [if_pos rfl] at h1
        by_cases hb : b = 125
        · rw [hb]; exact .inr rfl
        · rw [if_neg hb] at h1
          by_cases hb2 : b = 36
          · rw [hb2]; exact .inl rfl
          · rw [if_neg hb2] at h1
            exact absurd h1.symm h2
    have nn : ∀ (m : List Pt) (r : List UInt8), Stop 2 r → wrL (tt 2) m ++ r ≠ [] := by
      intro m r h e
      unfold Stop at h
      rw [if_neg (by decide)] at h
      obtain ⟨s, rfl⟩ := h
      simp at e
    exact esc_eq _ _ _ _ (ends _ l ht g1 n1 (nn _ _ hr)) (ends _ l' ht' g3 n2 (nn _ _ hr')) e
  · rw [one_q hx (decide_eq_false h2) hqx, one_q hy (decide_eq_false h2) (hq ▸ hqx)] at e
    simp only [List.cons_append, List.append_assoc, List.nil_append, List.cons.injEq, true_and] at e
    exact qz_eq _ _ _ _ (g2 h2) (g4 h2) e
  · rw [one_b hx (decide_eq_false h2) hqx, one_b hy (decide_eq_false h2) (hq ▸ hqx)] at e
    rw [hqx, if_neg (by decide)] at n1 n2
    have hall' : ∀ b ∈ by2 y.f2, tagB a b = 1 ∧ b ≠ 92 := by
      rcases hcy with ⟨h, _⟩ | ⟨_, h⟩ | ⟨_, _, _, h⟩
      · exact absurd h h2
      · rw [← hq, hqx] at h; cases h
      · exact h
    have hd : ∀ (z : List UInt8) (m : List Pt), tag a z = kind m → kind m ≠ 1 → ∀ b, z.head? = some b → decide (tagB a b = 1) = false := by
      intro z m h1 h2 b hb
      cases z with
      | nil => cases hb
      | cons c z =>
        obtain rfl : c = b := by simpa using hb
        refine decide_eq_false fun h => h2 ?_
        rw [← h1]
        exact h
    exact span_eq (fun b => decide (tagB a b = 1)) _ _ _ _ (fun b hb => decide_eq_true (hall b hb).1) (fun b hb => decide_eq_true (hall' b hb).1) (hd _ l g1 n1) (hd _ l' g3 n2) e
theorem next_pl (q : Bool) : Pl (nextI q) ∧ tt (nextI q) = q ∧ nextI q ≠ 0 := by
  cases q
  · exact ⟨.inr (.inl rfl), rfl, by decide⟩
  · exact ⟨.inr (.inr rfl), rfl, by decide⟩
theorem inj_any {a : Int} {l : List Pt} (h : Rt a l) : Pl a → ∀ (l' : List Pt) (r r' : List UInt8), Rt a l' → Stop a r → Stop a r' → wrL (tt a) l ++ r = wrL (tt a) l' ++ r' → l = l' ∧ r = r' := by
  induction h with
  | nil a =>
    intro ha l' r r' h' hr hr' e
    have g1 := (tag_row ha (.nil a) hr).1
    have g2 := (tag_row ha h' hr').1
    rw [e, g2] at g1
    cases l' with
    | nil =>
      rw [wrL_nil] at e
      exact ⟨rfl, e⟩
    | cons y l' => exact absurd g1 (kindP_pos y)
  | lit a x l h0 hl hadj ht ih =>
    intro ha l' r r' h' hr hr' e
    have g1 := (tag_row ha (.lit a x l h0 hl hadj ht) hr).1
    have g2 := (tag_row ha h' hr').1
    rw [e, g2] at g1
    rw [show kind (x :: l) = kindP x from rfl] at g1
    cases h' with
    | nil => exact absurd g1.symm (kindP_pos x)
    | lit _ y l2 h0' hl' hadj' ht' =>
      obtain ⟨_, e1⟩ := kind_same (.inl h0') (.inl h0) g1
      rw [wrL_cons, wrL_cons, List.append_assoc, List.append_assoc] at e
      obtain ⟨e2, e3⟩ := lit_eq ha h0 h0' e1.symm hl hl' hadj hadj' ht ht' hr hr' _ _ e
      obtain ⟨e4, e5⟩ := ih ha l2 r r' ht' hr hr' e3
      rw [e2, e4]
      exact ⟨rfl, e5⟩
    | par _ y l2 h0' hp' hq' ho' hs' ht' =>
      have := (kind_same (.inr h0') (.inl h0) g1).1
      rw [h0, h0'] at this
      exact absurd this (by decide)
  | par a x l h0 hp hq ho hs ht ihs ih =>
    intro ha l' r r' h' hr hr' e
    have g1 := (tag_row ha (.par a x l h0 hp hq ho hs ht) hr).1
    have g2 := (tag_row ha h' hr').1
    rw [e, g2] at g1
    rw [show kind (x :: l) = kindP x from rfl] at g1
    cases h' with
    | nil => exact absurd g1.symm (kindP_pos x)
    | lit _ y l2 h0' hl' hadj' ht' =>
      have := (kind_same (.inl h0') (.inr h0) g1).1
      rw [h0, h0'] at this
      exact absurd this (by decide)
    | par _ y l2 h0' hp' hq' ho' hs' ht' =>
      obtain ⟨_, e1⟩ := kind_same (.inr h0') (.inr h0) g1
      rw [wrL_cons, wrL_cons, List.append_assoc, List.append_assoc, one_p h0, one_p h0'] at e
      have hm : mark (tt a) y = mark (tt a) x := by unfold mark; rw [e1]
      rw [hm] at e
      simp only [List.append_assoc, List.cons_append] at e
      have e := (List.append_right_inj _).1 e
      simp only [List.cons.injEq, true_and] at e
      have n1 : x.f4 = [] → wrL x.f1 x.f4 = [] := fun h => by rw [h, wrL_nil]
      have n2 : y.f4 = [] → wrL y.f1 y.f4 = [] := fun h => by rw [h, wrL_nil]
      obtain ⟨e2, e⟩ := name_eq hp hp' (op_head ho _ _ n1) (op_head ho' _ _ n2) e
      obtain ⟨e3, e⟩ := op_eq ho ho' _ _ _ _ n1 n2 e
      obtain ⟨p1, p2, p3⟩ := next_pl x.f1
      have hst : ∀ z, Stop (nextI x.f1) (125 :: z) := fun z => by
        unfold Stop
        rw [if_neg p3]
        exact ⟨z, rfl⟩
      rw [e1] at e hs'
      obtain ⟨e4, e5⟩ := ihs p1 y.f4 _ _ hs' (hst _) (hst _) (by rw [p2]; exact e)
      have e6 := (List.append_right_inj _).1 (List.cons.inj e5).2
      obtain ⟨e7, e8⟩ := ih ha l2 r r' ht' hr hr' e6
      rw [pt_ext (h0.trans h0'.symm) e1.symm e2 e3 e4, e7]
      exact ⟨rfl, e8⟩
theorem wrL_inj {l l' : List Pt} (h : Rt 0 l) (h' : Rt 0 l') (e : wrL false l = wrL false l') : l = l' := by
  have hr : Stop 0 [] := rfl
  exact (inj_any h (.inl rfl) l' [] [] h' hr hr (by rw [show tt 0 = false from rfl, e])).1
theorem wrL_empty {l : List Pt} (h : Rt 0 l) (e : wrL false l = []) : l = [] := wrL_inj h (.nil 0) (by rw [e, wrL_nil])
end Go.Proofs.YtkecpfjmdokieaaDoor.Word
namespace Go.Proofs.YtkecpfjmdokieaaDoor.P
open Go.RowKit Go.Proofs.YtkecpfjmdokieaaDoorW.PrintWords Go.Proofs.YtkecpfjmdokieaaDoorW.PrintLast Go.Proofs.YtkecpfjmdokieaaDoorW.PrintMore
attribute [local go_sem] max2_int min2_int max_two min_two max_three min_three max_four min_four   -- for this text's walks alone
set_option linter.unusedVariables false
set_option linter.unusedSimpArgs false
end Go.Proofs.YtkecpfjmdokieaaDoor.P
namespace Go.Proofs.YtkecpfjmdokieaaDoor.P
open Go.RowKit Go.Proofs.YtkecpfjmdokieaaDoorW.PrintWords Go.Proofs.YtkecpfjmdokieaaDoorW.PrintLast Go.Proofs.YtkecpfjmdokieaaDoorW.PrintMore
attribute [local go_sem] max2_int min2_int max_two min_two max_three min_three max_four min_four   -- for this text's walks alone
set_option linter.unusedVariables false
set_option linter.unusedSimpArgs false
end Go.Proofs.YtkecpfjmdokieaaDoor.P
namespace Go.Proofs.YtkecpfjmdokieaaDoor.Word
open Go.RowKit Go.Proofs.YtkecpfjmdokieaaDoorW.PrintWords Go.Proofs.YtkecpfjmdokieaaDoorW.PrintLast Go.Proofs.YtkecpfjmdokieaaDoor.Base Go.Proofs.YtkecpfjmdokieaaDoor.P Go.Proofs.YtkecpfjmdokieaaDoor.NodeOps Go.Proofs.YtkecpfjmdokieaaDoor.Class
set_option linter.unusedVariables false
set_option linter.unusedSimpArgs false
def bs (l : List UInt8) : ByteArray := ⟨l.toArray⟩
theorem by2_bs (l : List UInt8) : by2 (bs l) = l := by simp [by2, bs]
theorem by2_size (s : ByteArray) : s.size = (by2 s).length := (data_length s).symm
theorem bs_size (l : List UInt8) : (bs l).size = l.length := by rw [by2_size, by2_bs]
theorem size_app (a b : ByteArray) : (a ++ b).size = a.size + b.size := ByteArray.size_append
theorem wrL_app (t : Bool) (a b : List Pt) : wrL t (a ++ b) = wrL t a ++ wrL t b := by
  rw [wrL_eq, wrL_eq t a, wrL_eq t b, List.map_append, List.flatten_append]
theorem wrL_take (t : Bool) (l : List Pt) (i : Nat) : (wrL t (l.take i)).length ≤ (wrL t l).length := by
  have h := wrL_app t (l.take i) (l.drop i)
  rw [List.take_append_drop] at h
  rw [h, List.length_append]
  omega
theorem cut1 (s : ByteArray) (j : Nat) (h : j < s.size) : ∃ b, (by2 s).take (j + 1) = (by2 s).take j ++ [b] ∧ bt s j = (b.toNat : Int) ∧ s.extract j (j + 1) = bs [b] := by
  have hj : j < (by2 s).length := by rw [← by2_size]; exact h
  refine ⟨(by2 s)[j], List.take_succ_eq_append_getElem hj, ?_, ?_⟩
  · rw [← bt_nat s j h]
    simp [by2, ByteArray.getElem_eq_getElem_data]
  · refine by2_inj ?_
    rw [by2_bs]
    unfold by2
    rw [ByteArray.data_extract, Array.toList_extract]
    show (List.take (j + 1 - j) (List.drop j (by2 s))) = _
    rw [List.drop_eq_getElem_cons hj]
    simp
section
variable (l : List Pt) (at_ : Int) (i : Nat) (r : ByteArray)
end
end Go.Proofs.YtkecpfjmdokieaaDoor.Word
namespace Go.Proofs.YtkecpfjmdokieaaDoor.Word
open Go.RowKit Go.Proofs.YtkecpfjmdokieaaDoorW.PrintWords Go.Proofs.YtkecpfjmdokieaaDoorW.PrintLast Go.Proofs.YtkecpfjmdokieaaDoor.Base Go.Proofs.YtkecpfjmdokieaaDoor.P Go.Proofs.YtkecpfjmdokieaaDoor.NodeOps Go.Proofs.YtkecpfjmdokieaaDoor.Class
set_option linter.unusedVariables false
set_option linter.unusedSimpArgs false
section
variable {ops : Array Oper} {rest : List Oper} {o : Oper} {a : Act} {Q : Exit → Act → World → Prop}
end
abbrev hd0 (l : List Pt) : Pt := rd_T33 l 0
section
variable {A : Option Addr} {n c : Nat} {l : List Pt} {w : World}
end
end Go.Proofs.YtkecpfjmdokieaaDoor.Word
