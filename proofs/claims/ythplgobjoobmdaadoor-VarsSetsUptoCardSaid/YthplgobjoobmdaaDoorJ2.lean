/- VarsSets: for every scope, name and value of bulk at most 1048576 the law returns true and leaves them as they were: the second form of the row, and its card. No further condition. -/
/- texts of this claim, one behind the other: Seq Base Shelf Class2 Class3 VarNum VarBase VarOps VarSet VarGet Iter IterK VarNames SeqMore VarMore VarAlive VarOf VarLaw OpensK UptoShape VarsSets -/
import Derived.Test.YthplgobjoobmdaaDoorJ1
import Derived.WalkKit
import Derived.KernelRfl
import Derived.Test.YthplgobjoobmdaaDoorProg
import Derived.RowKit3
import Derived.Deep.LoopGhost
import Derived.Deep.QuietTactic
import Derived.BigQuiet
import Derived.WideLaws
import Derived.Deep.DeepCutAuto
import Derived.Deep.CutBlock
import Derived.Shelf.Strings.Builder1
import Derived.Shelf.Strings.Builder2
import Derived.Shelf.Strings.OnBuilder
import Derived.Shelf.Small.Bits
import Derived.Shelf.Strconv.Atoi
import Derived.Shelf.Strconv.Itoa0
import Derived.Shelf.Strconv.Itoa1
import Derived.Shelf.LaysM
import Derived.Shelf.Strconv.Itoa2
import Derived.Shelf.Strconv.Itoa3
import Derived.Shelf.Strconv.AtoiErrFast
import Derived.Shelf.Strconv.ParseIntEmpty
import Derived.Shelf.Strconv.AtoiFail
import Derived.Shelf.Strconv.Clone
import Derived.Shelf.Strconv.SyntaxError
import Derived.Shelf.LaysC
import Derived.Shelf.Strconv.ToError
import Derived.Shelf.Strconv.Lower
import Derived.Shelf.Strconv.ParseUint10
import Derived.Shelf.Strconv.ParseUint10Empty
import Derived.Shelf.Strconv.ParseUint10Any
import Derived.Shelf.Strconv.ParseInt10
import Derived.Shelf.Strconv.AtoiLong
import Derived.Shelf.Strconv.AtoiInnerAll
import Derived.Shelf.Strconv.RangeError
import Derived.Shelf.Strconv.ToErrorRange
import Derived.Shelf.Strconv.AtoiAll
import Derived.Shelf.Strings.Search1
import Derived.Shelf.Strings.Search2
import Derived.Shelf.Strings.Search3
import Derived.Shelf.Strings.Shaped
import Derived.Shelf.Sort.Plain
import Derived.Shelf.GgClosure.StringsIndexFunc
import Derived.Ground.GgwProg
import Derived.Shelf.GgClosure.StringsIndexFuncTop
import Derived.Shelf.GgClosure.StringsRunes
import Derived.Shelf.Strings.FuncGrows
import Derived.Ground.Names2Prog
import Derived.Shelf.Slices.Clone
import Derived.Shelf.Slices.In.SortNone
import Derived.Ground.SlgnProg
import Derived.Shelf.SlicesE.Clone
import Derived.Lib.Atoi
import Derived.Maps.RangeWalk
import Derived.Maps.OwnSet
import Derived.Maps.StringElems
import Derived.Lib.SliceRun
import Derived.Shelf.SlGeneric
import Derived.Shelf.SlIter.Nil
import Derived.Shelf.SortM.Plain
import Derived.Shelf.SortM.SortNone
import Derived.Ground.GgzProg
import Derived.Ground.SlgmProg
import Derived.Sort.KeysCollected
import Derived.Lib.Join
import Derived.Lib.AppendIntMem
import Derived.Lib.AtoiErrMem
import Derived.Test.YthplgobjoobmdaaDoorRows
import Derived.Deep.Slices
import Derived.Deep.Fields
import Derived.ChangeSame
import Derived.SizedLaws
import Derived.LaidMore
import Derived.LaidLaws
import Derived.Stop.Joined
import Derived.Test.YthplgobjoobmdaaDoorCards
import Derived.Test.YthplgobjoobmdaaDoorTie
import Derived.ProofKit
import Derived.OpenShut
import Derived.ShutString
import Derived.ChangeOld
import Derived.Lay
import Derived.Lib.LaidU8
import Derived.SevenTiedAt
import Derived.JoinedCond
import Derived.Deep.DeepHandedRow
namespace Go.Proofs.YthplgobjoobmdaaDoor.Seq
open Go Go.RowKit Go.Proofs.YthplgobjoobmdaaDoorW.PrintLast
inductive K where
  | pure | held | one | last
section
variable {P : Program} {ops : Array Oper} {Q : Exit → Act → World → Prop} {md : Region.Mode} {S : World → Prop} {ds : List Nat}
def wpSeq (P : Program) (ops : Array Oper) (Q : Exit → Act → World → Prop) (S : World → Prop) : List (Nat × Option Tmp × K) → Act → World → Prop
  | [], a, w => Q .normal a w
  | (i, N, .pure) :: r, a, w => ∃ o v, ops[i]? = some o ∧ (∀ c a w, Q (.panic c) (a.put N v) w → Q (.panic c) a w) ∧ Yields P ops o v a ∧ wpSeq P ops Q S r (a.put N v) w
  | (i, N, .held) :: r, a, w => ∃ o v, ops[i]? = some o ∧ (∀ c a w, Q (.panic c) (a.put N v) w → Q (.panic c) a w) ∧ YieldsIf P ops S o v a ∧ S w ∧ wpSeq P ops Q S r (a.put N v) w
  | (i, _, .one) :: r, a, w => wpOp P ops Q i (fun a' w' => (S w → S w') ∧ wpSeq P ops Q S r a' w') a w
  | (i, _, .last) :: r, a, w => wpOp P ops Q i (fun a' w' => wpSeq P ops Q S r a' w') a w
def dstB (ops : Array Oper) (i : Nat) (N : Option Tmp) : Bool := match ops[i]? with
  | some o => o.dst == N
  | none => false
theorem dst_of {i : Nat} {N : Option Tmp} {o : Oper} (h : dstB ops i N = true) (ho : ops[i]? = some o) : o.dst = N := by
  unfold dstB at h
  rw [ho] at h
  simpa using h
def checkB (md : Region.Mode) (ops : Array Oper) (ds : List Nat) : Array Bool → List (Nat × Option Tmp × K) → Bool
  | l, [] => Region.ready md ops l == []
  | l, (i, N, .pure) :: r => anyB md ops l (l.setIfInBounds i true) i && dstB ops i N && checkB md ops ds (l.setIfInBounds i true) r
  | l, (i, N, .held) :: r => takeB md ops ds l (l.setIfInBounds i true) i && dstB ops i N && checkB md ops ds (l.setIfInBounds i true) r
  | l, (i, N, .one) :: r => Region.ready md ops l == [i] && !ds.contains i && dstB ops i N && checkB md ops ds (l.setIfInBounds i true) r
  | l, (i, N, .last) :: r => Region.ready md ops l == [i] && ds.contains i && dstB ops i N && checkB md ops ds (l.setIfInBounds i true) r
theorem seq_sound : ∀ (ks : List (Nat × Option Tmp × K)) (l : Array Bool) (a : Act) (w : World), checkB md ops ds l ks = true → wpSeq P ops Q S ks a w → wpAnyLast P md ops Q S ds ks.length l a w
  | [], l, a, w, hc, h => wpAnyLast_done (by simpa [checkB] using hc) h 0
  | (i, N, .pure) :: r, l, a, w, hc, h => by
    simp only [checkB, Bool.and_eq_true] at hc
    obtain ⟨o, v, ho, hQ, hy, h⟩ := h
    have hN := dst_of hc.1.2 ho
    exact pure_ (l.setIfInBounds i true) ho hN hc.1.1 (by rw [hN]; exact hQ) hy rfl (seq_sound r _ _ _ hc.2 h)
  | (i, N, .held) :: r, l, a, w, hc, h => by
    simp only [checkB, Bool.and_eq_true] at hc
    obtain ⟨o, v, ho, hQ, hy, hS, h⟩ := h
    have hN := dst_of hc.1.2 ho
    exact take_ (l.setIfInBounds i true) ho hN hc.1.1 (by rw [hN]; exact hQ) hy hS rfl (seq_sound r _ _ _ hc.2 h)
  | (i, N, .one) :: r, l, a, w, hc, h => by
    simp only [checkB, Bool.and_eq_true, beq_iff_eq] at hc
    obtain ⟨⟨⟨h1, h2⟩, _⟩, h3⟩ := hc
    refine wpAnyLast_all h1 (by simp) fun j hj => ?_
    obtain rfl : j = i := by simpa using hj
    exact wpOp_mono (fun a' w' h' => ⟨fun _ => h'.1, seq_sound r _ _ _ h3 h'.2⟩) h
  | (i, N, .last) :: r, l, a, w, hc, h => by
    simp only [checkB, Bool.and_eq_true, beq_iff_eq] at hc
    obtain ⟨⟨⟨h1, h2⟩, _⟩, h3⟩ := hc
    refine wpAnyLast_all h1 (by simp) fun j hj => ?_
    obtain rfl : j = i := by simpa using hj
    exact wpOp_mono (fun a' w' h' => ⟨fun hn => absurd (by simpa using h2) hn, seq_sound r _ _ _ h3 h'⟩) h
theorem region_seq {id : Nat} {a : Act} {w : World} (S : World → Prop) (ds : List Nat) (ks : List (Nat × Option Tmp × K)) (hm : P.follows .mixedOrders = true)
    (hc : (ks.length == ops.size && checkB .any ops ds (Array.replicate ops.size false) ks) = true) (h : wpSeq P ops Q S ks a w.drew) : (Code.region id ops true).wp P Q a w := by
  rw [Bool.and_eq_true] at hc
  refine wp_region_last (S := S) (ds := ds) hm ?_
  have := seq_sound (P := P) (Q := Q) (S := S) ks _ _ _ hc.2 h
  rw [beq_iff_eq.1 hc.1] at this
  exact this
theorem s_pure {i : Nat} {N : Option Tmp} {r : List (Nat × Option Tmp × K)} {o : Oper} {v : Value} {a a' : Act} {w : World} (ho : ops[i]? = some o) (hQ : ∀ c a w, Q (.panic c) (a.put N v) w → Q (.panic c) a w)
    (hw : Region.wanted o (yielded ops a.tmps) = true) (hy : ∀ w, (execOp a.eval o).run P w = .ok (.value v) w) (ha : a.put N v = a') (h : wpSeq P ops Q S r a' w) : wpSeq P ops Q S ((i, N, .pure) :: r) a w := by
  subst ha; exact ⟨o, v, ho, hQ, .inl ⟨hw, hy⟩, h⟩
theorem s_held {i : Nat} {N : Option Tmp} {r : List (Nat × Option Tmp × K)} {o : Oper} {v : Value} {a a' : Act} {w : World} (hS : S w) (ho : ops[i]? = some o) (hQ : ∀ c a w, Q (.panic c) (a.put N v) w → Q (.panic c) a w)
    (hw : Region.wanted o (yielded ops a.tmps) = true) (hy : ∀ w, S w → (execOp a.eval o).run P w = .ok (.value v) w) (ha : a.put N v = a') (h : wpSeq P ops Q S r a' w) : wpSeq P ops Q S ((i, N, .held) :: r) a w := by
  subst ha; exact ⟨o, v, ho, hQ, .inl ⟨hw, hy⟩, hS, h⟩
end
end Go.Proofs.YthplgobjoobmdaaDoor.Seq
namespace Go.Proofs.YthplgobjoobmdaaDoor.Base
open Go.RowKit Go.Proofs.YthplgobjoobmdaaDoorW.PrintWords Go.Proofs.YthplgobjoobmdaaDoorW.PrintLast
set_option linter.unusedVariables false
abbrev ok0 : Nat → Prop := fun _ => True
theorem R_slice3 {α : Type} {d : Kd α} {e : Nat} {w : World} {base : Nat} {ok : Nat → Prop} {v : Value} {xs : List α} (h : d.R e w base ok v xs) : ∃ A n c, v = .slice A n c := by
  obtain ⟨A, c, h⟩ := Kd.R_slice h
  exact ⟨A, _, c, h⟩
theorem str_ne_empty {s : ByteArray} (h : s.size ≠ 0) : s.toList ≠ [] ∧ (s.toList == []) = false ∧ s.toList.isEmpty = false := by
  have h1 : s.toList.length ≠ 0 := by
    rw [ByteArray.toList_eq, data_length]
    exact h
  cases hl : s.toList with
  | nil => rw [hl] at h1; exact absurd rfl h1
  | cons c l => exact ⟨by simp, rfl, rfl⟩
theorem below_sub {B B' : Nat} {w w1 : World} (h : Below B w w1) (hB : B' ≤ B) : Below B' w w1 := ⟨h.os, h.tape, h.output, h.size, fun i hi => h.block i (Nat.lt_of_lt_of_le hi hB)⟩
theorem bt_nat (s : ByteArray) (k : Nat) : ∀ h : k < s.size, ((s[k]'h).toNat : Int) = bt s k := fun h => by simp [bt, h]
section
variable {P : Program} {ops : Array Oper} {rest : List Oper} {o : Oper} {a : Act} {Q : Exit → Act → World → Prop}
end
structure Piece where
  text : ByteArray
  quoted : Bool
  cut : Bool
instance : Inhabited Piece := ⟨⟨⟨#[]⟩, false, false⟩⟩
theorem at_str {w : World} {A : Option Addr} {n : Nat} {xs : List ByteArray} (h : Kd.string.C w A n xs) (i : Nat) (hi : i < xs.length) : ∃ ad, A = some ad ∧ w.cell? (ad.add i) = some (.string xs[i]) := by
  obtain ⟨ad, e, hc⟩ := Kd.at_string h (i : Int) (by omega) (by have := h.1; omega)
  refine ⟨ad, e, ?_⟩
  rw [Int.toNat_natCast] at hc
  rw [hc]
  simp [rdOf, List.getD_eq_getElem?_getD, List.getElem?_eq_getElem hi]
def Flat {α : Type} (d : Kd α) : Prop := ∀ w W base ok x cs, d.K w x cs → d.M W base ok x cs
theorem flat_string : Flat Kd.string := fun _ _ _ _ _ _ h => h
theorem R_empty {α : Type} {d : Kd α} {w : World} {base g e : Nat} (hg : w.heap[g]? = some (.cells #[] e (0, 0))) (hb : base ≤ g) : d.R e w base ok0 (.slice (some ⟨g, 0, none⟩) 0 0) [] :=
  ⟨fun _ _ => trivial, [], ⟨by simp, .inr ⟨g, 0, #[], rfl, hb, hg, Nat.le_refl _, by simp, by simp, by simp⟩⟩, Reps.none _ _⟩
section
variable {P : Program} {ops : Array Oper} {rest : List Oper} {o : Oper} {a : Act} {Q : Exit → Act → World → Prop}
theorem R_app {α : Type} (d : Kd α) (hflat : Flat d) {w0 W : World} (base : Nat) {N : Tmp} (_hd : o.dst = some N) (hgd : o.guard = none) (s x : Operand) (t e : TypeId) (z : Value) (bytes : Nat)
    (ho : o.op = .call { callee := .builtin .append, args := #[s, x], argTypes := #[t, t] })
    (ht : P.underlying t = some (.slice e)) (hinfo : (P.info? e).map (fun i => (i.zero, i.size, i.bytes)) = some (some z, d.sz, bytes)) (hz : z.cells.size = d.sz) (hs0 : 0 < d.sz) (hb0 : 0 < bytes)
    (v : Value) (xs ys : List α) (A : Option Addr) (m c : Nat) (hs : a.eval s = v) (hx : a.eval x = .slice A m c)
    (HO : d.R e W base ok0 v xs) (HR : d.C W A m ys) (HB : Below base w0 W) (hbase : base ≤ W.heap.size) (hl : (xs.length + m) * bytes ≤ 140737488355328)
    (h : ∀ v1 w1, d.R e w1 base ok0 v1 (xs ++ ys) → Below base w0 w1 → W.grownBy w1 v.ownBlock → wpList P ops Q rest (a.put o.dst v1) w1) :
    wpList P ops Q (o :: rest) a W :=
  Kd.R_append_rows d base hgd s x t e z bytes ho ht hinfo hz hs0 hb0 v xs ys A m c ok0 (fun _ => False) hs hx HO HR (fun x cs hk => hflat W W base _ x cs hk) (fun _ h => h.elim) (fun _ _ => trivial) HB hbase hl (fun v1 w1 hR hB hG _ => h v1 w1 hR hB hG)
end
end Go.Proofs.YthplgobjoobmdaaDoor.Base
namespace Go.Proofs
open Go.Shelf
def Tryd.lays156_ren : Go.Shelf.Ren := ⟨fun | 156 => 17 | 165 => 29 | 166 => 30 | 169 => 31 | 240 => 40 | 241 => 41 | 276 => 64 | 277 => 65 | n => n, fun | 31 => 23 | 9 => 9 | 3 => 3 | 4 => 4 | 0 => 0 | 20 => 20 | 72 => 60 | 76 => 50 | 70 => 57 | 37 => 58 | 75 => 49 | 127 => 70 | 164 => 94 | 5 => 5 | 80 => 61 | n => n, fun | n => n⟩
theorem Tryd.lays156 : Go.Proofs.Lays.n156 Tryd.prog Tryd.lays156_ren := {
  mixed := by kernel_rfl
  f156 := Tryd.func17.trans (congrArg some (by kernel_rfl))
  f165 := Tryd.func29.trans (congrArg some (by kernel_rfl))
  f166 := Tryd.func30.trans (congrArg some (by kernel_rfl))
  f169 := Tryd.func31.trans (congrArg some (by kernel_rfl))
  f240 := Tryd.func40.trans (congrArg some (by kernel_rfl))
  f241 := Tryd.func41.trans (congrArg some (by kernel_rfl))
  f276 := Tryd.func64.trans (congrArg some (by kernel_rfl))
  f277 := Tryd.func65.trans (congrArg some (by kernel_rfl))
  t0 := Tryd.underlying0
  a0 := Tryd.isAgg0
  z0 := Tryd.sizeOf0
  v0 := Tryd.zeroValue0
  t3 := Tryd.underlying3
  a3 := Tryd.isAgg3
  z3 := Tryd.sizeOf3
  v3 := Tryd.zeroValue3
  t4 := Tryd.underlying4
  a4 := Tryd.isAgg4
  z4 := Tryd.sizeOf4
  v4 := Tryd.zeroValue4
  t9 := Tryd.underlying9
  a9 := Tryd.isAgg9
  z9 := Tryd.sizeOf9
  v9 := Tryd.zeroValue9
  t20 := Tryd.underlying20
  a20 := Tryd.isAgg20
  z20 := Tryd.sizeOf20
  v20 := Tryd.zeroValue20
  t31 := Tryd.underlying23
  a31 := Tryd.isAgg23
  z31 := Tryd.sizeOf23
  v31 := Tryd.zeroValue23
  t37 := Tryd.underlying58
  a37 := Tryd.isAgg58
  z37 := Tryd.sizeOf58
  v37 := Tryd.zeroValue58
  t70 := Tryd.underlying57
  a70 := Tryd.isAgg57
  z70 := Tryd.sizeOf57
  v70 := Tryd.zeroValue57
  t72 := Tryd.underlying60
  a72 := Tryd.isAgg60
  z72 := Tryd.sizeOf60
  v72 := Tryd.zeroValue60
  t75 := Tryd.underlying49
  a75 := Tryd.isAgg49
  z75 := Tryd.sizeOf49
  v75 := Tryd.zeroValue49
  t76 := Tryd.underlying50
  a76 := Tryd.isAgg50
  z76 := Tryd.sizeOf50
  v76 := Tryd.zeroValue50
  t127 := Tryd.underlying70
  a127 := Tryd.isAgg70
  z127 := Tryd.sizeOf70
  v127 := Tryd.zeroValue70
  t164 := Tryd.underlying94
  a164 := Tryd.isAgg94
  z164 := Tryd.sizeOf94
  v164 := Tryd.zeroValue94 }
theorem Tryd.Builder_Extra_156 : Builder.Extra Tryd.prog Tryd.lays156_ren := {
  sizeBuilder := by kernel_rfl
  liesBuilder := by kernel_rfl
  t5 := Tryd.underlying5
  a5 := Tryd.isAgg5
  z5 := Tryd.sizeOf5
  v5 := Tryd.zeroValue5
  infoByte := by kernel_rfl
  cellsByte := by kernel_rfl
  sizeByte := by kernel_rfl
  neB5 := by decide }
open Go.RowKit in
theorem Tryd.strings_Join_none (a : Option Addr) (c : Nat) (sep : ByteArray) (w : World) :
    Calls Tryd.prog 17 #[.slice a 0 c, .string sep] w fun e w' => e = .returned (.string ⟨#[]⟩) ∧ w' = w := Any.strings_Join_none Tryd.lays156 Tryd.Builder_Extra_156 a c sep w
open Go.RowKit in
theorem Tryd.strings_Join (bk o c : Nat) (xs : List ByteArray) (sep : ByteArray) (w : World) (hcells : ∀ (j : Nat) x, xs[j]? = some x → w.cell? ⟨bk, o + j, none⟩ = some (.string x)) (hbk : bk < w.heap.size) (hN : xs.length ≤ 140737488355328) (hcap : xs.length ≤ c) (hlen : (Lib.join (xs.map (·.data.toList)) sep.data.toList).length ≤ 140737488355328) :
    Calls Tryd.prog 17 #[.slice (some ⟨bk, o, none⟩) xs.length c, .string sep] w fun e w' => e = .returned (.string ⟨(Lib.join (xs.map (·.data.toList)) sep.data.toList).toArray⟩) ∧ Below w.heap.size w w' := Any.strings_Join Tryd.lays156 Tryd.Builder_Extra_156 bk o c xs sep w hcells hbk hN hcap hlen
def Tryd.lays172_ren : Go.Shelf.Ren := ⟨fun | 172 => 18 | 244 => 32 | 245 => 33 | 247 => 42 | 279 => 43 | 280 => 44 | 281 => 45 | 282 => 46 | 287 => 66 | 316 => 67 | 171 => 16 | 205 => 68 | 321 => 83 | 322 => 84 | 243 => 28 | 246 => 39 | 283 => 60 | 284 => 61 | 285 => 62 | 286 => 63 | 129 => 57 | 317 => 79 | 318 => 80 | 319 => 81 | 320 => 82 | 337 => 88 | 338 => 89 | n => n, fun | 9 => 9 | 3 => 3 | 75 => 49 | 76 => 50 | 4 => 4 | 5 => 5 | 167 => 71 | 37 => 58 | 0 => 0 | 85 => 72 | 2 => 2 | 168 => 74 | 53 => 88 | 175 => 97 | 46 => 66 | 210 => 101 | 127 => 70 | 145 => 118 | 143 => 116 | 21 => 21 | 171 => 90 | 173 => 92 | 212 => 112 | 51 => 86 | 20 => 20 | 213 => 113 | 232 => 124 | 233 => 125 | 80 => 61 | n => n, fun | 15 => 0 | 16 => 1 | 17 => 3 | 18 => 4 | 19 => 5 | n => n⟩
theorem Tryd.lays172 : Go.Proofs.Lays.n172 Tryd.prog Tryd.lays172_ren := {
  mixed := by kernel_rfl
  f129 := Tryd.func57.trans (congrArg some (by kernel_rfl))
  f171 := Tryd.func16.trans (congrArg some (by kernel_rfl))
  f172 := Tryd.func18.trans (congrArg some (by kernel_rfl))
  f205 := Tryd.func68.trans (congrArg some (by kernel_rfl))
  f243 := Tryd.func28.trans (congrArg some (by kernel_rfl))
  f244 := Tryd.func32.trans (congrArg some (by kernel_rfl))
  f245 := Tryd.func33.trans (congrArg some (by kernel_rfl))
  f246 := Tryd.func39.trans (congrArg some (by kernel_rfl))
  f247 := Tryd.func42.trans (congrArg some (by kernel_rfl))
  f279 := Tryd.func43.trans (congrArg some (by kernel_rfl))
  f280 := Tryd.func44.trans (congrArg some (by kernel_rfl))
  f281 := Tryd.func45.trans (congrArg some (by kernel_rfl))
  f282 := Tryd.func46.trans (congrArg some (by kernel_rfl))
  f283 := Tryd.func60.trans (congrArg some (by kernel_rfl))
  f284 := Tryd.func61.trans (congrArg some (by kernel_rfl))
  f285 := Tryd.func62.trans (congrArg some (by kernel_rfl))
  f286 := Tryd.func63.trans (congrArg some (by kernel_rfl))
  f287 := Tryd.func66.trans (congrArg some (by kernel_rfl))
  f316 := Tryd.func67.trans (congrArg some (by kernel_rfl))
  f317 := Tryd.func79.trans (congrArg some (by kernel_rfl))
  f318 := Tryd.func80.trans (congrArg some (by kernel_rfl))
  f319 := Tryd.func81.trans (congrArg some (by kernel_rfl))
  f320 := Tryd.func82.trans (congrArg some (by kernel_rfl))
  f321 := Tryd.func83.trans (congrArg some (by kernel_rfl))
  f322 := Tryd.func84.trans (congrArg some (by kernel_rfl))
  f337 := Tryd.func88.trans (congrArg some (by kernel_rfl))
  f338 := Tryd.func89.trans (congrArg some (by kernel_rfl))
  t0 := Tryd.underlying0
  a0 := Tryd.isAgg0
  z0 := Tryd.sizeOf0
  v0 := Tryd.zeroValue0
  t2 := Tryd.underlying2
  a2 := Tryd.isAgg2
  z2 := Tryd.sizeOf2
  v2 := Tryd.zeroValue2
  t3 := Tryd.underlying3
  a3 := Tryd.isAgg3
  z3 := Tryd.sizeOf3
  v3 := Tryd.zeroValue3
  t4 := Tryd.underlying4
  a4 := Tryd.isAgg4
  z4 := Tryd.sizeOf4
  v4 := Tryd.zeroValue4
  t5 := Tryd.underlying5
  a5 := Tryd.isAgg5
  z5 := Tryd.sizeOf5
  v5 := Tryd.zeroValue5
  t9 := Tryd.underlying9
  a9 := Tryd.isAgg9
  z9 := Tryd.sizeOf9
  v9 := Tryd.zeroValue9
  t20 := Tryd.underlying20
  a20 := Tryd.isAgg20
  z20 := Tryd.sizeOf20
  v20 := Tryd.zeroValue20
  t21 := Tryd.underlying21
  a21 := Tryd.isAgg21
  z21 := Tryd.sizeOf21
  v21 := Tryd.zeroValue21
  t37 := Tryd.underlying58
  a37 := Tryd.isAgg58
  z37 := Tryd.sizeOf58
  v37 := Tryd.zeroValue58
  t46 := Tryd.underlying66
  a46 := Tryd.isAgg66
  z46 := Tryd.sizeOf66
  v46 := Tryd.zeroValue66
  t51 := Tryd.underlying86
  a51 := Tryd.isAgg86
  z51 := Tryd.sizeOf86
  v51 := Tryd.zeroValue86
  t53 := Tryd.underlying88
  a53 := Tryd.isAgg88
  z53 := Tryd.sizeOf88
  v53 := Tryd.zeroValue88
  t75 := Tryd.underlying49
  a75 := Tryd.isAgg49
  z75 := Tryd.sizeOf49
  v75 := Tryd.zeroValue49
  t76 := Tryd.underlying50
  a76 := Tryd.isAgg50
  z76 := Tryd.sizeOf50
  v76 := Tryd.zeroValue50
  t85 := Tryd.underlying72
  a85 := Tryd.isAgg72
  z85 := Tryd.sizeOf72
  v85 := Tryd.zeroValue72
  t127 := Tryd.underlying70
  a127 := Tryd.isAgg70
  z127 := Tryd.sizeOf70
  v127 := Tryd.zeroValue70
  t143 := Tryd.underlying116
  a143 := Tryd.isAgg116
  z143 := Tryd.sizeOf116
  v143 := Tryd.zeroValue116
  t145 := Tryd.underlying118
  a145 := Tryd.isAgg118
  z145 := Tryd.sizeOf118
  v145 := Tryd.zeroValue118
  t167 := Tryd.underlying71
  a167 := Tryd.isAgg71
  z167 := Tryd.sizeOf71
  v167 := Tryd.zeroValue71
  t168 := Tryd.underlying74
  a168 := Tryd.isAgg74
  z168 := Tryd.sizeOf74
  v168 := Tryd.zeroValue74
  t171 := Tryd.underlying90
  a171 := Tryd.isAgg90
  z171 := Tryd.sizeOf90
  v171 := Tryd.zeroValue90
  t173 := Tryd.underlying92
  a173 := Tryd.isAgg92
  z173 := Tryd.sizeOf92
  v173 := Tryd.zeroValue92
  t175 := Tryd.underlying97
  a175 := Tryd.isAgg97
  z175 := Tryd.sizeOf97
  v175 := Tryd.zeroValue97
  t210 := Tryd.underlying101
  a210 := Tryd.isAgg101
  z210 := Tryd.sizeOf101
  v210 := Tryd.zeroValue101
  t212 := Tryd.underlying112
  a212 := Tryd.isAgg112
  z212 := Tryd.sizeOf112
  v212 := Tryd.zeroValue112
  t213 := Tryd.underlying113
  a213 := Tryd.isAgg113
  z213 := Tryd.sizeOf113
  t232 := Tryd.underlying124
  a232 := Tryd.isAgg124
  z232 := Tryd.sizeOf124
  v232 := Tryd.zeroValue124
  t233 := Tryd.underlying125
  a233 := Tryd.isAgg125
  z233 := Tryd.sizeOf125
  v233 := Tryd.zeroValue125
  g15 := by kernel_rfl
  g16 := by kernel_rfl
  g17 := by kernel_rfl
  g18 := by kernel_rfl
  g19 := by kernel_rfl }
open Go.RowKit in
theorem Tryd.strconv_Atoi (s : ByteArray) (n : Int) (hl : s.size ≤ 18) (h : Lib.atoi s.data.toList = some n) (w : World) :
    Calls Tryd.prog 18 #[.string s] w fun e w' => e = .returned (.tuple #[.int .i64 n, .nilIface]) ∧ ∃ t, w' = Lib.bytesWorld w 5 t := Any.strconv_Atoi Tryd.lays172 s n hl h w
def Tryd.laysM171_ren : Go.Shelf.Ren := ⟨fun | 171 => 16 | 243 => 28 | 246 => 39 | 283 => 60 | 284 => 61 | 285 => 62 | 286 => 63 | 129 => 57 | 317 => 79 | 318 => 80 | 319 => 81 | 320 => 82 | 337 => 88 | 338 => 89 | n => n, fun | 3 => 3 | 9 => 9 | 2 => 2 | 4 => 4 | 171 => 90 | 0 => 0 | 53 => 88 | 37 => 58 | 5 => 5 | 173 => 92 | 212 => 112 | 51 => 86 | 20 => 20 | 213 => 113 | 46 => 66 | 232 => 124 | 233 => 125 | n => n, fun | 17 => 3 | 18 => 4 | 19 => 5 | n => n⟩
theorem Tryd.laysM171 : Go.Proofs.LaysM.n171 Tryd.prog Tryd.laysM171_ren := {
  mixed := by kernel_rfl
  f129 := Tryd.func57.trans (congrArg some (by kernel_rfl))
  f171 := Tryd.func16.trans (congrArg some (by kernel_rfl))
  f243 := Tryd.func28.trans (congrArg some (by kernel_rfl))
  f246 := Tryd.func39.trans (congrArg some (by kernel_rfl))
  f283 := Tryd.func60.trans (congrArg some (by kernel_rfl))
  f284 := Tryd.func61.trans (congrArg some (by kernel_rfl))
  f285 := Tryd.func62.trans (congrArg some (by kernel_rfl))
  f286 := Tryd.func63.trans (congrArg some (by kernel_rfl))
  f317 := Tryd.func79.trans (congrArg some (by kernel_rfl))
  f318 := Tryd.func80.trans (congrArg some (by kernel_rfl))
  f319 := Tryd.func81.trans (congrArg some (by kernel_rfl))
  f320 := Tryd.func82.trans (congrArg some (by kernel_rfl))
  f337 := Tryd.func88.trans (congrArg some (by kernel_rfl))
  f338 := Tryd.func89.trans (congrArg some (by kernel_rfl))
  t0 := Tryd.underlying0
  a0 := Tryd.isAgg0
  z0 := Tryd.sizeOf0
  v0 := Tryd.zeroValue0
  t2 := Tryd.underlying2
  a2 := Tryd.isAgg2
  z2 := Tryd.sizeOf2
  v2 := Tryd.zeroValue2
  t3 := Tryd.underlying3
  a3 := Tryd.isAgg3
  z3 := Tryd.sizeOf3
  v3 := Tryd.zeroValue3
  t4 := Tryd.underlying4
  a4 := Tryd.isAgg4
  z4 := Tryd.sizeOf4
  v4 := Tryd.zeroValue4
  t5 := Tryd.underlying5
  a5 := Tryd.isAgg5
  z5 := Tryd.sizeOf5
  v5 := Tryd.zeroValue5
  t9 := Tryd.underlying9
  a9 := Tryd.isAgg9
  z9 := Tryd.sizeOf9
  v9 := Tryd.zeroValue9
  t20 := Tryd.underlying20
  a20 := Tryd.isAgg20
  z20 := Tryd.sizeOf20
  v20 := Tryd.zeroValue20
  t37 := Tryd.underlying58
  a37 := Tryd.isAgg58
  z37 := Tryd.sizeOf58
  v37 := Tryd.zeroValue58
  t46 := Tryd.underlying66
  a46 := Tryd.isAgg66
  z46 := Tryd.sizeOf66
  v46 := Tryd.zeroValue66
  t51 := Tryd.underlying86
  a51 := Tryd.isAgg86
  z51 := Tryd.sizeOf86
  v51 := Tryd.zeroValue86
  t53 := Tryd.underlying88
  a53 := Tryd.isAgg88
  z53 := Tryd.sizeOf88
  v53 := Tryd.zeroValue88
  t171 := Tryd.underlying90
  a171 := Tryd.isAgg90
  z171 := Tryd.sizeOf90
  v171 := Tryd.zeroValue90
  t173 := Tryd.underlying92
  a173 := Tryd.isAgg92
  z173 := Tryd.sizeOf92
  v173 := Tryd.zeroValue92
  t212 := Tryd.underlying112
  a212 := Tryd.isAgg112
  z212 := Tryd.sizeOf112
  v212 := Tryd.zeroValue112
  t213 := Tryd.underlying113
  a213 := Tryd.isAgg113
  z213 := Tryd.sizeOf113
  t232 := Tryd.underlying124
  a232 := Tryd.isAgg124
  z232 := Tryd.sizeOf124
  v232 := Tryd.zeroValue124
  t233 := Tryd.underlying125
  a233 := Tryd.isAgg125
  z233 := Tryd.sizeOf125
  v233 := Tryd.zeroValue125
  g17 := by kernel_rfl
  g18 := by kernel_rfl
  g19 := by kernel_rfl
  i0 := by kernel_rfl
  i2 := by kernel_rfl
  i3 := by kernel_rfl
  i4 := by kernel_rfl
  i5 := by kernel_rfl
  i9 := by kernel_rfl
  i20 := by kernel_rfl
  i37 := by kernel_rfl
  i46 := by kernel_rfl
  i51 := by kernel_rfl
  i53 := by kernel_rfl
  i171 := by kernel_rfl
  i173 := by kernel_rfl
  i212 := by kernel_rfl
  i232 := by kernel_rfl
  i233 := by kernel_rfl
  m17 := by kernel_rfl
  m18 := by kernel_rfl
  m19 := by kernel_rfl }
open Go.RowKit Go.Sort Go.Lib in
theorem Tryd.strconv_Itoa (n : Int) (h0 : -9223372036854775808 ≤ n) (h1 : n ≤ 9223372036854775807) (w : World) (htab : Lib.TabIs Tryd.prog w "internal/strconv.uint64pow10" .u64 Lib.pow10Tab) :
    Calls Tryd.prog 16 #[.int .i64 n] w fun e w' => e = .returned (.string ⟨(Lib.itoa n).toArray⟩) ∧ ∃ k os, w' = grow (w.drewN k) os := Any.strconv_Itoa Tryd.laysM171 n h0 h1 w htab
def Tryd.lays144_ren : Go.Shelf.Ren := ⟨fun | 144 => 25 | 143 => 37 | 219 => 58 | 217 => 75 | 225 => 76 | 224 => 77 | 267 => 78 | 266 => 86 | 314 => 87 | n => n, fun | 9 => 9 | 4 => 4 | 3 => 3 | 5 => 5 | 46 => 66 | 146 => 122 | 51 => 86 | n => n, fun | 1 => 2 | n => n⟩
theorem Tryd.lays144 : Go.Proofs.Lays.n144 Tryd.prog Tryd.lays144_ren := {
  mixed := by kernel_rfl
  f143 := Tryd.func37.trans (congrArg some (by kernel_rfl))
  f144 := Tryd.func25.trans (congrArg some (by kernel_rfl))
  f217 := Tryd.func75.trans (congrArg some (by kernel_rfl))
  f219 := Tryd.func58.trans (congrArg some (by kernel_rfl))
  f224 := Tryd.func77.trans (congrArg some (by kernel_rfl))
  f225 := Tryd.func76.trans (congrArg some (by kernel_rfl))
  f266 := Tryd.func86.trans (congrArg some (by kernel_rfl))
  f267 := Tryd.func78.trans (congrArg some (by kernel_rfl))
  f314 := Tryd.func87.trans (congrArg some (by kernel_rfl))
  t3 := Tryd.underlying3
  a3 := Tryd.isAgg3
  z3 := Tryd.sizeOf3
  v3 := Tryd.zeroValue3
  t4 := Tryd.underlying4
  a4 := Tryd.isAgg4
  z4 := Tryd.sizeOf4
  v4 := Tryd.zeroValue4
  t5 := Tryd.underlying5
  a5 := Tryd.isAgg5
  z5 := Tryd.sizeOf5
  v5 := Tryd.zeroValue5
  t9 := Tryd.underlying9
  a9 := Tryd.isAgg9
  z9 := Tryd.sizeOf9
  v9 := Tryd.zeroValue9
  t46 := Tryd.underlying66
  a46 := Tryd.isAgg66
  z46 := Tryd.sizeOf66
  v46 := Tryd.zeroValue66
  t51 := Tryd.underlying86
  a51 := Tryd.isAgg86
  z51 := Tryd.sizeOf86
  v51 := Tryd.zeroValue86
  t146 := Tryd.underlying122
  a146 := Tryd.isAgg122
  z146 := Tryd.sizeOf122
  v146 := Tryd.zeroValue122
  g1 := by kernel_rfl }
open Go.RowKit Go.Lib in
theorem Tryd.strings_Contains_one (s : ByteArray) (c : UInt8) (w : World) :
    Calls Tryd.prog 25 #[.string s, .string ⟨#[c]⟩] w fun e w' => e = .returned (.bool (decide (0 ≤ Lib.indexByte s.data.toList c))) ∧ w' = w := Any.strings_Contains_one Tryd.lays144 s c w
def Tryd.lays190_ren : Go.Shelf.Ren := ⟨fun | 190 => 21 | 125 => 36 | 258 => 35 | 128 => 56 | 129 => 57 | 302 => 47 | 303 => 48 | 304 => 49 | 305 => 50 | 306 => 51 | 307 => 52 | 308 => 53 | 309 => 54 | 310 => 55 | 333 => 69 | 329 => 70 | 330 => 71 | 334 => 72 | 335 => 73 | 336 => 74 | 344 => 85 | n => n, fun | 31 => 23 | 9 => 9 | 3 => 3 | 46 => 66 | 0 => 0 | 51 => 86 | 53 => 88 | 4 => 4 | 183 => 79 | 182 => 78 | 131 => 83 | 5 => 5 | 218 => 103 | 222 => 107 | 228 => 119 | 229 => 120 | n => n, fun | n => n⟩
theorem Tryd.lays190 : Go.Proofs.Lays.n190 Tryd.prog Tryd.lays190_ren := {
  mixed := by kernel_rfl
  f125 := Tryd.func36.trans (congrArg some (by kernel_rfl))
  f128 := Tryd.func56.trans (congrArg some (by kernel_rfl))
  f129 := Tryd.func57.trans (congrArg some (by kernel_rfl))
  f190 := Tryd.func21.trans (congrArg some (by kernel_rfl))
  f258 := Tryd.func35.trans (congrArg some (by kernel_rfl))
  f302 := Tryd.func47.trans (congrArg some (by kernel_rfl))
  f303 := Tryd.func48.trans (congrArg some (by kernel_rfl))
  f304 := Tryd.func49.trans (congrArg some (by kernel_rfl))
  f305 := Tryd.func50.trans (congrArg some (by kernel_rfl))
  f306 := Tryd.func51.trans (congrArg some (by kernel_rfl))
  f307 := Tryd.func52.trans (congrArg some (by kernel_rfl))
  f308 := Tryd.func53.trans (congrArg some (by kernel_rfl))
  f309 := Tryd.func54.trans (congrArg some (by kernel_rfl))
  f310 := Tryd.func55.trans (congrArg some (by kernel_rfl))
  f329 := Tryd.func70.trans (congrArg some (by kernel_rfl))
  f330 := Tryd.func71.trans (congrArg some (by kernel_rfl))
  f333 := Tryd.func69.trans (congrArg some (by kernel_rfl))
  f334 := Tryd.func72.trans (congrArg some (by kernel_rfl))
  f335 := Tryd.func73.trans (congrArg some (by kernel_rfl))
  f336 := Tryd.func74.trans (congrArg some (by kernel_rfl))
  f344 := Tryd.func85.trans (congrArg some (by kernel_rfl))
  t0 := Tryd.underlying0
  a0 := Tryd.isAgg0
  z0 := Tryd.sizeOf0
  v0 := Tryd.zeroValue0
  t3 := Tryd.underlying3
  a3 := Tryd.isAgg3
  z3 := Tryd.sizeOf3
  v3 := Tryd.zeroValue3
  t4 := Tryd.underlying4
  a4 := Tryd.isAgg4
  z4 := Tryd.sizeOf4
  v4 := Tryd.zeroValue4
  t5 := Tryd.underlying5
  a5 := Tryd.isAgg5
  z5 := Tryd.sizeOf5
  v5 := Tryd.zeroValue5
  t9 := Tryd.underlying9
  a9 := Tryd.isAgg9
  z9 := Tryd.sizeOf9
  v9 := Tryd.zeroValue9
  t31 := Tryd.underlying23
  a31 := Tryd.isAgg23
  z31 := Tryd.sizeOf23
  v31 := Tryd.zeroValue23
  t46 := Tryd.underlying66
  a46 := Tryd.isAgg66
  z46 := Tryd.sizeOf66
  v46 := Tryd.zeroValue66
  t51 := Tryd.underlying86
  a51 := Tryd.isAgg86
  z51 := Tryd.sizeOf86
  v51 := Tryd.zeroValue86
  t53 := Tryd.underlying88
  a53 := Tryd.isAgg88
  z53 := Tryd.sizeOf88
  v53 := Tryd.zeroValue88
  t131 := Tryd.underlying83
  a131 := Tryd.isAgg83
  z131 := Tryd.sizeOf83
  v131 := Tryd.zeroValue83
  t182 := Tryd.underlying78
  a182 := Tryd.isAgg78
  z182 := Tryd.sizeOf78
  v182 := Tryd.zeroValue78
  t183 := Tryd.underlying79
  a183 := Tryd.isAgg79
  z183 := Tryd.sizeOf79
  v183 := Tryd.zeroValue79
  t218 := Tryd.underlying103
  a218 := Tryd.isAgg103
  z218 := Tryd.sizeOf103
  v218 := Tryd.zeroValue103
  t222 := Tryd.underlying107
  a222 := Tryd.isAgg107
  z222 := Tryd.sizeOf107
  v222 := Tryd.zeroValue107
  t228 := Tryd.underlying119
  a228 := Tryd.isAgg119
  z228 := Tryd.sizeOf119
  v228 := Tryd.zeroValue119
  t229 := Tryd.underlying120
  a229 := Tryd.isAgg120
  z229 := Tryd.sizeOf120
  v229 := Tryd.zeroValue120 }
open Go.Sort Go.RowKit in
theorem Tryd.slices_Sort_string (blk off cap : Nat) (ss : List (List UInt8)) (w : World) (hH : Holds encStr w blk off ss.toArray) (hblk : blk < w.heap.size) (hsz : ss.length < 4611686018427387904) :
    Calls Tryd.prog 21 #[.slice (some ⟨blk, off, none⟩) ss.length cap] w fun e w' =>
      e = .returned (.tuple #[]) ∧ ∃ n os, w' = grow (putRow encStr (Sort.ahead w n) blk off (ss.mergeSort fun x y => decide (x ≤ y)).toArray) os := Any.slices_Sort_string Tryd.lays190 blk off cap ss w hH hblk hsz
def Tryd.laysGw17_ren : Go.Shelf.Ren := ⟨fun | 17 => 26 | 15 => 38 | 20 => 59 | n => n, fun | 9 => 9 | 23 => 56 | 4 => 4 | 3 => 3 | 0 => 0 | 21 => 21 | n => n, fun | n => n⟩
theorem Tryd.laysGw17 : Go.Proofs.LaysGw.n17 Tryd.prog Tryd.laysGw17_ren := {
  mixed := by kernel_rfl
  f15 := Tryd.func38.trans (congrArg some (by kernel_rfl))
  f17 := Tryd.func26.trans (congrArg some (by kernel_rfl))
  f20 := Tryd.func59.trans (congrArg some (by kernel_rfl))
  t0 := Tryd.underlying0
  a0 := Tryd.isAgg0
  z0 := Tryd.sizeOf0
  v0 := Tryd.zeroValue0
  i0 := by kernel_rfl
  t3 := Tryd.underlying3
  a3 := Tryd.isAgg3
  z3 := Tryd.sizeOf3
  v3 := Tryd.zeroValue3
  i3 := by kernel_rfl
  t4 := Tryd.underlying4
  a4 := Tryd.isAgg4
  z4 := Tryd.sizeOf4
  v4 := Tryd.zeroValue4
  i4 := by kernel_rfl
  t9 := Tryd.underlying9
  a9 := Tryd.isAgg9
  z9 := Tryd.sizeOf9
  v9 := Tryd.zeroValue9
  i9 := by kernel_rfl
  t21 := Tryd.underlying21
  a21 := Tryd.isAgg21
  z21 := Tryd.sizeOf21
  v21 := Tryd.zeroValue21
  i21 := by kernel_rfl
  t23 := Tryd.underlying56
  a23 := Tryd.isAgg56
  z23 := Tryd.sizeOf56
  v23 := Tryd.zeroValue56
  i23 := by kernel_rfl }
open Go.RowKit Go.Lib in
theorem Tryd.strings_ContainsFunc_grows (g : Nat) (lb : Array Value) (eg : ∀ args w, (callFunc g args).run Tryd.prog w = .ok (.enter g args) w) (p : Nat → Bool) (s : ByteArray) (w : World) (hp : PredGrows Tryd.prog g lb p w) :
    Calls Tryd.prog 26 #[.string s, .func (.func g) #[] lb] w fun e w' => e = .returned (.bool (decide (0 ≤ Lib.idxFunc p true s))) ∧ Below w.heap.size w w' := Any.strings_ContainsFunc_grows Tryd.laysGw17 g lb eg p s w hp
open Go.RowKit Go.Sort in
theorem Tryd.slices_Sort_string_none (p : Option Addr) (cap : Nat) (w : World) :
    Calls Tryd.prog 21 #[.slice p 0 cap] w fun e w' => e = .returned (.tuple #[]) ∧ w' = w := Any.slices_Sort_string_none Tryd.lays190 p cap w
end Go.Proofs
namespace Go.Proofs.YthplgobjoobmdaaDoor.Class
open Go.RowKit Go.Proofs.YthplgobjoobmdaaDoorW.PrintWords Go.Proofs.YthplgobjoobmdaaDoorW.PrintLast Go.Proofs.YthplgobjoobmdaaDoor.Base
set_option linter.unusedVariables false
set_option linter.unusedSimpArgs false
def digitB (c : Int) : Bool := decide (48 ≤ c) && decide (c ≤ 57)
def letterB (c : Int) : Bool := (decide (97 ≤ c) && decide (c ≤ 122)) || (decide (65 ≤ c) && decide (c ≤ 90)) || c == 95
theorem ret_b {a b : Bool} (h : a = b) : Ending.returned (.bool a) = .returned (.bool b) := by rw [h]
set_option maxHeartbeats 400000 in
theorem digit_any (c : Int) (w : World) : Calls Tryd.prog 24 #[.int .u8 c] w fun e w' => e = .returned (.bool (digitB c)) ∧ w = w' := by
  unfold digitB
  go_enter Tryd.func24, Tryd.ntmps24
  go_wp2
  all_goals
    go_ret
    exact ⟨ret_b (by first | (simp [*]; done) | (simp; omega)), rfl⟩
set_option maxHeartbeats 400000 in
theorem letter_any (c : Int) (w : World) : Calls Tryd.prog 23 #[.int .u8 c] w fun e w' => e = .returned (.bool (letterB c)) ∧ w = w' := by
  unfold letterB
  go_enter Tryd.func23, Tryd.ntmps23
  go_wp2
  all_goals
    go_ret
    refine ⟨ret_b ?_, rfl⟩
    simp at *
    first | done | omega
def nameL (l : List Int) : Bool := match l with
  | [] => false
  | c :: r => letterB c && r.all fun c => letterB c || digitB c
def nameB (s : ByteArray) : Bool := nameL (bytesOf s)
theorem bytes_get (s : ByteArray) (k : Nat) (h : k < s.size) : (bytesOf s)[k]'(by rw [bytesOf_length]; exact h) = bt s k := by
  rw [← rd_bytesOf]
  simp [rd, List.getD_eq_getElem?_getD, List.getElem?_eq_getElem (show k < (bytesOf s).length by rw [bytesOf_length]; exact h)]
theorem all_iff (s : ByteArray) (p : Int → Bool) : (bytesOf s).all p = true ↔ ∀ k : Nat, k < s.size → p (bt s k) = true := by
  rw [List.all_eq_true]
  constructor
  · intro h k hk
    rw [← bytes_get s k hk]
    exact h _ (List.getElem_mem _)
  · intro h x hx
    obtain ⟨k, hk, rfl⟩ := List.getElem_of_mem hx
    rw [bytesOf_length] at hk
    rw [bytes_get s k hk]
    exact h k hk
theorem name_iff (s : ByteArray) : nameB s = true ↔ s.size ≠ 0 ∧ letterB (bt s 0) = true ∧ ∀ k : Nat, k < s.size → (letterB (bt s k) || digitB (bt s k)) = true := by
  unfold nameB
  have hl := bytesOf_length s
  have ha := all_iff s (fun c => letterB c || digitB c)
  cases hb : bytesOf s with
  | nil => rw [hb] at hl; simp at hl; simp [nameL, hl.symm]
  | cons c r =>
    rw [hb] at hl ha
    have h0 : 0 < s.size := by simp at hl; omega
    have hc : c = bt s 0 := by
      have := bytes_get s 0 h0
      simp only [hb, List.getElem_cons_zero] at this
      exact this
    simp only [nameL, Bool.and_eq_true]
    rw [← hc, ← ha]
    simp only [List.all_cons, Bool.and_eq_true, Bool.or_eq_true]
    constructor
    · rintro ⟨h1, h2⟩; exact ⟨by omega, h1, .inl h1, h2⟩
    · rintro ⟨_, h1, _, h2⟩; exact ⟨h1, h2⟩
set_option maxHeartbeats 1000000 in
set_option maxRecDepth 100000 in
theorem name_any (s : ByteArray) (w : World) (hs : s.size ≤ 140737488355328) : Calls Tryd.prog 14 #[.string s] w fun e w' => e = .returned (.bool (nameB s)) ∧ w = w' := by
  go_enter Tryd.func14, Tryd.ntmps14
  go_wp2
  go_loop [6] (fun v6 => ∃ k : Nat, k ≤ s.size ∧ v6 = .int .i64 k ∧ Aside0 (∀ j : Nat, j < k → (letterB (bt s j) || digitB (bt s j)) = true ∧ (j = 0 → letterB (bt s 0) = true))) (fun v6 => s.size - (intOf v6).toNat)
  case atStart => exact ⟨0, Nat.zero_le _, rfl, ⟨by omega⟩⟩
  case round =>
    obtain ⟨k, hk, rfl, HA⟩ := hrel
    by_cases hlt : k < s.size
    · have hbt := bt_nat s k
      have hi0 : (0 : Int) ≤ (k : Int) := by omega
      have hi1 : (k : Int) < (s.size : Int) := by omega
      by_cases h1 : letterB (bt s k) = true
      · go_wp2_with (first
          | (go_at_call 23; refine (letter_any _ _).mono ?_; rintro e w' ⟨rfl, rfl⟩)
          | (go_at_call 24; refine (digit_any _ _).mono ?_; rintro e w' ⟨rfl, rfl⟩))
        go_round
        case measure => simp [intOf]; omega
        case rel =>
          refine ⟨k + 1, by omega, by go_num, ⟨fun j hj => ?_⟩⟩
          rcases Nat.lt_or_ge j k with h | h
          · exact HA.out j h
          · obtain rfl : j = k := by omega
            exact ⟨by rw [h1]; rfl, by rintro rfl; exact h1⟩
      · replace h1 := Bool.eq_false_iff.mpr h1
        by_cases hk0 : k = 0
        · subst hk0
          have h10 : letterB (bt s 0) = false := h1
          have hb0 : ∀ h : 0 < s.size, ((s[0]'h).toNat : Int) = bt s 0 := bt_nat s 0
          clear hbt
          go_wp2_with (first
            | (go_at_call 23; refine (letter_any _ _).mono ?_; rintro e w' ⟨rfl, rfl⟩)
            | (go_at_call 24; refine (digit_any _ _).mono ?_; rintro e w' ⟨rfl, rfl⟩))
          go_ret
          refine ⟨ret_b ?_, rfl⟩
          cases hn : nameB s with
          | false => rfl
          | true => have := ((name_iff s).1 hn).2.1; rw [show ((0 : Nat) : Int) = 0 from rfl] at h1; rw [h1] at this; cases this
        · have hd0 : ((k : Int) == 0) = false := by simpa using hk0
          by_cases h2 : digitB (bt s k) = true
          · go_wp2_with (first
              | (go_at_call 23; refine (letter_any _ _).mono ?_; rintro e w' ⟨rfl, rfl⟩)
              | (go_at_call 24; refine (digit_any _ _).mono ?_; rintro e w' ⟨rfl, rfl⟩))
            go_round
            case measure => simp [intOf]; omega
            case rel =>
              refine ⟨k + 1, by omega, by go_num, ⟨fun j hj => ?_⟩⟩
              rcases Nat.lt_or_ge j k with h | h
              · exact HA.out j h
              · obtain rfl : j = k := by omega
                exact ⟨by rw [h1, h2]; rfl, fun h => absurd h hk0⟩
          · replace h2 := Bool.eq_false_iff.mpr h2
            go_wp2_with (first
              | (go_at_call 23; refine (letter_any _ _).mono ?_; rintro e w' ⟨rfl, rfl⟩)
              | (go_at_call 24; refine (digit_any _ _).mono ?_; rintro e w' ⟨rfl, rfl⟩))
            go_ret
            refine ⟨ret_b ?_, rfl⟩
            cases hn : nameB s with
            | false => rfl
            | true => have := ((name_iff s).1 hn).2.2 k hlt; rw [h1, h2] at this; cases this
    · obtain rfl : k = s.size := by omega
      have HN := Aside0.mk (name_iff s)
      by_cases hz : s.size = 0
      · have he : s.toList = [] := by rw [ByteArray.toList_eq]; exact List.eq_nil_of_length_eq_zero (by rw [data_length]; exact hz)
        have hnf : nameB s = false := by
          cases hn : nameB s with
          | false => rfl
          | true => exact absurd hz ((name_iff s).1 hn).1
        have HF := Aside0.mk hnf
        clear hnf
        go_wp2
        go_ret
        exact ⟨ret_b (by rw [HF.out] <;> simp [he]), rfl⟩
      · obtain ⟨he0, he1, he2⟩ := str_ne_empty hz
        have hnt : nameB s = true := (name_iff s).2 ⟨hz, (HA.out 0 (by omega)).2 rfl, fun k hk => (HA.out k hk).1⟩
        have HT := Aside0.mk hnt
        clear hnt
        go_wp2
        go_ret
        exact ⟨ret_b (by rw [HT.out] <;> simp [he1, he2, he0]), rfl⟩
end Go.Proofs.YthplgobjoobmdaaDoor.Class
namespace Go.Proofs.YthplgobjoobmdaaDoor.Class
open Go.RowKit Go.Proofs.YthplgobjoobmdaaDoorW.PrintWords Go.Proofs.YthplgobjoobmdaaDoorW.PrintLast Go.Proofs.YthplgobjoobmdaaDoor.Base
set_option linter.unusedVariables false
set_option linter.unusedSimpArgs false
def setB (c : Int) : Bool := [64, 42, 35, 63, 36, 33].contains c
def allD (s : ByteArray) : Bool := (bytesOf s).all digitB
def paramB (s : ByteArray) : Bool := (decide (s.size = 1) && (digitB (bt s 0) || setB (bt s 0))) || nameB s || (allD s && decide (1 < s.size) && decide (s.size ≤ 3) && bt s 0 != 48)
theorem set_eq (c : UInt8) : decide (0 ≤ Lib.indexByte [64, 42, 35, 63, 36, 33] c) = setB (c.toNat : Int) := by
  have h : ∀ n : Fin 256, decide (0 ≤ Lib.indexByte [64, 42, 35, 63, 36, 33] (UInt8.ofNat n.val)) = setB ((n.val : Nat) : Int) := by decide +kernel
  have := h ⟨c.toNat, c.toNat_lt⟩
  simpa using this
theorem contains_set (c : UInt8) (w : World) : Calls Tryd.prog 25 #[.string ⟨#[64, 42, 35, 63, 36, 33]⟩, .string ⟨#[c]⟩] w fun e w' => e = .returned (.bool (setB (c.toNat : Int))) ∧ w = w' := by
  refine (Tryd.strings_Contains_one _ c w).mono ?_
  rintro e w' ⟨rfl, rfl⟩
  exact ⟨ret_b (set_eq c), rfl⟩
def notDigit (x : Nat) : Bool := decide (x < 48) || decide (57 < x)
set_option maxHeartbeats 400000 in
theorem closure_any (x : Nat) (w : World) : Calls Tryd.prog 27 #[.int .i32 (x : Int)] w fun e w' => e = .returned (.bool (notDigit x)) ∧ w = w' := by
  unfold notDigit
  have e1 : decide ((x : Int) < 48) = decide (x < 48) := by simp; omega
  have e2 : decide ((57 : Int) < (x : Int)) = decide (57 < x) := by simp; omega
  by_cases h1 : x < 48
  · have d1 : decide ((x : Int) < 48) = true := by rw [e1]; simpa using h1
    clear e1 e2
    go_enter Tryd.func27, Tryd.ntmps27
    go_wp2
    go_ret
    exact ⟨ret_b (by rw [decide_eq_true h1]; rfl), rfl⟩
  · have d1 : decide ((x : Int) < 48) = false := by rw [e1]; simpa using h1
    have d2 : decide ((57 : Int) < (x : Int)) = decide (57 < x) := e2
    have D2 := Aside0.mk d2
    clear e1 e2 d2
    go_enter Tryd.func27, Tryd.ntmps27
    go_wp2
    go_ret
    exact ⟨ret_b (by rw [decide_eq_false h1]; first | exact D2.out | (simp; done) | rfl), rfl⟩
theorem idx_from (s : ByteArray) : ∀ (f pos : Nat), s.size ≤ pos + f → (0 ≤ Lib.idxFuncFrom notDigit true s f pos ↔ ∃ j : Nat, pos ≤ j ∧ j < s.size ∧ digitB (bt s j) = false)
  | 0, pos, h => by
    simp only [Lib.idxFuncFrom]
    constructor
    · intro h; omega
    · rintro ⟨j, h1, h2, _⟩; omega
  | f + 1, pos, h => by
    unfold Lib.idxFuncFrom
    by_cases hp : pos < s.size
    · rw [if_pos hp]
      have hbt : bt s pos = ((s[pos]'hp).toNat : Int) := (bt_nat s pos hp).symm
      by_cases ha : (s[pos]'hp).toNat < 128
      · rw [decode_ascii s pos hp ha]
        by_cases hd : notDigit (s[pos]'hp).toNat = true
        · rw [if_pos hd]
          refine ⟨fun _ => ⟨pos, Nat.le_refl _, hp, ?_⟩, fun _ => by omega⟩
          rw [hbt]
          simp only [notDigit, digitB, Bool.or_eq_true, decide_eq_true_eq] at hd ⊢
          simp
          omega
        · rw [if_neg hd]
          rw [idx_from s f (pos + 1) (by omega)]
          constructor
          · rintro ⟨j, h1, h2, h3⟩; exact ⟨j, by omega, h2, h3⟩
          · rintro ⟨j, h1, h2, h3⟩
            rcases Nat.lt_or_ge pos j with h4 | h4
            · exact ⟨j, h4, h2, h3⟩
            · obtain rfl : j = pos := by omega
              rw [hbt] at h3
              simp only [notDigit, digitB, Bool.or_eq_true, decide_eq_true_eq] at hd h3
              simp at h3
              omega
      · have hh := decode_high s pos hp (by omega)
        have hd : notDigit (Utf8.decode s pos).1 = true := by simp only [notDigit, Bool.or_eq_true, decide_eq_true_eq]; omega
        rw [if_pos hd]
        refine ⟨fun _ => ⟨pos, Nat.le_refl _, hp, ?_⟩, fun _ => by omega⟩
        rw [hbt]
        simp only [digitB]
        simp
        omega
    · rw [if_neg hp]
      constructor
      · intro h; omega
      · rintro ⟨j, h1, h2, _⟩; omega
theorem idx_digits (s : ByteArray) : decide (0 ≤ Lib.idxFunc notDigit true s) = !allD s := by
  have h := idx_from s s.size 0 (by omega)
  have ha := all_iff s digitB
  unfold Lib.idxFunc
  cases hd : allD s with
  | true =>
    simp only [Bool.not_true, decide_eq_false_iff_not]
    rw [h]
    rintro ⟨j, _, h2, h3⟩
    rw [ha.1 hd j h2] at h3
    cases h3
  | false =>
    simp only [Bool.not_false, decide_eq_true_eq]
    rw [h]
    apply Classical.byContradiction
    intro hn
    have : allD s = true := ha.2 fun k hk => by
      cases hb : digitB (bt s k) with
      | true => rfl
      | false => exact absurd ⟨k, Nat.zero_le _, hk, hb⟩ hn
    rw [hd] at this
    cases this
theorem containsFunc_any (s : ByteArray) (w : World) : Calls Tryd.prog 26 #[.string s, .func (.func 27) #[] #[]] w fun e w' => e = .returned (.bool (!allD s)) ∧ Below w.heap.size w w' := by
  refine (Tryd.strings_ContainsFunc_grows 27 #[] (enters_of Tryd.func27 (by kernel_rfl) rfl) notDigit s w ?_).mono ?_
  · intro W x hx hb
    refine (closure_any x W).mono ?_
    rintro e w' ⟨rfl, rfl⟩
    exact ⟨rfl, Below.refl _ _⟩
  · rintro e w' ⟨rfl, hB⟩
    exact ⟨ret_b (idx_digits s), hB⟩
set_option maxHeartbeats 1000000 in
set_option maxRecDepth 100000 in
theorem param_one (c : UInt8) (w : World) : Calls Tryd.prog 15 #[.string ⟨#[c]⟩] w fun e w' => e = .returned (.bool (paramB ⟨#[c]⟩)) ∧ Below w.heap.size w w' := by
  have hb0 : bt ⟨#[c]⟩ 0 = (c.toNat : Int) := by unfold bt; rw [dif_pos (by show (0 : Nat) < 1; omega)]; rfl
  have hix : ∀ h : 0 < (⟨#[c]⟩ : ByteArray).size, (((⟨#[c]⟩ : ByteArray)[0]'h).toNat : Int) = (c.toNat : Int) := fun _ => rfl
  have hA : allD ⟨#[c]⟩ = digitB (c.toNat : Int) := by simp [allD, bytesOf]
  have hP : paramB ⟨#[c]⟩ = (digitB (c.toNat : Int) || setB (c.toNat : Int) || nameB ⟨#[c]⟩) := by
    unfold paramB
    rw [hb0, show (⟨#[c]⟩ : ByteArray).size = 1 from rfl]
    simp
  have HA := Aside0.mk hA
  rw [hP]
  clear hA hP
  generalize hN : nameB ⟨#[c]⟩ = nm
  have HN := Aside0.mk hN
  clear hN hb0
  by_cases h1 : digitB (c.toNat : Int) = true
  · go_enter Tryd.func15, Tryd.ntmps15
    go_wp2_with (go_at_call 24; refine (digit_any _ _).mono ?_; rintro e w' ⟨rfl, rfl⟩)
    go_ret
    exact ⟨ret_b (by simp [h1]), Below.refl _ _⟩
  · replace h1 := Bool.eq_false_iff.mpr h1
    by_cases h2 : setB (c.toNat : Int) = true
    · go_enter Tryd.func15, Tryd.ntmps15
      go_wp2_with (first
        | (go_at_call 24; refine (digit_any _ _).mono ?_; rintro e w' ⟨rfl, rfl⟩)
        | (go_at_call 25; refine (contains_set _ _).mono ?_; rintro e w' ⟨rfl, rfl⟩))
      go_ret
      exact ⟨ret_b (by simp [h2]), Below.refl _ _⟩
    · replace h2 := Bool.eq_false_iff.mpr h2
      cases nm with
      | true =>
        go_enter Tryd.func15, Tryd.ntmps15
        go_wp2_with (first
          | (go_at_call 24; refine (digit_any _ _).mono ?_; rintro e w' ⟨rfl, rfl⟩)
          | (go_at_call 25; refine (contains_set _ _).mono ?_; rintro e w' ⟨rfl, rfl⟩)
          | (go_at_call 14; refine (name_any _ _ (by show (1 : Nat) ≤ 140737488355328; omega)).mono ?_; rintro e w' ⟨rfl, rfl⟩; rw [HN.out]))
        go_ret
        exact ⟨ret_b (by simp), Below.refl _ _⟩
      | false =>
        go_enter Tryd.func15, Tryd.ntmps15
        go_wp2_with (first
          | (go_at_call 24; refine (digit_any _ _).mono ?_; rintro e w' ⟨rfl, rfl⟩)
          | (go_at_call 25; refine (contains_set _ _).mono ?_; rintro e w' ⟨rfl, rfl⟩)
          | (go_at_call 14; refine (name_any _ _ (by show (1 : Nat) ≤ 140737488355328; omega)).mono ?_; rintro e w' ⟨rfl, rfl⟩; rw [HN.out])
          | (go_at_call 26; refine (containsFunc_any _ _).mono ?_; rintro e w1 ⟨rfl, hB⟩; rw [HA.out]; have HB := Aside0.mk hB; clear hB))
        go_ret
        exact ⟨ret_b (by simp [h1, h2]), HB.out⟩
set_option maxHeartbeats 1000000 in
set_option maxRecDepth 100000 in
theorem param_many (s : ByteArray) (w : World) (hs : s.size ≤ 140737488355328) (h1 : s.size ≠ 1) : Calls Tryd.prog 15 #[.string s] w fun e w' => e = .returned (.bool (paramB s)) ∧ Below w.heap.size w w' := by
  have hP : paramB s = (nameB s || (allD s && decide (1 < s.size) && decide (s.size ≤ 3) && bt s 0 != 48)) := by
    unfold paramB
    simp [h1]
  rw [hP]
  clear hP
  have hn1 : ((s.size : Int) == 1) = false := by simp; omega
  have hn2 : (s.size == 1) = false := by simp; omega
  clear h1
  generalize hN : nameB s = nm
  have HN := Aside0.mk hN
  clear hN
  generalize hD : allD s = ad
  have HD := Aside0.mk hD
  clear hD
  cases nm with
  | true =>
    go_enter Tryd.func15, Tryd.ntmps15
    go_wp2_with (first
      | (go_at_call 14; refine (name_any _ _ hs).mono ?_; rintro e w' ⟨rfl, rfl⟩; rw [HN.out]))
    go_ret
    exact ⟨ret_b (by simp), Below.refl _ _⟩
  | false =>
    by_cases h2 : 1 < s.size
    · have hbt : ∀ h : 0 < s.size, ((s[0]'h).toNat : Int) = bt s 0 := bt_nat s 0
      have hi1 : (0 : Int) < (s.size : Int) := by omega
      have hi2 : 0 < s.size := by omega
      have hd1 : decide ((1 : Int) < (s.size : Int)) = true := by simp; omega
      by_cases h3 : s.size ≤ 3
      · have hd3 : decide ((s.size : Int) ≤ 3) = true := by simp; omega
        cases ad
        all_goals
          go_enter Tryd.func15, Tryd.ntmps15
          go_wp2_with (first
            | (go_at_call 14; refine (name_any _ _ hs).mono ?_; rintro e w' ⟨rfl, rfl⟩; rw [HN.out])
            | (go_at_call 26; refine (containsFunc_any _ _).mono ?_; rintro e w1 ⟨rfl, hB⟩; rw [HD.out]; have HB := Aside0.mk hB; clear hB))
          go_ret
          exact ⟨ret_b (by simp [h2, h3]), HB.out⟩
      · have hd3 : decide ((s.size : Int) ≤ 3) = false := by simp; omega
        cases ad
        all_goals
          go_enter Tryd.func15, Tryd.ntmps15
          go_wp2_with (first
            | (go_at_call 14; refine (name_any _ _ hs).mono ?_; rintro e w' ⟨rfl, rfl⟩; rw [HN.out])
            | (go_at_call 26; refine (containsFunc_any _ _).mono ?_; rintro e w1 ⟨rfl, hB⟩; rw [HD.out]; have HB := Aside0.mk hB; clear hB))
          go_ret
          exact ⟨ret_b (by simp [h2, h3]), HB.out⟩
    · have hd1 : decide ((1 : Int) < (s.size : Int)) = false := by simp; omega
      cases ad
      all_goals
        go_enter Tryd.func15, Tryd.ntmps15
        go_wp2_with (first
          | (go_at_call 14; refine (name_any _ _ hs).mono ?_; rintro e w' ⟨rfl, rfl⟩; rw [HN.out])
          | (go_at_call 26; refine (containsFunc_any _ _).mono ?_; rintro e w1 ⟨rfl, hB⟩; rw [HD.out]; have HB := Aside0.mk hB; clear hB))
        go_ret
        exact ⟨ret_b (by simp [h2]), HB.out⟩
theorem one_byte {s : ByteArray} (h : s.size = 1) : ∃ c, s = ⟨#[c]⟩ := by
  obtain ⟨⟨l⟩⟩ := s
  match l, h with
  | [c], _ => exact ⟨c, rfl⟩
theorem param_any (s : ByteArray) (w : World) (hs : s.size ≤ 140737488355328) : Calls Tryd.prog 15 #[.string s] w fun e w' => e = .returned (.bool (paramB s)) ∧ Below w.heap.size w w' := by
  by_cases h1 : s.size = 1
  · obtain ⟨c, rfl⟩ := one_byte h1
    exact param_one c w
  · exact param_many s w hs h1
end Go.Proofs.YthplgobjoobmdaaDoor.Class
namespace Go.Proofs.YthplgobjoobmdaaDoor.Vars
open Go.Lib Go.RowKit Go.Proofs.YthplgobjoobmdaaDoorW.PrintWords Go.Proofs.YthplgobjoobmdaaDoor.Base Go.Proofs.YthplgobjoobmdaaDoor.Class
set_option linter.unusedVariables false
set_option linter.unusedSimpArgs false
def isD (b : UInt8) : Bool := decide (48 ≤ b.toNat) && decide (b.toNat ≤ 57)
def okD (l : List UInt8) : Bool := !l.isEmpty && decide (l.length ≤ 9) && l.all isD
def valD (l : List UInt8) : Nat := (decFrom 0 l).getD 0
theorem digit_val {b : UInt8} (h : isD b = true) : digitVal b = some (b.toNat - 48) := by
  unfold isD at h
  simp only [Bool.and_eq_true, decide_eq_true_eq] at h
  unfold digitVal
  rw [if_pos h]
theorem dec_all : ∀ (l : List UInt8) (acc : Nat), l.all isD = true → ∃ n, decFrom acc l = some n ∧ n < (acc + 1) * 10 ^ l.length
  | [], acc, _ => ⟨acc, rfl, by simp⟩
  | b :: r, acc, h => by
    rw [List.all_cons, Bool.and_eq_true] at h
    obtain ⟨n, h1, h2⟩ := dec_all r (acc * 10 + (b.toNat - 48)) h.2
    refine ⟨n, ?_, ?_⟩
    · unfold decFrom
      rw [digit_val h.1]
      exact h1
    · have hb : b.toNat ≤ 57 := by
        have := h.1
        unfold isD at this
        simp only [Bool.and_eq_true, decide_eq_true_eq] at this
        exact this.2
      rw [List.length_cons, Nat.pow_succ]
      have : (acc * 10 + (b.toNat - 48) + 1) * 10 ^ r.length ≤ ((acc + 1) * 10) * 10 ^ r.length := Nat.mul_le_mul_right _ (by omega)
      have e : (acc + 1) * 10 * 10 ^ r.length = (acc + 1) * (10 ^ r.length * 10) := by rw [Nat.mul_assoc, Nat.mul_comm 10]
      omega
theorem val_lt {l : List UInt8} (h : okD l = true) : valD l < 1000000000 := by
  unfold okD at h
  simp only [Bool.and_eq_true, decide_eq_true_eq] at h
  obtain ⟨n, h1, h2⟩ := dec_all l 0 h.2
  unfold valD
  rw [h1]
  have : 10 ^ l.length ≤ 10 ^ 9 := Nat.pow_le_pow_right (by decide) h.1.2
  simp only [Option.getD_some]
  have e : (10 : Nat) ^ 9 = 1000000000 := by decide
  omega
theorem atoi_digits {l : List UInt8} (h : okD l = true) : atoi l = some (valD l : Int) := by
  have h' := h
  unfold okD at h'
  simp only [Bool.and_eq_true, decide_eq_true_eq] at h'
  obtain ⟨n, h1, h2⟩ := dec_all l 0 h'.2
  cases l with
  | nil => simp at h'
  | cons b r =>
    have hb := h'.2
    rw [List.all_cons, Bool.and_eq_true] at hb
    have hb1 := hb.1
    unfold isD at hb1
    simp only [Bool.and_eq_true, decide_eq_true_eq] at hb1
    have e45 : (b == 45) = false := by rw [beq_eq_false_iff_ne]; intro e; subst e; exact absurd hb1.1 (by decide)
    have e43 : (b == 43) = false := by rw [beq_eq_false_iff_ne]; intro e; subst e; exact absurd hb1.1 (by decide)
    unfold atoi
    simp only [e45, e43]
    unfold valD decNat
    rw [h1]
    simp
theorem dec_ge : ∀ (l : List UInt8) (acc n : Nat), decFrom acc l = some n → acc ≤ n
  | [], acc, n, h => by
    have : some acc = some n := h
    have := Option.some.inj this
    omega
  | b :: r, acc, n, h => by
    unfold decFrom at h
    split at h
    · have := dec_ge r _ n h
      omega
    · cases h
theorem val_ge {b : UInt8} {r : List UInt8} (h : (b :: r).all isD = true) (h0 : b ≠ 48) : 1 ≤ valD (b :: r) := by
  obtain ⟨n, h1, _⟩ := dec_all (b :: r) 0 h
  unfold valD
  rw [h1]
  rw [List.all_cons, Bool.and_eq_true] at h
  have hb := h.1
  unfold decFrom at h1
  rw [digit_val hb] at h1
  have h2 := dec_ge r _ n h1
  have hb2 := hb
  unfold isD at hb2
  simp only [Bool.and_eq_true, decide_eq_true_eq] at hb2
  have : b.toNat ≠ 48 := fun e => h0 (UInt8.toNat_inj.1 e)
  show 1 ≤ n
  omega
theorem digit_isD (b : UInt8) : digitB (b.toNat : Int) = isD b := by
  unfold digitB isD
  rw [Bool.eq_iff_iff]
  simp only [Bool.and_eq_true, decide_eq_true_eq]
  omega
theorem param_num {s : ByteArray} (h : paramB s = true) (hn : nameB s = false) (h0 : s ≠ ⟨#[48]⟩) (h1 : s ≠ ⟨#[35]⟩) (h2 : s ≠ ⟨#[63]⟩) (h3 : s ≠ ⟨#[36]⟩) (h4 : s ≠ ⟨#[33]⟩) (h5 : s ≠ ⟨#[64]⟩) (h6 : s ≠ ⟨#[42]⟩) : okD s.data.toList = true ∧ 1 ≤ valD s.data.toList := by
  have hz := data_length s
  have hbt : ∀ b r, s.data.toList = b :: r → bt s 0 = (b.toNat : Int) := by
    intro b r hl
    have hz : 0 < s.size := by rw [hl] at hz; simp at hz; omega
    have h1 := bytes_get s 0 hz
    have h2 : bytesOf s = s.data.toList.map fun b => (b.toNat : Int) := rfl
    rw [show ((0 : Nat) : Int) = 0 from rfl] at h1
    rw [← h1]
    simp [h2, hl]
  unfold paramB at h
  rw [hn, Bool.or_false, Bool.or_eq_true] at h
  rcases h with h | h
  · rw [Bool.and_eq_true, Bool.or_eq_true] at h
    have hs1 := of_decide_eq_true h.1
    obtain ⟨c, rfl⟩ := one_byte hs1
    have hc : bt ⟨#[c]⟩ 0 = (c.toNat : Int) := hbt c [] rfl
    rw [hc] at h
    rcases h.2 with hd | hd
    · rw [digit_isD] at hd
      have hall : ([c] : List UInt8).all isD = true := by simp [hd]
      refine ⟨?_, val_ge hall (fun e => h0 (by rw [e]))⟩
      show okD [c] = true
      unfold okD
      rw [hall]
      rfl
    · exfalso
      unfold setB at hd
      have hm : (c.toNat : Int) ∈ [64, 42, 35, 63, 36, 33] := by simpa using hd
      simp only [List.mem_cons, List.not_mem_nil, or_false] at hm
      have key : ∀ k : Nat, k < 256 → (c.toNat : Int) = (k : Int) → c = UInt8.ofNat k := by
        intro k hk e
        have : c.toNat = k := by omega
        rw [← this]
        simp
      rcases hm with e | e | e | e | e | e
      · exact h5 (by rw [key 64 (by omega) e]; rfl)
      · exact h6 (by rw [key 42 (by omega) e]; rfl)
      · exact h1 (by rw [key 35 (by omega) e]; rfl)
      · exact h2 (by rw [key 63 (by omega) e]; rfl)
      · exact h3 (by rw [key 36 (by omega) e]; rfl)
      · exact h4 (by rw [key 33 (by omega) e]; rfl)
  · simp only [Bool.and_eq_true] at h
    have hall : s.data.toList.all isD = true := by
      have := h.1.1.1
      unfold allD at this
      rw [List.all_eq_true] at this ⊢
      intro b hb
      rw [← digit_isD]
      exact this _ (List.mem_map.2 ⟨b, hb, rfl⟩)
    have hl1 := of_decide_eq_true h.1.1.2
    have hl3 := of_decide_eq_true h.1.2
    cases hl : s.data.toList with
    | nil => rw [hl] at hz; simp at hz; omega
    | cons b r =>
      have hb0 : b ≠ 48 := by
        rintro rfl
        have h8 := h.2
        rw [hbt _ _ hl] at h8
        simp at h8
      rw [hl] at hall hz
      refine ⟨?_, val_ge hall hb0⟩
      unfold okD
      rw [hall, Bool.and_true, Bool.and_eq_true]
      refine ⟨rfl, decide_eq_true ?_⟩
      simp at hz ⊢
      omega
end Go.Proofs.YthplgobjoobmdaaDoor.Vars
namespace Go.Proofs.YthplgobjoobmdaaDoor.Vars
open Go.RowKit Go.Proofs.YthplgobjoobmdaaDoorW.PrintWords Go.Proofs.YthplgobjoobmdaaDoorW.PrintLast Go.Proofs.YthplgobjoobmdaaDoorW.PrintMore Go.Proofs.YthplgobjoobmdaaDoor.Base Go.Maps Go.WideMaps
set_option linter.unusedVariables false
set_option linter.unusedSimpArgs false
abbrev Dm := DataW Unit
abbrev lit (s : ByteArray) : Lit := .string s.data.toList
abbrev Tb := ByteArray → Option ByteArray
def upd (f : Tb) (s v : ByteArray) : Tb := fun q => if q = s then some v else f q
theorem upd_same (f : Tb) (s v : ByteArray) : upd f s v s = some v := if_pos rfl
theorem upd_other (f : Tb) (s v : ByteArray) {q : ByteArray} (h : q ≠ s) : upd f s v q = f q := if_neg h
theorem ba_inj {s t : ByteArray} (h : s.data.toList = t.data.toList) : s = t := by
  cases s; cases t
  congr 1
  exact Array.toList_inj.1 h
theorem lit_ne {s q : ByteArray} (h : q ≠ s) : lit q ≠ lit s := fun e => h (ba_inj (by injection e))
theorem keyS : Keyed Tryd.prog 9 := string_keyed Tryd.underlying9
noncomputable abbrev Rs : Value → Option (Dm × List MemPlace) := plainElem Tryd.prog 9
theorem zeroS (w : World) : (zeroValue 9).run Tryd.prog w = .ok (.string ⟨#[]⟩) w := by kernel_rfl
theorem Rs_mk {s : ByteArray} (h : s.size ≤ maxLen) : Rs (.string s) = some (.lit (.string s.data.toList), []) := plainElem_string Tryd.underlying9 h
structure MV (w : World) (base m n : Nat) (D : Dm) (f : Tb) : Prop where
  bm : base ≤ m
  own : w.ownsMap Tryd.prog 9 Rs m n D
  no : ∀ q, f q = none → Maps.has D (lit q) = false
  yes : ∀ q r, f q = some r → ∀ z, D.atKey (lit q) z = .lit (.string r.data.toList)
theorem grown_of {w w' : World} (h : Below w.heap.size w w') : w.grownBy w' none := ⟨h.os, h.tape, h.output, h.size, fun i hi _ => h.block i hi⟩
theorem MV.kept {w w' : World} {base m n : Nat} {D : Dm} {f : Tb} {row : Option Nat} (h : MV w base m n D f) (hg : w.grownBy w' row) (hne : some m ≠ row) : MV w' base m n D f := ⟨h.bm, h.own.kept hg hne, h.no, h.yes⟩
theorem MV.below {w w' : World} {base m n : Nat} {D : Dm} {f : Tb} (h : MV w base m n D f) (hb : Below w.heap.size w w') : MV w' base m n D f := h.kept (grown_of hb) (by simp)
theorem MV.mono {w : World} {base m n n' : Nat} {D : Dm} {f : Tb} (h : MV w base m n D f) (hn : n ≤ n') : MV w base m n' D f := ⟨h.bm, h.own.mono hn, h.no, h.yes⟩
theorem MV.set {w : World} {base m n : Nat} {D : Dm} {f : Tb} (h : MV w base m n D f) {a : Addr} (ha : m ≠ a.block) (u : Value) : MV (w.setCell a u) base m n D f := ⟨h.bm, h.own.setCell ha u, h.no, h.yes⟩
theorem MV.look {w : World} {base m n : Nat} {D : Dm} {f : Tb} (h : MV w base m n D f) (s : ByteArray) (hs : s.size ≤ maxLen) :
    (Instr.lookup 34 (.map (some m)) (.string s) true).run Tryd.prog w = .ok (.tuple #[.string ((f s).getD ⟨#[]⟩), .bool (f s).isSome]) w := by
  obtain ⟨v, ps, hrun, hv⟩ := h.own.look_ok keyS Tryd.underlying34 (zeroS w) (Rs_mk (s := ⟨#[]⟩) (by decide)) (keyOf_string_mk Tryd.underlying9 hs)
  rw [hrun]
  cases hf : f s with
  | none =>
    rw [h.no s hf]
    rw [atKey_of_not_has (h.no s hf)] at hv
    obtain ⟨t, rfl, e, _⟩ := plainElem_string_inv Tryd.underlying9 hv
    have e1 : ((⟨#[]⟩ : ByteArray).data.toList : List UInt8) = t.data.toList := by
      have := congrArg Prod.fst e
      simpa using this
    rw [← ba_inj e1]
    rfl
  | some r =>
    rw [has_true_of_atKey (h.yes s r hf)]
    rw [h.yes s r hf] at hv
    obtain ⟨t, rfl, e, _⟩ := plainElem_string_inv Tryd.underlying9 hv
    have e1 : (r.data.toList : List UInt8) = t.data.toList := by
      have := congrArg Prod.fst e
      simpa using this
    rw [← ba_inj e1]
    rfl
theorem MV.put {w w' : World} {base m n : Nat} {D : Dm} {f : Tb} (h : MV w base m n D f) (s v : ByteArray) (own1 : w'.ownsMap Tryd.prog 9 Rs m (n + 1) (D.put (lit s) (.lit (.string v.data.toList)))) : MV w' base m (n + 1) (D.put (lit s) (.lit (.string v.data.toList))) (upd f s v) where
  bm := h.bm
  own := own1
  no := fun q hq => by
    have e : q ≠ s := by rintro rfl; rw [upd_same] at hq; cases hq
    rw [upd_other f s v e] at hq
    rw [has_put_other (lit_ne e)]
    exact h.no q hq
  yes := fun q r hq z => by
    by_cases e : q = s
    · subst e
      rw [upd_same] at hq
      cases hq
      exact atKey_put_same h.own.isMap (by trivial) _ _
    · rw [upd_other f s v e] at hq
      rw [atKey_put_other (lit_ne e)]
      exact h.yes q r hq z
theorem MV.made (w : World) (base : Nat) (hb : base ≤ w.heap.size) : MV (w.alloc (.map #[] 0)) base w.heap.size 0 (.map []) (fun _ => none) :=
  ⟨hb, World.ownsMap_made w Tryd.prog 9 Rs, fun _ _ => rfl, fun _ _ h => by cases h⟩
inductive MF (w : World) (base : Nat) : Value → Nat → Tb → Prop
  | nil (n : Nat) : MF w base (.map none) n (fun _ => none)
  | map (m n : Nat) (D : Dm) (f : Tb) (h : MV w base m n D f) : MF w base (.map (some m)) n f
structure VW (w : World) (base g n : Nat) (f : Tb) (st la : Int) (L : List ByteArray) (mv av : Value) : Prop where
  hg : w.heap[g]? = some (.cells #[mv, av, .int .i64 st, .int .i64 la] 36 (0, 0))
  bg : base ≤ g
  mf : MF w base mv n f
  row : Kd.string.R 9 w base ok0 av L
theorem MF.below {w w' : World} {base n : Nat} {mv : Value} {f : Tb} (h : MF w base mv n f) (hb : Below w.heap.size w w') : MF w' base mv n f := by
  cases h with
  | nil => exact .nil _
  | map m n D f h => exact .map m n D f (h.below hb)
theorem MF.set {w : World} {base n g : Nat} {mv : Value} {f : Tb} {o : Array Value} {t : Nat} (h : MF w base mv n f) (hg : w.heap[g]? = some (.cells o t (0, 0))) (j : Nat) (u : Value) : MF (w.setCell ⟨g, j, none⟩ u) base mv n f := by
  cases h with
  | nil => exact .nil _
  | map m n D f h =>
    refine .map m n D f (h.set (a := ⟨g, j, none⟩) (fun e => ?_) u)
    obtain ⟨es, clock, hb, _⟩ := h.own
    subst e
    rw [hg] at hb
    cases hb
theorem VW.below {w w' : World} {base g n : Nat} {f : Tb} {st la : Int} {L : List ByteArray} {mv av : Value} (h : VW w base g n f st la L mv av) (hb : Below w.heap.size w w') : VW w' base g n f st la L mv av :=
  ⟨blk_below h.hg hb, h.bg, h.mf.below hb, Kd.R_below h.row hb⟩
theorem MF.more {w : World} {base n n' : Nat} {mv : Value} {f : Tb} (h : MF w base mv n f) (hn : n ≤ n') : MF w base mv n' f := by
  cases h with
  | nil => exact .nil _
  | map m n D f h => exact .map m _ D f (h.mono hn)
theorem VW.more {w : World} {base g n n' : Nat} {f : Tb} {st la : Int} {L : List ByteArray} {mv av : Value} (h : VW w base g n f st la L mv av) (hn : n ≤ n') : VW w base g n' f st la L mv av := ⟨h.hg, h.bg, h.mf.more hn, h.row⟩
theorem str_E {t : Nat} (h1 : 9 ≠ t) : ∀ q, q ∈ 9 :: Kd.string.E → q ≠ t := by
  intro q hq
  have : q = 9 := by
    rcases List.mem_cons.1 hq with h | h
    · exact h
    · exact absurd h (by show ¬ q ∈ ([] : List Nat); exact List.not_mem_nil)
  rw [this]; exact h1
theorem VW.setStatus {w : World} {base g n : Nat} {f : Tb} {st la : Int} {L : List ByteArray} {mv av : Value} (h : VW w base g n f st la L mv av) (st' : Int) : VW (w.setCell ⟨g, 2, none⟩ (.int .i64 st')) base g n f st' la L mv av :=
  ⟨blk_put h.hg 2 _ rfl, h.bg, h.mf.set h.hg 2 _, Kd.R_set h.row h.hg (str_E (by decide)) 2 _⟩
theorem VW.setLast {w : World} {base g n : Nat} {f : Tb} {st la : Int} {L : List ByteArray} {mv av : Value} (h : VW w base g n f st la L mv av) (la' : Int) : VW (w.setCell ⟨g, 3, none⟩ (.int .i64 la')) base g n f st la' L mv av :=
  ⟨blk_put h.hg 3 _ rfl, h.bg, h.mf.set h.hg 3 _, Kd.R_set h.row h.hg (str_E (by decide)) 3 _⟩
theorem VW.setArgs {w : World} {base g n : Nat} {f : Tb} {st la : Int} {L L' : List ByteArray} {mv av av' : Value} (h : VW w base g n f st la L mv av) (hr : Kd.string.R 9 w base ok0 av' L') : VW (w.setCell ⟨g, 1, none⟩ av') base g n f st la L' mv av' :=
  ⟨blk_put h.hg 1 _ rfl, h.bg, h.mf.set h.hg 1 _, Kd.R_set hr h.hg (str_E (by decide)) 1 _⟩
theorem VW.setMap {w : World} {base g n n' : Nat} {f f' : Tb} {st la : Int} {L : List ByteArray} {mv mv' av : Value} (h : VW w base g n f st la L mv av) (hm : MF w base mv' n' f') : VW (w.setCell ⟨g, 0, none⟩ mv') base g n' f' st la L mv' av :=
  ⟨blk_put h.hg 0 _ rfl, h.bg, hm.set h.hg 0 _, Kd.R_set h.row h.hg (str_E (by decide)) 0 _⟩
theorem VW.put {w w' : World} {base g m n : Nat} {f : Tb} {st la : Int} {L : List ByteArray} {av : Value} {D : Dm} (h : VW w base g n f st la L (.map (some m)) av) (hM : MV w base m n D f) (s v : ByteArray) (own1 : w'.ownsMap Tryd.prog 9 Rs m (n + 1) (D.put (lit s) (.lit (.string v.data.toList)))) (hgr : w.grownBy w' (some m)) :
    VW w' base g (n + 1) (upd f s v) st la L (.map (some m)) av := by
  have neM : ∀ {k t : Nat} {cs : Array Value}, w.heap[k]? = some (.cells cs t (0, 0)) → k ≠ m := by
    rintro k t cs hk rfl
    obtain ⟨es, clock, hb, _⟩ := hM.own
    rw [hk] at hb
    cases hb
  refine ⟨blk_grown h.hg hgr (fun e => neM h.hg (Option.some.inj e)), h.bg, .map m _ _ _ (hM.put s v own1), Kd.R_grown1 h.row rfl hgr (fun e => ?_)⟩
  obtain ⟨cells, hc⟩ := Kd.R_typed h.row m e.symm
  exact neM hc rfl
structure VX (w : World) (g : Nat) (mv : Value) (w' : World) (mv' : Value) : Prop where
  keep : ∀ k o, w.heap[k]? = some o → k ≠ g → mv ≠ .map (some k) → w'.heap[k]? = some o
  mapv : mv' = mv ∨ ∃ m, mv' = .map (some m) ∧ w.heap.size ≤ m
theorem VX.refl (w : World) (g : Nat) (mv : Value) : VX w g mv w mv := ⟨fun _ _ h _ _ => h, .inl rfl⟩
theorem VX.trans {w w1 w2 : World} {g : Nat} {mv mv1 mv2 : Value} (h : VX w g mv w1 mv1) (h2 : VX w1 g mv1 w2 mv2) (hs : w.heap.size ≤ w1.heap.size) : VX w g mv w2 mv2 := by
  refine ⟨fun k o hk hg hm => h2.keep k o (h.keep k o hk hg hm) hg ?_, ?_⟩
  · have hlt : k < w.heap.size := (Array.getElem?_eq_some_iff.1 hk).1
    rcases h.mapv with e | ⟨m, e, hle⟩
    · rw [e]; exact hm
    · rw [e]
      intro e2
      have : m = k := by injection e2 with e2; exact Option.some.inj e2
      omega
  · rcases h2.mapv with e | ⟨m, e, hle⟩
    · rw [e]; exact h.mapv
    · exact .inr ⟨m, e, by omega⟩
theorem VX.below {w w' : World} (g : Nat) (mv : Value) (h : Below w.heap.size w w') : VX w g mv w' mv := ⟨fun k o hk _ _ => blk_below hk h, .inl rfl⟩
theorem VX.set (w : World) (g j : Nat) (mv u : Value) : VX w g mv (w.setCell ⟨g, j, none⟩ u) mv := ⟨fun k o hk hg _ => by rw [Below.heap_setCell w ⟨g, j, none⟩ u k hg]; exact hk, .inl rfl⟩
theorem VX.grown {w w' : World} {m : Nat} (g : Nat) (hgr : w.grownBy w' (some m)) : VX w g (.map (some m)) w' (.map (some m)) := ⟨fun k o hk _ hm => by
  have hlt : k < w.heap.size := (Array.getElem?_eq_some_iff.1 hk).1
  rw [hgr.block k hlt (fun e => hm (by rw [Option.some.inj e]))]
  exact hk, .inl rfl⟩
theorem VX.new {w w' : World} {g : Nat} {mv mv' : Value} {m : Nat} (h : VX w g mv w' mv') (hm : w.heap.size ≤ m) : VX w g mv w' (.map (some m)) := ⟨h.keep, .inr ⟨m, rfl, hm⟩⟩
theorem VW.new {w : World} {base g : Nat} (hg : w.heap[g]? = some (.cells #[.map none, .slice none 0 0, .int .i64 0, .int .i64 0] 36 (0, 0))) (hb : base ≤ g) : VW w base g 0 (fun _ => none) 0 0 [] (.map none) (.slice none 0 0) :=
  ⟨hg, hb, .nil _, Kd.R_nil _ _ _ _ _⟩
end Go.Proofs.YthplgobjoobmdaaDoor.Vars
namespace Go.Proofs.YthplgobjoobmdaaDoor.Vars
open Go.RowKit Go.Proofs.YthplgobjoobmdaaDoorW.PrintWords Go.Proofs.YthplgobjoobmdaaDoorW.PrintLast Go.Proofs.YthplgobjoobmdaaDoorW.PrintMore Go.Proofs.YthplgobjoobmdaaDoor.Base Go.Proofs.YthplgobjoobmdaaDoor.Seq Go.Maps Go.WideMaps
set_option linter.unusedVariables false
set_option linter.unusedSimpArgs false
theorem C_none {n : Nat} {w : World} {L : List ByteArray} (h : Kd.string.C w none n L) : n = 0 := by
  rcases Nat.eq_zero_or_pos n with h0 | h0
  · exact h0
  · obtain ⟨_, e, _⟩ := h.2.2 h0
    cases e
def RowOut (w w' : World) (e : Ending) (L : List ByteArray) : Prop := ∃ v, e = .returned v ∧ Kd.string.R 9 w' w.heap.size ok0 v L ∧ Below w.heap.size w w'
set_option maxHeartbeats 2000000 in
set_option maxRecDepth 100000 in
theorem clone_str (A : Option Addr) (n c : Nat) (L : List ByteArray) (w : World) (hr : Kd.string.C w A n L) (hl : n ≤ 2000000) :
    Calls Tryd.prog 19 #[.slice A n c] w fun e w' => RowOut w w' e L := by
  cases A with
  | none =>
    obtain rfl := C_none hr
    have e : L = [] := List.length_eq_zero_iff.1 hr.1
    subst e
    have q0 := fun w a n c n' c' => Lib.run_eql_slice_nil w _ _ a n c n' c' Tryd.underlying23
    clear hr
    go_enter Tryd.func19, Tryd.ntmps19
    go_wp2
    go_ret
    exact ⟨_, rfl, Kd.R_nil _ _ _ _ _, Below.refl _ _⟩
  | some ad =>
    have HC := Aside0.mk hr
    have q0 := fun w a n c n' c' => Lib.run_eql_slice_nil w _ _ a n c n' c' Tryd.underlying23
    clear hr
    go_enter Tryd.func19, Tryd.ntmps19
    go_wp2_with (first | (
      (with_reducible refine gate_dst (N := 7) rfl ?_)
      go_loud (refine R_app Kd.string flat_string w.heap.size (N := 7) (w0 := w) (W := w.alloc (.cells #[] 9)) rfl rfl (.tmp 5) (.tmp 6) 23 9 (.string ⟨#[]⟩) 16 rfl Tryd.underlying23 (by kernel_rfl) rfl (by decide) (by decide) (.slice (some ⟨w.heap.size, 0, none⟩) 0 0) [] L (some ad) n c rfl rfl (R_empty (blk_new w _) (Nat.le_refl _)) (Kd.C_below HC.out (below_alloc (Below.refl _ _) _)) (below_alloc (Below.refl _ _) _) (below_alloc (Below.refl _ _) _).size (by simp; omega) ?_)
      intro v1 w1 hR hB hG
      have HR1 := Aside0.mk hR
      have HB1 := Aside0.mk hB
      clear hR hB hG))
    go_ret
    exact ⟨_, rfl, HR1.out, HB1.out⟩
section
variable {w : World} {base g n : Nat} {f : Tb} {st la : Int} {L : List ByteArray} {mv av : Value}
set_option maxHeartbeats 2000000 in
set_option maxRecDepth 100000 in
theorem status_any (h : VW w base g n f st la L mv av) (x : Int) :
    Calls Tryd.prog 10 #[.pointer (some ⟨g, 0, none⟩), .int .i64 x] w fun e w' => e = .returned (.tuple #[]) ∧ VW w' base g n f x la L mv av ∧ Below base w w' ∧ VX w g mv w' mv := by
  have H := Aside0.mk h
  have hg := blk_lt h.hg
  have c2 : w.cell? ⟨g, 2, none⟩ = some (.int .i64 st) := (blk_cell h.hg 2).trans rfl
  have z2 : w.frozen? ⟨g, 2, none⟩ = false := blk_frozen h.hg 2
  clear h
  go_enter Tryd.func10, Tryd.ntmps10
  go_wp2
  go_end0
  exact ⟨rfl, H.out.setStatus x, (Below.refl base w).setCell (p := ⟨g, 2, none⟩) H.out.bg _, VX.set _ _ _ _ _⟩
set_option maxHeartbeats 2000000 in
set_option maxRecDepth 100000 in
theorem last_any (h : VW w base g n f st la L mv av) (x : Int) :
    Calls Tryd.prog 11 #[.pointer (some ⟨g, 0, none⟩), .int .i64 x] w fun e w' => e = .returned (.tuple #[]) ∧ VW w' base g n f st x L mv av ∧ Below base w w' ∧ VX w g mv w' mv := by
  have H := Aside0.mk h
  have hg := blk_lt h.hg
  have c2 : w.cell? ⟨g, 3, none⟩ = some (.int .i64 la) := (blk_cell h.hg 3).trans rfl
  have z2 : w.frozen? ⟨g, 3, none⟩ = false := blk_frozen h.hg 3
  clear h
  go_enter Tryd.func11, Tryd.ntmps11
  go_wp2
  go_end0
  exact ⟨rfl, H.out.setLast x, (Below.refl base w).setCell (p := ⟨g, 3, none⟩) H.out.bg _, VX.set _ _ _ _ _⟩
set_option maxHeartbeats 2000000 in
set_option maxRecDepth 100000 in
theorem args_any (h : VW w base g n f st la L mv av) (A : Option Addr) (k c : Nat) (L' : List ByteArray) (hr : Kd.string.C w A k L') (hl : k ≤ 2000000) (hbw : base ≤ w.heap.size) :
    Calls Tryd.prog 9 #[.pointer (some ⟨g, 0, none⟩), .slice A k c] w fun e w' => e = .returned (.tuple #[]) ∧ (∃ av', VW w' base g n f st la L' mv av') ∧ Below base w w' ∧ VX w g mv w' mv := by
  have H := Aside0.mk h
  have HC := Aside0.mk hr
  have HG := Aside0.mk h.hg
  have HBW := Aside0.mk hbw
  clear h hr hbw
  go_enter Tryd.func9, Tryd.ntmps9
  go_wp2_with (go_at_call 19; (with_reducible refine (clone_str A k c L' w HC.out hl).mono ?_); rintro e w1 ⟨v1, rfl, hR, hB⟩; obtain ⟨A1, n1, c1, rfl⟩ := R_slice3 hR; have HR1 := Aside0.mk hR; have HB1 := Aside0.mk hB; have c2 : w1.cell? ⟨g, 1, none⟩ = some av := (blk_cell (blk_below HG.out hB) 1).trans rfl; have z2 := blk_frozen (blk_below HG.out hB) 1; have hlt := blk_lt (blk_below HG.out hB); clear hR hB)
  go_end0
  exact ⟨rfl, ⟨_, (H.out.below HB1.out).setArgs (Kd.R_raise (b := w.heap.size) (b' := base) (fun _ _ _ _ h => h) HR1.out (fun k hk => Nat.le_trans HBW.out (Kd.R_base HR1.out k hk)))⟩, (HB1.out.mono HBW.out).setCell (p := ⟨g, 1, none⟩) H.out.bg _, (VX.below g mv HB1.out).trans (VX.set _ _ _ _ _) HB1.out.size⟩
end
end Go.Proofs.YthplgobjoobmdaaDoor.Vars
namespace Go.Proofs.YthplgobjoobmdaaDoor.Vars
open Go.RowKit Go.Proofs.YthplgobjoobmdaaDoorW.PrintWords Go.Proofs.YthplgobjoobmdaaDoorW.PrintLast Go.Proofs.YthplgobjoobmdaaDoorW.PrintMore Go.Proofs.YthplgobjoobmdaaDoor.Base Go.Proofs.YthplgobjoobmdaaDoor.Seq Go.Maps Go.WideMaps Go.Proofs.YthplgobjoobmdaaDoor.Class
set_option linter.unusedVariables false
set_option linter.unusedSimpArgs false
section
variable {w : World} {base g n : Nat} {f : Tb} {st la : Int} {L : List ByteArray} {mv av : Value}
set_option maxHeartbeats 2000000 in
set_option maxRecDepth 100000 in
theorem set_no (A : Option Addr) (s v : ByteArray) (w : World) (hs : s.size ≤ 2000000) (hn : nameB s = false) :
    Calls Tryd.prog 8 #[.pointer A, .string s, .string v] w fun e w' => e = .returned (.bool false) ∧ w = w' := by
  go_enter Tryd.func8, Tryd.ntmps8
  go_wp2_with (go_at_call 14; (with_reducible refine (name_any s _ (by omega)).mono ?_); rintro e w1 ⟨rfl, rfl⟩; rw [hn])
  go_ret
  exact ⟨rfl, rfl⟩
def SetOut (base g n : Nat) (f : Tb) (st la : Int) (L : List ByteArray) (mv av : Value) (w w' : World) (e : Ending) (s v : ByteArray) : Prop := e = .returned (.bool true) ∧ (∃ mv', VW w' base g (n + 1) (upd f s v) st la L mv' av ∧ VX w g mv w' mv') ∧ Below base w w'
theorem grown_below {w w' : World} {base m : Nat} (h : w.grownBy w' (some m)) (hm : base ≤ m) (hb : base ≤ w.heap.size) : Below base w w' :=
  ⟨h.os, h.tape, h.output, h.size, fun k hk => h.block k (by omega) (fun e => by have := Option.some.inj e; omega)⟩
theorem eqlSome (bm : Nat) (w : World) : (binOp .eql 34 (.map (some bm)) (.map none)).run Tryd.prog w = .ok (.bool false) w := by kernel_rfl
theorem eqlNil (w : World) : (binOp .eql 34 (.map none) (.map none)).run Tryd.prog w = .ok (.bool true) w := by kernel_rfl
set_option maxHeartbeats 4000000 in
set_option maxRecDepth 100000 in
theorem set_any (h : VW w base g n f st la L mv av) (s v : ByteArray) (hs : s.size ≤ 2000000) (hv : v.size ≤ maxLen) (hn : nameB s = true) (hnn : n < 2000000) (hbw : base ≤ w.heap.size) :
    Calls Tryd.prog 8 #[.pointer (some ⟨g, 0, none⟩), .string s, .string v] w fun e w' => SetOut base g n f st la L mv av w w' e s v := by
  have H := Aside0.mk h
  have HBW := Aside0.mk hbw
  have HNN := Aside0.mk hnn
  have HV := Aside0.mk hv
  have hkey := Aside0.mk (keyOf_string_mk Tryd.underlying9 (show s.size ≤ maxLen by unfold maxLen; omega))
  have hlt := blk_lt h.hg
  have q1 := eqlSome
  have q2 := eqlNil
  have hmm := @run_makeMap Tryd.prog
  obtain ⟨hg, bg, mf, row⟩ := h
  cases mf with
  | nil =>
    have c0 : w.cell? ⟨g, 0, none⟩ = some (.map none) := (blk_cell hg 0).trans rfl
    have z0 : w.frozen? ⟨g, 0, none⟩ = false := blk_frozen hg 0
    have HG := Aside0.mk hg
    clear hg bg row hv hnn
    go_enter Tryd.func8, Tryd.ntmps8
    go_upto_region 5 with (go_at_call 14; (with_reducible refine (name_any s _ (by omega)).mono ?_); rintro e w1 ⟨rfl, rfl⟩; rw [hn])
    have hal := below_alloc (Below.refl w.heap.size w) (.map #[] 0)
    have hcm := World.setCell_alloc_past (w := w) (.map #[] 0) g 0 (.map (some w.heap.size)) hlt
    have H2 := Aside0.mk ((H.out.below hal).setMap (.map _ _ _ _ ((MV.made w base HBW.out).mono (Nat.zero_le n))))
    have HB2 := Aside0.mk (((hal.mono HBW.out)).setCell (p := ⟨g, 0, none⟩) H.out.bg (.map (some w.heap.size)))
    have HM2 := Aside0.mk (((MV.made w base HBW.out).mono (Nat.zero_le n)).set (a := ⟨g, 0, none⟩) (show w.heap.size ≠ g by omega) (.map (some w.heap.size)))
    have HBW2 := Aside0.mk (Nat.le_trans HBW.out HB2.out.size)
    have HX2 := Aside0.mk (((VX.below g (.map none) hal).trans (VX.set (w.alloc (.map #[] 0)) g 0 (.map none) (.map (some w.heap.size))) hal.size).new (m := w.heap.size) (Nat.le_refl _))
    have HS2 := Aside0.mk (show w.heap.size ≤ ((w.alloc (.map #[] 0)).setCell ⟨g, 0, none⟩ (.map (some w.heap.size))).heap.size from HB2.out.size)
    rw [hcm] at H2 HB2 HM2 HBW2 HX2 HS2
    clear hal c0 z0 hcm
    generalize hw2 : (w.setCell ⟨g, 0, none⟩ (.map (some w.heap.size))).alloc (.map #[] 0) = w2 at *
    generalize hm2 : w.heap.size = m at *
    have c1 : w2.cell? ⟨g, 0, none⟩ = some (.map (some m)) := (blk_cell H2.out.hg 0).trans rfl
    clear hw2 hmm
    go_wp2_with (at_mapUpdate; go_loud (refine wpList_mapUpdate_own _ rfl _ _ _ 34 rfl 9 9 keyS Tryd.underlying34 Rs m n _ rfl HM2.out.own (by have := HNN.out; unfold maxLen; omega) _ _ (lit s) rfl rfl hkey.out _ [] (Rs_mk HV.out) ?_); intro w1 own1 hgr1; have OWN := Aside0.mk own1; have HGR := Aside0.mk hgr1; clear own1 hgr1)
    go_ret
    exact ⟨rfl, ⟨_, H2.out.put HM2.out s v OWN.out HGR.out, HX2.out.trans (VX.grown g HGR.out) (by rw [hm2]; exact HS2.out)⟩, HB2.out.trans (grown_below HGR.out HM2.out.bm HBW2.out)⟩
  | map m n D f hM =>
    have c0 : w.cell? ⟨g, 0, none⟩ = some (.map (some m)) := (blk_cell hg 0).trans rfl
    have HG := Aside0.mk hg
    have HMV := Aside0.mk hM
    clear hg bg row hv hnn hM
    go_enter Tryd.func8, Tryd.ntmps8
    go_wp2_with (first
      | (go_at_call 14; (with_reducible refine (name_any s _ (by omega)).mono ?_); rintro e w1 ⟨rfl, rfl⟩; rw [hn])
      | (at_mapUpdate; go_loud (refine wpList_mapUpdate_own _ rfl _ _ _ 34 rfl 9 9 keyS Tryd.underlying34 Rs m n D rfl HMV.out.own (by have := HNN.out; unfold maxLen; omega) _ _ (lit s) rfl rfl hkey.out _ [] (Rs_mk HV.out) ?_); intro w1 own1 hgr1; have OWN := Aside0.mk own1; have HGR := Aside0.mk hgr1; clear own1 hgr1))
    go_ret
    exact ⟨rfl, ⟨_, H.out.put HMV.out s v OWN.out HGR.out, VX.grown g HGR.out⟩, grown_below HGR.out HMV.out.bm HBW.out⟩
end
end Go.Proofs.YthplgobjoobmdaaDoor.Vars
namespace Go.Proofs.YthplgobjoobmdaaDoor.Vars
open Go.RowKit Go.Proofs.YthplgobjoobmdaaDoorW.PrintWords Go.Proofs.YthplgobjoobmdaaDoorW.PrintLast Go.Proofs.YthplgobjoobmdaaDoorW.PrintMore Go.Proofs.YthplgobjoobmdaaDoor.Base Go.Proofs.YthplgobjoobmdaaDoor.Seq Go.Maps Go.WideMaps Go.Proofs.YthplgobjoobmdaaDoor.Class
set_option linter.unusedVariables false
set_option linter.unusedSimpArgs false
section
variable {w : World} {base g n : Nat} {f : Tb} {st la : Int} {L : List ByteArray} {mv av : Value}
theorem look_none (s : ByteArray) (hs : s.size ≤ maxLen) (w : World) : (Instr.lookup 34 (.map none) (.string s) true).run Tryd.prog w = .ok (.tuple #[.string ⟨#[]⟩, .bool false]) w := by
  have := Maps.look_nil true keyS Tryd.underlying34 (zeroS w) (keyOf_string_mk Tryd.underlying9 hs)
  exact this
theorem MF.look (h : MF w base mv n f) (s : ByteArray) (hs : s.size ≤ maxLen) : (Instr.lookup 34 mv (.string s) true).run Tryd.prog w = .ok (.tuple #[.string ((f s).getD ⟨#[]⟩), .bool (f s).isSome]) w := by
  cases h with
  | nil => exact look_none s hs w
  | map m n D f h => exact h.look s hs
set_option maxHeartbeats 2000000 in
set_option maxRecDepth 100000 in
theorem get_name (h : VW w base g n f st la L mv av) (s : ByteArray) (hs : s.size ≤ 2000000) (hn : nameB s = true) :
    Calls Tryd.prog 7 #[.pointer (some ⟨g, 0, none⟩), .string s] w fun e w' => e = .returned (.tuple #[.string ((f s).getD ⟨#[]⟩), .bool (f s).isSome]) ∧ w = w' := by
  have hrun := h.mf.look s (by unfold maxLen; omega)
  have c0 : w.cell? ⟨g, 0, none⟩ = some mv := (blk_cell h.hg 0).trans rfl
  generalize (f s).getD ⟨#[]⟩ = x at *
  generalize (f s).isSome = b at *
  cases h.mf with
  | nil =>
    clear h
    go_enter Tryd.func7, Tryd.ntmps7
    go_wp2_with (go_at_call 14; (with_reducible refine (name_any s _ (by omega)).mono ?_); rintro e w1 ⟨rfl, rfl⟩; rw [hn])
    go_ret2
    exact ⟨rfl, rfl⟩
  | map m n D f hM =>
    clear h hM
    go_enter Tryd.func7, Tryd.ntmps7
    go_wp2_with (go_at_call 14; (with_reducible refine (name_any s _ (by omega)).mono ?_); rintro e w1 ⟨rfl, rfl⟩; rw [hn])
    go_ret2
    exact ⟨rfl, rfl⟩
end
end Go.Proofs.YthplgobjoobmdaaDoor.Vars
namespace Go.Proofs
open Go.Shelf
def Tryd.keys13_ren : Go.Shelf.Ren := ⟨fun | 7 => 13 | 10 => 22 | n => n, fun | 23 => 34 | 26 => 9 | 3 => 9 | 28 => 43 | 0 => 0 | 27 => 42 | 33 => 45 | 4 => 4 | n => n, fun | n => n⟩
theorem Tryd.keys13 : Go.Proofs.SlLaysZ.n7 Tryd.prog Tryd.keys13_ren := {
  mixed := by kernel_rfl
  f7 := ⟨Tryd.f13.name, by decide, Tryd.func13.trans (congrArg some (by kernel_rfl))⟩
  f10 := ⟨Tryd.f22.name, by decide, Tryd.func22.trans (congrArg some (by kernel_rfl))⟩
  t0 := Tryd.underlying0
  a0 := Tryd.isAgg0
  z0 := Tryd.sizeOf0
  v0 := Tryd.zeroValue0
  t4 := Tryd.underlying4
  a4 := Tryd.isAgg4
  z4 := Tryd.sizeOf4
  v4 := Tryd.zeroValue4
  t23 := Tryd.underlying34
  a23 := Tryd.isAgg34
  z23 := Tryd.sizeOf34
  v23 := Tryd.zeroValue34
  t26 := Tryd.underlying9
  a26 := Tryd.isAgg9
  z26 := Tryd.sizeOf9
  v26 := Tryd.zeroValue9
  t27 := Tryd.underlying42
  a27 := Tryd.isAgg42
  z27 := Tryd.sizeOf42
  v27 := Tryd.zeroValue42
  t28 := Tryd.underlying43
  a28 := Tryd.isAgg43
  z28 := Tryd.sizeOf43
  v28 := Tryd.zeroValue43
  t33 := Tryd.underlying45
  a33 := Tryd.isAgg45
  z33 := Tryd.sizeOf45
  v33 := Tryd.zeroValue45 }
def Tryd.sorted12_ren : Go.Shelf.Ren := ⟨fun | 6 => 12 | 8 => 20 | 9 => 21 | 11 => 34 | 13 => 36 | 12 => 35 | 23 => 56 | 24 => 57 | 14 => 47 | 15 => 48 | 16 => 49 | 17 => 50 | 18 => 51 | 19 => 52 | 20 => 53 | 21 => 54 | 22 => 55 | 25 => 69 | 26 => 70 | 27 => 71 | 28 => 72 | 29 => 73 | 30 => 74 | 31 => 85 | n => n, fun | 26 => 9 | 28 => 43 | 24 => 23 | 0 => 0 | 3 => 3 | 37 => 66 | 48 => 86 | 50 => 88 | 4 => 4 | 40 => 79 | 39 => 78 | 45 => 83 | 5 => 5 | 9 => 9 | 51 => 103 | 55 => 107 | 57 => 119 | 58 => 120 | 33 => 45 | n => n, fun | n => n⟩
theorem Tryd.sorted12 : Go.Proofs.SlLaysZ.n6 Tryd.prog Tryd.sorted12_ren := {
  mixed := by kernel_rfl
  f6 := ⟨Tryd.f12.name, by decide, Tryd.func12.trans (congrArg some (by kernel_rfl))⟩
  f8 := ⟨Tryd.f20.name, by decide, Tryd.func20.trans (congrArg some (by kernel_rfl))⟩
  f11 := ⟨Tryd.f34.name, by decide, Tryd.func34.trans (congrArg some (by kernel_rfl))⟩
  t0 := Tryd.underlying0
  a0 := Tryd.isAgg0
  z0 := Tryd.sizeOf0
  v0 := Tryd.zeroValue0
  t24 := Tryd.underlying23
  a24 := Tryd.isAgg23
  z24 := Tryd.sizeOf23
  v24 := Tryd.zeroValue23
  t26 := Tryd.underlying9
  a26 := Tryd.isAgg9
  z26 := Tryd.sizeOf9
  v26 := Tryd.zeroValue9
  t28 := Tryd.underlying43
  a28 := Tryd.isAgg43
  z28 := Tryd.sizeOf43
  v28 := Tryd.zeroValue43
  i26 := by kernel_rfl }
def Tryd.sort21_ren : Go.Shelf.Ren := ⟨fun | 6 => 21 | 8 => 36 | 9 => 35 | 19 => 56 | 20 => 57 | 21 => 47 | 22 => 48 | 23 => 49 | 24 => 50 | 25 => 51 | 26 => 52 | 27 => 53 | 28 => 54 | 29 => 55 | 36 => 69 | 31 => 70 | 32 => 71 | 37 => 72 | 38 => 73 | 39 => 74 | 41 => 85 | n => n, fun | 27 => 23 | 29 => 9 | 3 => 3 | 32 => 66 | 26 => 23 | 0 => 0 | 44 => 86 | 46 => 88 | 4 => 4 | 36 => 79 | 35 => 78 | 41 => 83 | 5 => 5 | 9 => 9 | 53 => 103 | 57 => 107 | 63 => 119 | 64 => 120 | n => n, fun | n => n⟩
theorem Tryd.sort21 : Go.Proofs.SlLaysM.n6 Tryd.prog Tryd.sort21_ren := {
  mixed := by kernel_rfl
  f6 := ⟨Tryd.f21.name, by decide, Tryd.func21.trans (congrArg some (by kernel_rfl))⟩
  f8 := Tryd.func36.trans (congrArg some (by kernel_rfl))
  f9 := ⟨Tryd.f35.name, by decide, Tryd.func35.trans (congrArg some (by kernel_rfl))⟩
  f19 := Tryd.func56.trans (congrArg some (by kernel_rfl))
  f20 := Tryd.func57.trans (congrArg some (by kernel_rfl))
  f21 := ⟨Tryd.f47.name, by decide, Tryd.func47.trans (congrArg some (by kernel_rfl))⟩
  f22 := ⟨Tryd.f48.name, by decide, Tryd.func48.trans (congrArg some (by kernel_rfl))⟩
  f23 := ⟨Tryd.f49.name, by decide, Tryd.func49.trans (congrArg some (by kernel_rfl))⟩
  f24 := ⟨Tryd.f50.name, by decide, Tryd.func50.trans (congrArg some (by kernel_rfl))⟩
  f25 := ⟨Tryd.f51.name, by decide, Tryd.func51.trans (congrArg some (by kernel_rfl))⟩
  f26 := ⟨Tryd.f52.name, by decide, Tryd.func52.trans (congrArg some (by kernel_rfl))⟩
  f27 := ⟨Tryd.f53.name, by decide, Tryd.func53.trans (congrArg some (by kernel_rfl))⟩
  f28 := ⟨Tryd.f54.name, by decide, Tryd.func54.trans (congrArg some (by kernel_rfl))⟩
  f29 := ⟨Tryd.f55.name, by decide, Tryd.func55.trans (congrArg some (by kernel_rfl))⟩
  f31 := Tryd.func70.trans (congrArg some (by kernel_rfl))
  f32 := Tryd.func71.trans (congrArg some (by kernel_rfl))
  f36 := ⟨Tryd.f69.name, by decide, Tryd.func69.trans (congrArg some (by kernel_rfl))⟩
  f37 := ⟨Tryd.f72.name, by decide, Tryd.func72.trans (congrArg some (by kernel_rfl))⟩
  f38 := ⟨Tryd.f73.name, by decide, Tryd.func73.trans (congrArg some (by kernel_rfl))⟩
  f39 := ⟨Tryd.f74.name, by decide, Tryd.func74.trans (congrArg some (by kernel_rfl))⟩
  f41 := ⟨Tryd.f85.name, by decide, Tryd.func85.trans (congrArg some (by kernel_rfl))⟩
  t0 := Tryd.underlying0
  a0 := Tryd.isAgg0
  z0 := Tryd.sizeOf0
  v0 := Tryd.zeroValue0
  t3 := Tryd.underlying3
  a3 := Tryd.isAgg3
  z3 := Tryd.sizeOf3
  v3 := Tryd.zeroValue3
  t4 := Tryd.underlying4
  a4 := Tryd.isAgg4
  z4 := Tryd.sizeOf4
  v4 := Tryd.zeroValue4
  t5 := Tryd.underlying5
  a5 := Tryd.isAgg5
  z5 := Tryd.sizeOf5
  v5 := Tryd.zeroValue5
  t9 := Tryd.underlying9
  a9 := Tryd.isAgg9
  z9 := Tryd.sizeOf9
  v9 := Tryd.zeroValue9
  t26 := Tryd.underlying23
  a26 := Tryd.isAgg23
  z26 := Tryd.sizeOf23
  v26 := Tryd.zeroValue23
  t27 := Tryd.underlying23
  a27 := Tryd.isAgg23
  z27 := Tryd.sizeOf23
  v27 := Tryd.zeroValue23
  t29 := Tryd.underlying9
  a29 := Tryd.isAgg9
  z29 := Tryd.sizeOf9
  v29 := Tryd.zeroValue9
  t32 := Tryd.underlying66
  a32 := Tryd.isAgg66
  z32 := Tryd.sizeOf66
  v32 := Tryd.zeroValue66
  t35 := Tryd.underlying78
  a35 := Tryd.isAgg78
  z35 := Tryd.sizeOf78
  v35 := Tryd.zeroValue78
  t36 := Tryd.underlying79
  a36 := Tryd.isAgg79
  z36 := Tryd.sizeOf79
  v36 := Tryd.zeroValue79
  t41 := Tryd.underlying83
  a41 := Tryd.isAgg83
  z41 := Tryd.sizeOf83
  v41 := Tryd.zeroValue83
  t44 := Tryd.underlying86
  a44 := Tryd.isAgg86
  z44 := Tryd.sizeOf86
  v44 := Tryd.zeroValue86
  t46 := Tryd.underlying88
  a46 := Tryd.isAgg88
  z46 := Tryd.sizeOf88
  v46 := Tryd.zeroValue88
  t53 := Tryd.underlying103
  a53 := Tryd.isAgg103
  z53 := Tryd.sizeOf103
  v53 := Tryd.zeroValue103
  t57 := Tryd.underlying107
  a57 := Tryd.isAgg107
  z57 := Tryd.sizeOf107
  v57 := Tryd.zeroValue107
  t63 := Tryd.underlying119
  a63 := Tryd.isAgg119
  z63 := Tryd.sizeOf119
  v63 := Tryd.zeroValue119
  t64 := Tryd.underlying120
  a64 := Tryd.isAgg120
  z64 := Tryd.sizeOf120
  v64 := Tryd.zeroValue120 }
end Go.Proofs
namespace Go.Proofs
open Go.RowKit Go.Maps Go.Sort Go.Shelf
theorem Tryd.sorts12 (m : Nat) : AnyZ.SortsIn Tryd.prog Tryd.sorted12_ren Fence.wide m :=
  ⟨fun blk off cap ss W hH hblk hsz => callsIn_wide.2 (AnyM.slices_Sort_string Tryd.sort21 blk off cap ss W hH hblk hsz),
   fun p cap W => callsIn_wide.2 (AnyM.slices_Sort_string_none Tryd.sort21 p cap W)⟩
theorem Tryd.maps_Keys_13 (mb : Option Nat) (W : World) : CallsIn Fence.wide 5 Tryd.prog 13 #[.map mb] W fun e w' => e = .returned (.func (.func 22) #[] #[.pointer (some ⟨W.heap.size, 0, none⟩)]) ∧ w' = W.alloc (.cells #[.map mb] 34) :=
  AnyZ.keys_in Tryd.keys13 Fence.wide 5 trivial rfl mb W
set_option maxHeartbeats 1000000 in
theorem Tryd.slices_Sorted_keys_12_13 {H : Type} (b nn : Nat) (D0 : DataW H) (R : Value → Option (DataW H × List MemPlace)) (w : World) (hown : w.ownsMap Tryd.prog 9 R b nn D0) (hmax : Maps.size D0 ≤ maxLen) (hbytes : Maps.size D0 * 16 ≤ 140737488355328) :
    CallsIn Fence.wide 5 Tryd.prog 12 #[.func (.func 22) #[] #[.pointer (some ⟨w.heap.size, 0, none⟩)]] (w.alloc (.cells #[.map (some b)] 34)) fun e w' => ∃ (v : Value) (ss : List (List UInt8)), e = .returned v ∧ ss.Perm (strKeys D0) ∧
      w'.ownsRow (w.alloc (.cells #[.map (some b)] 34)).heap.size 9 1 v ss.length ((ss.mergeSort (fun x y => decide (x ≤ y))).map encStr) ∧ (v = .slice none 0 0 ↔ ss = []) ∧ Below (w.alloc (.cells #[.map (some b)] 34)).heap.size (w.alloc (.cells #[.map (some b)] 34)) w' := by
  have hbl := hown.lt
  have hseq : SeqGives Fence.wide 2 Tryd.prog 22 #[.pointer (some ⟨w.heap.size, 0, none⟩)] encStr (fun ss => ss.Perm (strKeys D0)) (Maps.size D0) (w.alloc (.cells #[.map (some b)] 34)) :=
    AnyZ.keys_gives (ρ := Tryd.keys13_ren) { Tryd.keys13 with } Fence.wide _ trivial rfl (by omega) w.heap.size b nn D0 _ (by simp) (by simp) (by
      obtain ⟨es, clock, hb, Ft, hs, hD⟩ := hown
      exact ⟨es, clock, (Below.heap_alloc _ _ b hbl).trans hb, Ft, hs, hD⟩)
  exact AnyZ.sorted_in Tryd.sorted12 Fence.wide 5 trivial trivial trivial trivial rfl (by omega) (Tryd.sorts12 _) (enters_of Tryd.func21 (by kernel_rfl) rfl) 22 #[.pointer (some ⟨w.heap.size, 0, none⟩)] trivial (enters_of Tryd.func22 (by kernel_rfl) rfl) _ _ hmax hbytes _ hseq
set_option maxHeartbeats 1000000 in
theorem Tryd.slices_Sorted_keys_nil_12_13 (w : World) :
    CallsIn Fence.wide 5 Tryd.prog 12 #[.func (.func 22) #[] #[.pointer (some ⟨w.heap.size, 0, none⟩)]] (w.alloc (.cells #[.map none] 34)) fun e w' => ∃ (v : Value) (ss : List (List UInt8)), e = .returned v ∧ ss = [] ∧
      w'.ownsRow (w.alloc (.cells #[.map none] 34)).heap.size 9 1 v ss.length ((ss.mergeSort (fun x y => decide (x ≤ y))).map encStr) ∧ (v = .slice none 0 0 ↔ ss = []) ∧ Below (w.alloc (.cells #[.map none] 34)).heap.size (w.alloc (.cells #[.map none] 34)) w' := by
  have hseq : SeqGives Fence.wide 2 Tryd.prog 22 #[.pointer (some ⟨w.heap.size, 0, none⟩)] encStr (fun ss : List (List UInt8) => ss = []) 0 (w.alloc (.cells #[.map none] 34)) :=
    AnyZ.keys_gives_nil (ρ := Tryd.keys13_ren) { Tryd.keys13 with } Fence.wide _ trivial rfl w.heap.size _ (by simp) (by simp)
  exact AnyZ.sorted_in Tryd.sorted12 Fence.wide 5 trivial trivial trivial trivial rfl (by omega) (Tryd.sorts12 _) (enters_of Tryd.func21 (by kernel_rfl) rfl) 22 #[.pointer (some ⟨w.heap.size, 0, none⟩)] trivial (enters_of Tryd.func22 (by kernel_rfl) rfl) _ 0 (Nat.zero_le _) (by omega) _ hseq
end Go.Proofs
namespace Go.Proofs.YthplgobjoobmdaaDoor.Vars
open Go.RowKit Go.Proofs.YthplgobjoobmdaaDoorW.PrintWords Go.Proofs.YthplgobjoobmdaaDoorW.PrintLast Go.Proofs.YthplgobjoobmdaaDoorW.PrintMore Go.Proofs.YthplgobjoobmdaaDoor.Base Go.Proofs.YthplgobjoobmdaaDoor.Seq Go.Maps Go.WideMaps Go.Proofs.YthplgobjoobmdaaDoor.Class Go.Sort
set_option linter.unusedVariables false
set_option linter.unusedSimpArgs false
abbrev mkS (l : List UInt8) : ByteArray := ⟨l.toArray⟩
def namesOf (S : List (List UInt8)) : List ByteArray := (S.mergeSort (fun x y => decide (x ≤ y))).map mkS
def KeysIs (f : Tb) (S : List (List UInt8)) : Prop := S.Nodup ∧ ∀ q : ByteArray, q.data.toList ∈ S ↔ f q ≠ none
theorem keys_of {w : World} {base m n : Nat} {D : Dm} {f : Tb} (h : MV w base m n D f) : KeysIs f (strKeys D) := by
  obtain ⟨es, hD, hpw, _⟩ := h.own.entries keyS
  obtain ⟨es', hD', hko⟩ := h.own.keysOf
  obtain rfl : es = es' := by rw [hD] at hD'; simpa using hD'
  have hk : ∀ p ∈ es, ∃ x, p.1 = .string x := fun p hp => by
    obtain ⟨v, hv⟩ := hko p hp
    obtain ⟨x, _, hx, _⟩ := Maps.keyOf_str Tryd.underlying9 hv
    exact ⟨x, hx⟩
  subst hD
  refine ⟨?_, fun q => ?_⟩
  · show (es.map fun p => strOf p.1).Nodup
    refine List.pairwise_map.2 (hpw.imp_of_mem fun {p q} hp' hq' hne e => hne ?_)
    obtain ⟨a, ha⟩ := hk p hp'
    obtain ⟨b, hb⟩ := hk q hq'
    rw [ha, hb] at e ⊢
    exact congrArg _ e
  · have h1 : q.data.toList ∈ strKeys (.map es) ↔ Maps.has (.map es) (lit q) = true := by
      rw [has_eq, List.any_eq_true]
      show q.data.toList ∈ (es.map fun p => strOf p.1) ↔ _
      rw [List.mem_map]
      constructor
      · rintro ⟨p, hp', e⟩
        obtain ⟨a, ha⟩ := hk p hp'
        refine ⟨p, hp', ?_⟩
        rw [ha] at e ⊢
        simpa [Lit.sameKey, strOf] using e
      · rintro ⟨p, hp', hs⟩
        obtain ⟨a, ha⟩ := hk p hp'
        refine ⟨p, hp', ?_⟩
        rw [ha] at hs ⊢
        simpa [Lit.sameKey, strOf] using hs
    rw [h1]
    constructor
    · intro h2 h3
      rw [h.no q h3] at h2
      cases h2
    · intro h2
      cases hf : f q with
      | none => exact absurd hf h2
      | some r => exact has_true_of_atKey (h.yes q r hf)
theorem keys_size (D : Dm) : (strKeys D).length = Maps.size D := by cases D <;> simp [strKeys, Maps.size]
def NamesOut (w w' : World) (e : Ending) (f : Tb) : Prop := ∃ v S, e = .returned v ∧ KeysIs f S ∧ S.length ≤ 1000000 ∧ Kd.string.R 9 w' w.heap.size ok0 v (namesOf S) ∧ Below w.heap.size w w'
theorem row_of {w' : World} {B : Nat} {v : Value} {ss : List (List UInt8)} (h : w'.ownsRow B 9 1 v ss.length ((ss.mergeSort (fun x y => decide (x ≤ y))).map encStr)) : Kd.string.R 9 w' B ok0 v (namesOf ss) := by
  have e1 : (namesOf ss).length = ss.length := by unfold namesOf; rw [List.length_map, List.length_mergeSort]
  have e2 : encs Value.string (namesOf ss) = (ss.mergeSort (fun x y => decide (x ≤ y))).map encStr := by
    unfold encs namesOf
    rw [List.map_map]
    rfl
  refine Kd.R_of_own (enc := Value.string) (h1 := fun _ => rfl) ?_ (fun _ _ => trivial)
  rw [e1, e2]
  exact h
section
variable {w : World} {base g n : Nat} {f : Tb} {st la : Int} {L : List ByteArray} {mv av : Value}
theorem keys_call (mb : Option Nat) (W : World) : Calls Tryd.prog 13 #[.map mb] W fun e w' => e = .returned (.func (.func 22) #[] #[.pointer (some ⟨W.heap.size, 0, none⟩)]) ∧ w' = W.alloc (.cells #[.map mb] 34) :=
  callsIn_wide.1 (Tryd.maps_Keys_13 mb W)
theorem sorted_map {m : Nat} {D : Dm} (h : MV w base m n D f) (hn : n ≤ 1000000) : Calls Tryd.prog 12 #[.func (.func 22) #[] #[.pointer (some ⟨w.heap.size, 0, none⟩)]] (w.alloc (.cells #[.map (some m)] 34)) fun e w' => NamesOut (w.alloc (.cells #[.map (some m)] 34)) w' e f := by
  have hsz : Maps.size D ≤ 1000000 := Nat.le_trans h.own.size_le hn
  refine (callsIn_wide.1 (Tryd.slices_Sorted_keys_12_13 m n D Rs w h.own (by unfold maxLen; omega) (by omega))).mono ?_
  rintro e w' ⟨v, ss, rfl, hS, hrow, _, hb⟩
  have hk := keys_of h
  refine ⟨v, ss, rfl, ⟨hS.nodup_iff.2 hk.1, fun q => by rw [hS.mem_iff]; exact hk.2 q⟩, by rw [hS.length_eq, keys_size]; exact hsz, row_of hrow, hb⟩
theorem sorted_nil (w : World) : Calls Tryd.prog 12 #[.func (.func 22) #[] #[.pointer (some ⟨w.heap.size, 0, none⟩)]] (w.alloc (.cells #[.map none] 34)) fun e w' => NamesOut (w.alloc (.cells #[.map none] 34)) w' e (fun _ => none) := by
  refine (callsIn_wide.1 (Tryd.slices_Sorted_keys_nil_12_13 w)).mono ?_
  rintro e w' ⟨v, ss, rfl, rfl, hrow, _, hb⟩
  exact ⟨v, [], rfl, ⟨List.nodup_nil, fun q => ⟨fun h => by simp at h, fun h => absurd rfl h⟩⟩, by simp, row_of hrow, hb⟩
set_option maxHeartbeats 2000000 in
set_option maxRecDepth 100000 in
theorem names_any (h : VW w base g n f st la L mv av) (hn : n ≤ 1000000) :
    Calls Tryd.prog 6 #[.pointer (some ⟨g, 0, none⟩)] w fun e w' => NamesOut w w' e f := by
  have c0 : w.cell? ⟨g, 0, none⟩ = some mv := (blk_cell h.hg 0).trans rfl
  cases h.mf with
  | nil =>
    have HS := Aside0.mk (sorted_nil w)
    clear h
    go_enter Tryd.func6, Tryd.ntmps6
    go_wp2_with (first
      | (go_at_call 13; (with_reducible refine (keys_call none w).mono ?_); rintro e w1 ⟨rfl, rfl⟩)
      | (go_at_call 12; (with_reducible refine HS.out.mono ?_); rintro e w2 ⟨v, S, rfl, h1, h2, h3, h4⟩; have H1 := Aside0.mk h1; have H2 := Aside0.mk h2; have H3 := Aside0.mk h3; have H4 := Aside0.mk h4; clear h1 h2 h3 h4))
    go_ret
    exact ⟨_, _, rfl, H1.out, H2.out, Kd.R_raise (b := (w.alloc (.cells #[.map none] 34)).heap.size) (b' := w.heap.size) (fun _ _ _ _ h => h) H3.out (fun k hk => Nat.le_trans (below_alloc (Below.refl w.heap.size w) _).size (Kd.R_base H3.out k hk)), (below_alloc (Below.refl _ _) _).trans (H4.out.mono (below_alloc (Below.refl w.heap.size w) _).size)⟩
  | map m n D f hM =>
    have HS := Aside0.mk (sorted_map hM hn)
    clear h hM
    go_enter Tryd.func6, Tryd.ntmps6
    go_wp2_with (first
      | (go_at_call 13; (with_reducible refine (keys_call (some m) w).mono ?_); rintro e w1 ⟨rfl, rfl⟩)
      | (go_at_call 12; (with_reducible refine HS.out.mono ?_); rintro e w2 ⟨v, S, rfl, h1, h2, h3, h4⟩; have H1 := Aside0.mk h1; have H2 := Aside0.mk h2; have H3 := Aside0.mk h3; have H4 := Aside0.mk h4; clear h1 h2 h3 h4))
    go_ret
    exact ⟨_, _, rfl, H1.out, H2.out, Kd.R_raise (b := (w.alloc (.cells #[.map (some m)] 34)).heap.size) (b' := w.heap.size) (fun _ _ _ _ h => h) H3.out (fun k hk => Nat.le_trans (below_alloc (Below.refl w.heap.size w) _).size (Kd.R_base H3.out k hk)), (below_alloc (Below.refl _ _) _).trans (H4.out.mono (below_alloc (Below.refl w.heap.size w) _).size)⟩
end
end Go.Proofs.YthplgobjoobmdaaDoor.Vars
namespace Go.Proofs.YthplgobjoobmdaaDoor.Seq
open Go.RowKit Go.Proofs.YthplgobjoobmdaaDoorW.PrintWords Go.Proofs.YthplgobjoobmdaaDoorW.PrintLast Go.Proofs.YthplgobjoobmdaaDoor.Base
set_option linter.unusedVariables false
section
variable {P : Program} {ops : Array Oper} {Q : Exit → Act → World → Prop} {S : World → Prop}
def opsAt (ops : Array Oper) (r : List (Nat × Option Tmp × K)) : List Oper := r.filterMap fun x => ops[x.1]?
def lastsB (ops : Array Oper) : List (Nat × Option Tmp × K) → Bool
  | [] => true
  | (i, _, .last) :: r => decide (i < ops.size) && lastsB ops r
  | _ => false
theorem s_tailL : ∀ (r : List (Nat × Option Tmp × K)) {a : Act} {w : World}, lastsB ops r = true → wpList P ops Q (opsAt ops r) a w → wpSeq P ops Q S r a w
  | [], a, w, ht, h => h
  | (i, N, .last) :: r, a, w, ht, h => by
    simp only [lastsB, Bool.and_eq_true, decide_eq_true_eq] at ht
    obtain ⟨hlt, ht⟩ := ht
    have ho : ops[i]? = some ops[i] := Array.getElem?_eq_getElem hlt
    have hd : opsAt ops ((i, N, K.last) :: r) = ops[i] :: opsAt ops r := by
      unfold opsAt
      rw [List.filterMap_cons]
      simp only [ho]
    rw [hd] at h
    unfold wpSeq wpOp
    simp only [ho]
    unfold wpList at h
    split
    · rename_i hw
      simp only [hw, if_true] at h
      exact h.imp (Oper.wp_mono fun a w hk => s_tailL r ht hk) id
    · rename_i hw
      simp only [hw] at h
      exact s_tailL r ht h
  | (i, _, .pure) :: r, a, w, ht, h => by simp [lastsB] at ht
  | (i, _, .held) :: r, a, w, ht, h => by simp [lastsB] at ht
  | (i, _, .one) :: r, a, w, ht, h => by simp [lastsB] at ht
theorem s_oneL {i : Nat} {N : Option Tmp} {r : List (Nat × Option Tmp × K)} {o : Oper} {a : Act} {w : World} (ho : ops[i]? = some o)
    (h : ∀ K : Act → World → Prop, Shut (∀ a' w', S w' → wpSeq P ops Q S r a' w' → K a' w') → wpList P ops (Exit.then K Q) [o] a w) (hw : Region.wanted o (yielded ops a.tmps) = true) : wpSeq P ops Q S ((i, N, .one) :: r) a w := by
  unfold wpSeq wpOp
  simp only [ho, hw, if_true]
  have hK : Shut (∀ a' w', S w' → wpSeq P ops Q S r a' w' → (fun a' w' => (S w → S w') ∧ wpSeq P ops Q S r a' w') a' w') := fun a' w' hS hk => ⟨fun _ => hS, hk⟩
  have h1 := h _ hK
  unfold wpList at h1
  simp only [hw, if_true] at h1
  exact h1
end
end Go.Proofs.YthplgobjoobmdaaDoor.Seq
namespace Go.Proofs.YthplgobjoobmdaaDoor.Vars
open Go.RowKit Go.Proofs.YthplgobjoobmdaaDoorW.PrintWords Go.Proofs.YthplgobjoobmdaaDoorW.PrintLast Go.Proofs.YthplgobjoobmdaaDoorW.PrintMore Go.Proofs.YthplgobjoobmdaaDoor.Base Go.Proofs.YthplgobjoobmdaaDoor.Seq Go.Maps Go.WideMaps Go.Proofs.YthplgobjoobmdaaDoor.Class
set_option linter.unusedVariables false
set_option linter.unusedSimpArgs false
theorem below_itoa {w w' : World} (h : ∃ k os, w' = Go.Sort.grow (w.drewN k) os) : Below w.heap.size w w' := by
  obtain ⟨k, os, rfl⟩ := h
  exact Lib.below_grow w.heap.size w (Nat.le_refl _) k os
abbrev Tab (w : World) : Prop := Lib.TabIs Tryd.prog w "internal/strconv.uint64pow10" .u64 Lib.pow10Tab
abbrev itoaS (n : Int) : ByteArray := ⟨(Lib.itoa n).toArray⟩
abbrev joinS (L : List ByteArray) : ByteArray := ⟨(Lib.join (L.map (·.data.toList)) [32]).toArray⟩
def getR (f : Tb) (st la : Int) (L : List ByteArray) (s : ByteArray) : ByteArray × Bool :=
  if nameB s = true then ((f s).getD ⟨#[]⟩, (f s).isSome)
  else if paramB s = false then (⟨#[]⟩, false)
  else if s = ⟨#[48]⟩ then (⟨#[115, 104]⟩, true)
  else if s = ⟨#[35]⟩ then (itoaS L.length, true)
  else if s = ⟨#[63]⟩ then (itoaS st, true)
  else if s = ⟨#[36]⟩ then (⟨#[49]⟩, true)
  else if s = ⟨#[33]⟩ then (if la = 0 then (⟨#[]⟩, false) else (itoaS la, true))
  else if s = ⟨#[64]⟩ ∨ s = ⟨#[42]⟩ then (joinS L, decide (0 < L.length))
  else if valD s.data.toList ≤ L.length then (L.getD (valD s.data.toList - 1) ⟨#[]⟩, true) else (⟨#[]⟩, false)
def GetOut (w w' : World) (e : Ending) (r : ByteArray × Bool) : Prop := e = .returned (.tuple #[.string r.1, .bool r.2]) ∧ Below w.heap.size w w'
theorem cmp_no {s t : ByteArray} {l : List UInt8} (h : s ≠ t) (hl : t.data.toList = l) : (s.toList == l) = false := by
  rw [beq_eq_false_iff_ne]
  intro e
  rw [Go.Lib.toList_data, ← hl] at e
  exact h (ba_inj e)
theorem atoi_any (s : ByteArray) (n : Int) (hl : s.size ≤ 18) (h : Lib.atoi s.data.toList = some n) (w : World) : Calls Tryd.prog 18 #[.string s] w fun e w' => e = .returned (.tuple #[.int .i64 n, .nilIface]) ∧ Below w.heap.size w w' := by
  refine (Tryd.strconv_Atoi s n hl h w).mono ?_
  rintro e w' ⟨rfl, t, rfl⟩
  exact ⟨rfl, Lib.bytesWorld_below _ 5 t⟩
theorem join_any {w : World} {base : Nat} {v : Value} {L : List ByteArray} (h : Kd.string.R 9 w base ok0 v L) (hl : (Lib.join (L.map (·.data.toList)) [32]).length ≤ 140737488355328) (hn : L.length ≤ 2000000) :
    Calls Tryd.prog 17 #[v, .string ⟨#[32]⟩] w fun e w' => e = .returned (.string (joinS L)) ∧ Below w.heap.size w w' := by
  have hown := Kd.own_of_R (enc := Value.string) (h1 := fun _ => rfl) h
  rcases hown.2 with ⟨rfl, h0⟩ | ⟨g, cap, cur, rfl, hbg, hg, hnc, hcm, hcs, htake⟩
  · have : L = [] := List.length_eq_zero_iff.1 h0
    subst this
    refine (Tryd.strings_Join_none none 0 ⟨#[32]⟩ w).mono ?_
    rintro e w' ⟨rfl, rfl⟩
    exact ⟨rfl, Below.refl _ _⟩
  · refine (Tryd.strings_Join g 0 cap L ⟨#[32]⟩ w (fun j x hx => ?_) (Array.getElem?_eq_some_iff.1 hg).1 (by omega) (by omega) hl).mono fun e w' h => h
    rw [Nat.zero_add, ← add_plain]
    refine hown.cells (g := g) rfl j (.string x) ?_
    unfold encs
    rw [List.getElem?_map, hx]
    rfl
theorem tabG : Tryd.prog.globalNamed "internal/strconv.uint64pow10" = some 3 := by kernel_rfl
theorem tab_below {w w' : World} (h : Tab w) (hb : Below w.heap.size w w') : Tab w' := by
  have hlt : 3 < w.heap.size := by
    have h := h
    unfold Tab Lib.TabIs at h
    unfold World.var? at h
    rw [tabG] at h
    simp only [Option.bind_some] at h
    by_cases h1 : 3 < w.heap.size
    · exact h1
    · rw [Array.getElem?_eq_none (by omega)] at h
      simp at h
  unfold Tab Lib.TabIs at h ⊢
  unfold World.var? at h ⊢
  rw [tabG] at h ⊢
  simp only [Option.bind_some] at h ⊢
  rw [hb.block _ hlt]
  exact h
section
variable {w : World} {base g n : Nat} {f : Tb} {st la : Int} {L : List ByteArray} {mv av : Value}
set_option maxHeartbeats 8000000 in
set_option maxRecDepth 100000 in
theorem get_any (h : VW w base g n f st la L mv av) (s : ByteArray) (hs : s.size ≤ 2000000) (hj : (Lib.join (L.map (·.data.toList)) [32]).length ≤ 140737488355328) (hL : L.length ≤ 2000000) (ht : Tab w) (hwst : -9223372036854775808 ≤ st ∧ st ≤ 9223372036854775807) (hwla : -9223372036854775808 ≤ la ∧ la ≤ 9223372036854775807) :
    Calls Tryd.prog 7 #[.pointer (some ⟨g, 0, none⟩), .string s] w fun e w' => GetOut w w' e (getR f st la L s) := by
  cases hn : nameB s with
  | true =>
    refine (get_name h s hs hn).mono ?_
    rintro e w' ⟨rfl, rfl⟩
    refine ⟨?_, Below.refl _ _⟩
    unfold getR
    rw [if_pos hn]
  | false =>
    have H := Aside0.mk h
    have HT := Aside0.mk ht
    have HJ := Aside0.mk hj
    have HN := Aside0.mk hn
    have c1 : w.cell? ⟨g, 1, none⟩ = some av := (blk_cell h.hg 1).trans rfl
    have c2 : w.cell? ⟨g, 2, none⟩ = some (.int .i64 st) := (blk_cell h.hg 2).trans rfl
    have c3 : w.cell? ⟨g, 3, none⟩ = some (.int .i64 la) := (blk_cell h.hg 3).trans rfl
    have hrow := h.row
    obtain ⟨A, c, rfl⟩ := Kd.R_slice hrow
    have HROW := Aside0.mk hrow
    clear h hrow ht hj hn
    cases hp : paramB s with
    | false =>
      have HP := Aside0.mk hp
      rw [show getR f st la L s = (⟨#[]⟩, false) from (by unfold getR; rw [if_neg (by rw [HN.out]; decide), if_pos hp])]
      go_enter Tryd.func7, Tryd.ntmps7
      go_wp2_with (first
        | (go_at_call 14; (with_reducible refine (name_any s _ (by omega)).mono ?_); rintro e w1 ⟨rfl, rfl⟩; rw [HN.out])
        | (go_at_call 15; (with_reducible refine (param_any s _ (by omega)).mono ?_); rintro e w2 ⟨rfl, hB⟩; rw [HP.out]; have HB := Aside0.mk hB; replace c1 := pw_cell_below hB c1; replace c2 := pw_cell_below hB c2; replace c3 := pw_cell_below hB c3; clear hB))
      go_ret2
      exact ⟨rfl, HB.out⟩
    | true =>
      have HP := Aside0.mk hp
      have base1 : ¬ nameB s = true := by rw [HN.out]; decide
      have base2 : ¬ paramB s = false := by rw [hp]; decide
      by_cases h0 : s = ⟨#[48]⟩
      · subst h0
        rw [show getR f st la L ⟨#[48]⟩ = (⟨#[115, 104]⟩, true) from (by unfold getR; rw [if_neg base1, if_neg base2, if_pos rfl])]
        go_enter Tryd.func7, Tryd.ntmps7
        go_wp2_with (first
          | (go_at_call 14; (with_reducible refine (name_any ⟨#[48]⟩ _ (by decide)).mono ?_); rintro e w1 ⟨rfl, rfl⟩; rw [HN.out])
          | (go_at_call 15; (with_reducible refine (param_any ⟨#[48]⟩ _ (by decide)).mono ?_); rintro e w2 ⟨rfl, hB⟩; rw [HP.out]; have HB := Aside0.mk hB; replace c1 := pw_cell_below hB c1; replace c2 := pw_cell_below hB c2; replace c3 := pw_cell_below hB c3; clear hB))
        go_ret2
        exact ⟨rfl, HB.out⟩
      by_cases h1 : s = ⟨#[35]⟩
      · subst h1
        rw [show getR f st la L ⟨#[35]⟩ = (itoaS L.length, true) from (by unfold getR; rw [if_neg base1, if_neg base2, if_neg h0, if_pos rfl])]
        go_enter Tryd.func7, Tryd.ntmps7
        go_wp2_with (first
          | (go_at_call 14; (with_reducible refine (name_any ⟨#[35]⟩ _ (by decide)).mono ?_); rintro e w1 ⟨rfl, rfl⟩; rw [HN.out])
          | (go_at_call 15; (with_reducible refine (param_any ⟨#[35]⟩ _ (by decide)).mono ?_); rintro e w2 ⟨rfl, hB⟩; rw [HP.out]; have HB := Aside0.mk hB; replace c1 := pw_cell_below hB c1; replace c2 := pw_cell_below hB c2; replace c3 := pw_cell_below hB c3; clear hB)
          | (go_at_call 16; (with_reducible refine (Tryd.strconv_Itoa (L.length : Int) (by omega) (by omega) _ (tab_below HT.out HB.out)).mono ?_); rintro e w3 ⟨rfl, hG⟩; have HB3 := Aside0.mk (HB.out.trans (below_sub (below_itoa hG) HB.out.size)); clear hG))
        go_ret2
        exact ⟨rfl, HB3.out⟩
      by_cases h2 : s = ⟨#[63]⟩
      · subst h2
        rw [show getR f st la L ⟨#[63]⟩ = (itoaS st, true) from (by unfold getR; rw [if_neg base1, if_neg base2, if_neg h0, if_neg h1, if_pos rfl])]
        go_enter Tryd.func7, Tryd.ntmps7
        go_wp2_with (first
          | (go_at_call 14; (with_reducible refine (name_any ⟨#[63]⟩ _ (by decide)).mono ?_); rintro e w1 ⟨rfl, rfl⟩; rw [HN.out])
          | (go_at_call 15; (with_reducible refine (param_any ⟨#[63]⟩ _ (by decide)).mono ?_); rintro e w2 ⟨rfl, hB⟩; rw [HP.out]; have HB := Aside0.mk hB; replace c1 := pw_cell_below hB c1; replace c2 := pw_cell_below hB c2; replace c3 := pw_cell_below hB c3; clear hB)
          | (go_at_call 16; (with_reducible refine (Tryd.strconv_Itoa st (by omega) (by omega) _ (tab_below HT.out HB.out)).mono ?_); rintro e w3 ⟨rfl, hG⟩; have HB3 := Aside0.mk (HB.out.trans (below_sub (below_itoa hG) HB.out.size)); clear hG))
        go_ret2
        exact ⟨rfl, HB3.out⟩
      by_cases h3 : s = ⟨#[36]⟩
      · subst h3
        rw [show getR f st la L ⟨#[36]⟩ = (⟨#[49]⟩, true) from (by unfold getR; rw [if_neg base1, if_neg base2, if_neg h0, if_neg h1, if_neg h2, if_pos rfl])]
        go_enter Tryd.func7, Tryd.ntmps7
        go_wp2_with (first
          | (go_at_call 14; (with_reducible refine (name_any ⟨#[36]⟩ _ (by decide)).mono ?_); rintro e w1 ⟨rfl, rfl⟩; rw [HN.out])
          | (go_at_call 15; (with_reducible refine (param_any ⟨#[36]⟩ _ (by decide)).mono ?_); rintro e w2 ⟨rfl, hB⟩; rw [HP.out]; have HB := Aside0.mk hB; replace c1 := pw_cell_below hB c1; replace c2 := pw_cell_below hB c2; replace c3 := pw_cell_below hB c3; clear hB))
        go_ret2
        exact ⟨rfl, HB.out⟩
      by_cases h4 : s = ⟨#[33]⟩
      · subst h4
        by_cases hla0 : la = 0
        · subst hla0
          rw [show getR f st 0 L ⟨#[33]⟩ = (⟨#[]⟩, false) from (by unfold getR; rw [if_neg base1, if_neg base2, if_neg h0, if_neg h1, if_neg h2, if_neg h3, if_pos rfl, if_pos rfl])]
          go_enter Tryd.func7, Tryd.ntmps7
          go_wp2_with (first
            | (go_at_call 14; (with_reducible refine (name_any ⟨#[33]⟩ _ (by decide)).mono ?_); rintro e w1 ⟨rfl, rfl⟩; rw [HN.out])
            | (go_at_call 15; (with_reducible refine (param_any ⟨#[33]⟩ _ (by decide)).mono ?_); rintro e w2 ⟨rfl, hB⟩; rw [HP.out]; have HB := Aside0.mk hB; replace c1 := pw_cell_below hB c1; replace c2 := pw_cell_below hB c2; replace c3 := pw_cell_below hB c3; clear hB))
          go_ret2
          exact ⟨rfl, HB.out⟩
        · have b0 : (la == 0) = false := beq_eq_false_iff_ne.mpr hla0
          rw [show getR f st la L ⟨#[33]⟩ = (itoaS la, true) from (by unfold getR; rw [if_neg base1, if_neg base2, if_neg h0, if_neg h1, if_neg h2, if_neg h3, if_pos rfl, if_neg hla0])]
          go_enter Tryd.func7, Tryd.ntmps7
          go_wp2_with (first
            | (go_at_call 14; (with_reducible refine (name_any ⟨#[33]⟩ _ (by decide)).mono ?_); rintro e w1 ⟨rfl, rfl⟩; rw [HN.out])
            | (go_at_call 15; (with_reducible refine (param_any ⟨#[33]⟩ _ (by decide)).mono ?_); rintro e w2 ⟨rfl, hB⟩; rw [HP.out]; have HB := Aside0.mk hB; replace c1 := pw_cell_below hB c1; replace c2 := pw_cell_below hB c2; replace c3 := pw_cell_below hB c3; clear hB)
            | (go_at_call 16; (with_reducible refine (Tryd.strconv_Itoa la (by omega) (by omega) _ (tab_below HT.out HB.out)).mono ?_); rintro e w3 ⟨rfl, hG⟩; have HB3 := Aside0.mk (HB.out.trans (below_sub (below_itoa hG) HB.out.size)); clear hG))
          go_ret2
          exact ⟨rfl, HB3.out⟩
      have q0 := cmp_no (l := [48]) h0 rfl
      have q1 := cmp_no (l := [35]) h1 rfl
      have q2 := cmp_no (l := [63]) h2 rfl
      have q3 := cmp_no (l := [36]) h3 rfl
      have q4 := cmp_no (l := [33]) h4 rfl
      by_cases h5 : s = ⟨#[64]⟩
      · subst h5
        have HR := Aside0.mk (show getR f st la L ⟨#[64]⟩ = (joinS L, decide (0 < L.length)) by unfold getR; rw [if_neg base1, if_neg base2, if_neg h0, if_neg h1, if_neg h2, if_neg h3, if_neg h4, if_pos (.inl rfl)])
        rw [HR.out]
        have HL := Aside0.mk (show decide ((0 : Int) < (L.length : Int)) = decide (0 < L.length) by rw [decide_eq_decide]; omega)
        go_enter Tryd.func7, Tryd.ntmps7
        go_upto_region 21 with (first
          | (go_at_call 14; (with_reducible refine (name_any _ _ (by decide)).mono ?_); rintro e w1 ⟨rfl, rfl⟩; rw [HN.out])
          | (go_at_call 15; (with_reducible refine (param_any _ _ (by decide)).mono ?_); rintro e w2 ⟨rfl, hB⟩; rw [HP.out]; have HB := Aside0.mk hB; replace c1 := pw_cell_below hB c1; replace c2 := pw_cell_below hB c2; replace c3 := pw_cell_below hB c3; clear hB))
        refine region_seq (fun w_ => Below w2.heap.size w2 w_) []
          [(0, some 63, .pure), (1, some 64, .pure), (2, some 65, .pure), (5, some 68, .pure), (6, some 69, .pure), (7, some 70, .pure), (3, some 66, .held), (8, some 71, .held), (9, some 72, .pure), (10, some 73, .pure), (4, some 67, .one), (11, some 4, .pure), (12, some 5, .pure)] (by kernel_rfl) (by kernel_rfl) ?_
        have hS := below_drew (Below.refl w2.heap.size w2)
        repeat (first
          | (refine s_pure (v := ?_) (a' := ?_) rfl (fun _ _ _ h => h) rfl ?hy ?ha ?_; (case hy => (intro w_; go_simp; with_reducible rfl)); (case ha => (simp only [Act.put, List.setIfInBounds_toArray, List.set_cons_zero, List.set_cons_succ, i64_w, i32_w]; rfl)))
          | (refine s_held (v := ?_) (a' := ?_) hS rfl (fun _ _ _ h => h) rfl ?hy ?ha ?_; (case hy => (intro w_ hb_; have s0 := pw_cell_below hb_ c1; go_simp; with_reducible rfl)); (case ha => (simp only [Act.put, List.setIfInBounds_toArray, List.set_cons_zero, List.set_cons_succ, i64_w, i32_w]; rfl))))
        refine s_oneL rfl (fun K hK => ?_) rfl
        go_wp2_with (go_at_call 17; (with_reducible refine (join_any (Kd.R_below (Kd.R_below HROW.out HB.out) hS) HJ.out hL).mono ?_); rintro e w7 ⟨rfl, hB⟩)
        have hS2 : Below w2.heap.size w2 w7 := hS.trans (below_sub hB hS.size)
        clear hB
        replace hS := hS2
        refine hK _ _ hS2 ?_
        clear hK
        repeat (first
          | (refine s_pure (v := ?_) (a' := ?_) rfl (fun _ _ _ h => h) rfl ?hy ?ha ?_; (case hy => (intro w_; go_simp; with_reducible rfl)); (case ha => (simp only [Act.put, List.setIfInBounds_toArray, List.set_cons_zero, List.set_cons_succ, i64_w, i32_w]; rfl)))
          | (refine s_held (v := ?_) (a' := ?_) hS rfl (fun _ _ _ h => h) rfl ?hy ?ha ?_; (case hy => (intro w_ hb_; have s0 := pw_cell_below hb_ c1; go_simp; with_reducible rfl)); (case ha => (simp only [Act.put, List.setIfInBounds_toArray, List.set_cons_zero, List.set_cons_succ, i64_w, i32_w]; rfl))))
        refine s_tailL _ (by kernel_rfl) ?_
        simp only [opsAt, List.filterMap_nil]
        have HS2 := Aside0.mk (HB.out.trans (below_sub hS2 HB.out.size))
        clear hS hS2 c1 c2 c3
        go_wp2
        go_ret2
        exact ⟨rfl, HS2.out⟩
      by_cases h6 : s = ⟨#[42]⟩
      · subst h6
        have HR := Aside0.mk (show getR f st la L ⟨#[42]⟩ = (joinS L, decide (0 < L.length)) by unfold getR; rw [if_neg base1, if_neg base2, if_neg h0, if_neg h1, if_neg h2, if_neg h3, if_neg h4, if_pos (.inr rfl)])
        rw [HR.out]
        have HL := Aside0.mk (show decide ((0 : Int) < (L.length : Int)) = decide (0 < L.length) by rw [decide_eq_decide]; omega)
        go_enter Tryd.func7, Tryd.ntmps7
        go_upto_region 21 with (first
          | (go_at_call 14; (with_reducible refine (name_any _ _ (by decide)).mono ?_); rintro e w1 ⟨rfl, rfl⟩; rw [HN.out])
          | (go_at_call 15; (with_reducible refine (param_any _ _ (by decide)).mono ?_); rintro e w2 ⟨rfl, hB⟩; rw [HP.out]; have HB := Aside0.mk hB; replace c1 := pw_cell_below hB c1; replace c2 := pw_cell_below hB c2; replace c3 := pw_cell_below hB c3; clear hB))
        refine region_seq (fun w_ => Below w2.heap.size w2 w_) []
          [(0, some 63, .pure), (1, some 64, .pure), (2, some 65, .pure), (5, some 68, .pure), (6, some 69, .pure), (7, some 70, .pure), (3, some 66, .held), (8, some 71, .held), (9, some 72, .pure), (10, some 73, .pure), (4, some 67, .one), (11, some 4, .pure), (12, some 5, .pure)] (by kernel_rfl) (by kernel_rfl) ?_
        have hS := below_drew (Below.refl w2.heap.size w2)
        repeat (first
          | (refine s_pure (v := ?_) (a' := ?_) rfl (fun _ _ _ h => h) rfl ?hy ?ha ?_; (case hy => (intro w_; go_simp; with_reducible rfl)); (case ha => (simp only [Act.put, List.setIfInBounds_toArray, List.set_cons_zero, List.set_cons_succ, i64_w, i32_w]; rfl)))
          | (refine s_held (v := ?_) (a' := ?_) hS rfl (fun _ _ _ h => h) rfl ?hy ?ha ?_; (case hy => (intro w_ hb_; have s0 := pw_cell_below hb_ c1; go_simp; with_reducible rfl)); (case ha => (simp only [Act.put, List.setIfInBounds_toArray, List.set_cons_zero, List.set_cons_succ, i64_w, i32_w]; rfl))))
        refine s_oneL rfl (fun K hK => ?_) rfl
        go_wp2_with (go_at_call 17; (with_reducible refine (join_any (Kd.R_below (Kd.R_below HROW.out HB.out) hS) HJ.out hL).mono ?_); rintro e w7 ⟨rfl, hB⟩)
        have hS2 : Below w2.heap.size w2 w7 := hS.trans (below_sub hB hS.size)
        clear hB
        replace hS := hS2
        refine hK _ _ hS2 ?_
        clear hK
        repeat (first
          | (refine s_pure (v := ?_) (a' := ?_) rfl (fun _ _ _ h => h) rfl ?hy ?ha ?_; (case hy => (intro w_; go_simp; with_reducible rfl)); (case ha => (simp only [Act.put, List.setIfInBounds_toArray, List.set_cons_zero, List.set_cons_succ, i64_w, i32_w]; rfl)))
          | (refine s_held (v := ?_) (a' := ?_) hS rfl (fun _ _ _ h => h) rfl ?hy ?ha ?_; (case hy => (intro w_ hb_; have s0 := pw_cell_below hb_ c1; go_simp; with_reducible rfl)); (case ha => (simp only [Act.put, List.setIfInBounds_toArray, List.set_cons_zero, List.set_cons_succ, i64_w, i32_w]; rfl))))
        refine s_tailL _ (by kernel_rfl) ?_
        simp only [opsAt, List.filterMap_nil]
        have HS2 := Aside0.mk (HB.out.trans (below_sub hS2 HB.out.size))
        clear hS hS2 c1 c2 c3
        go_wp2
        go_ret2
        exact ⟨rfl, HS2.out⟩
      have q5 := cmp_no (l := [64]) h5 rfl
      have q6 := cmp_no (l := [42]) h6 rfl
      obtain ⟨hok, hv1⟩ := param_num hp HN.out h0 h1 h2 h3 h4 h5 h6
      have hv9 := val_lt hok
      have HAT := Aside0.mk (atoi_digits hok)
      have hsz : s.size ≤ 18 := by
        unfold okD at hok
        simp only [Bool.and_eq_true, decide_eq_true_eq] at hok
        have := data_length s
        omega
      have h56 : ¬ (s = ⟨#[64]⟩ ∨ s = ⟨#[42]⟩) := fun h => h.elim h5 h6
      have HV := Aside0.mk (show getR f st la L s = if valD s.data.toList ≤ L.length then (L.getD (valD s.data.toList - 1) ⟨#[]⟩, true) else (⟨#[]⟩, false) by unfold getR; rw [if_neg base1, if_neg base2, if_neg h0, if_neg h1, if_neg h2, if_neg h3, if_neg h4, if_neg h56])
      generalize valD s.data.toList = v at *
      have hle : v ≤ L.length ∨ L.length < v := by omega
      rcases hle with hle | hgt
      · have HR := Aside0.mk (HV.out.trans (if_pos hle))
        rw [HR.out]
        obtain ⟨_, _, hC⟩ := Kd.R_reads' HROW.out
        obtain ⟨ad, rfl, d0⟩ := at_str hC (v - 1) (by omega)
        have HD := Aside0.mk d0
        have hget : L.getD (v - 1) ⟨#[]⟩ = L[v - 1]'(by omega) := by simp [List.getD_eq_getElem?_getD, List.getElem?_eq_getElem (show v - 1 < L.length by omega)]
        rw [hget]
        have bv : decide ((L.length : Int) < (v : Int)) = false := decide_eq_false (by omega)
        have hw : wrap64 ((v : Int) - 1) = ((v - 1 : Nat) : Int) := by unfold wrap64; omega
        have hb0 : v - 1 < L.length := by omega
        generalize L[v - 1]'(by omega) = x at *
        clear d0 hC hget
        go_enter Tryd.func7, Tryd.ntmps7
        go_wp2_with (first
          | (go_at_call 14; (with_reducible refine (name_any s _ (by omega)).mono ?_); rintro e w1 ⟨rfl, rfl⟩; rw [HN.out])
          | (go_at_call 15; (with_reducible refine (param_any s _ (by omega)).mono ?_); rintro e w2 ⟨rfl, hB⟩; rw [HP.out]; have HB := Aside0.mk hB; replace c1 := pw_cell_below hB c1; clear hB)
          | (go_at_call 18; (with_reducible refine (atoi_any s (v : Int) hsz HAT.out _).mono ?_); rintro e w3 ⟨rfl, hB⟩; have HB3 := Aside0.mk (HB.out.trans (below_sub hB HB.out.size)); replace c1 := pw_cell_below hB c1; have d0 := pw_cell_below HB3.out HD.out; clear hB))
        go_ret2
        exact ⟨rfl, HB3.out⟩
      · have HR := Aside0.mk (HV.out.trans (if_neg (by omega)))
        rw [HR.out]
        have bv : decide ((L.length : Int) < (v : Int)) = true := decide_eq_true (by omega)
        go_enter Tryd.func7, Tryd.ntmps7
        go_wp2_with (first
          | (go_at_call 14; (with_reducible refine (name_any s _ (by omega)).mono ?_); rintro e w1 ⟨rfl, rfl⟩; rw [HN.out])
          | (go_at_call 15; (with_reducible refine (param_any s _ (by omega)).mono ?_); rintro e w2 ⟨rfl, hB⟩; rw [HP.out]; have HB := Aside0.mk hB; replace c1 := pw_cell_below hB c1; clear hB)
          | (go_at_call 18; (with_reducible refine (atoi_any s (v : Int) hsz HAT.out _).mono ?_); rintro e w3 ⟨rfl, hB⟩; have HB3 := Aside0.mk (HB.out.trans (below_sub hB HB.out.size)); replace c1 := pw_cell_below hB c1; clear hB))
        go_ret2
        exact ⟨rfl, HB3.out⟩
end
end Go.Proofs.YthplgobjoobmdaaDoor.Vars
namespace Go.Proofs.YthplgobjoobmdaaDoor.Vars
open Go.RowKit Go.Proofs.YthplgobjoobmdaaDoorW.PrintWords Go.Proofs.YthplgobjoobmdaaDoorW.PrintLast Go.Proofs.YthplgobjoobmdaaDoorW.PrintMore Go.Proofs.YthplgobjoobmdaaDoor.Base Go.Proofs.YthplgobjoobmdaaDoor.Seq Go.Maps Go.WideMaps Go.Proofs.YthplgobjoobmdaaDoor.Class
set_option linter.unusedVariables false
set_option linter.unusedSimpArgs false
abbrev LAB : List ByteArray := [⟨#[97]⟩, ⟨#[98]⟩]
theorem joinL : (Lib.join (LAB.map (·.data.toList)) [32]).length ≤ 140737488355328 := by decide
theorem lenL : LAB.length ≤ 2000000 := by decide
theorem sz50 : (⟨#[50]⟩ : ByteArray).size ≤ 2000000 := by decide
theorem sz51 : (⟨#[51]⟩ : ByteArray).size ≤ 2000000 := by decide
theorem sz42 : (⟨#[42]⟩ : ByteArray).size ≤ 2000000 := by decide
theorem w0 : (-9223372036854775808 : Int) ≤ 0 ∧ (0 : Int) ≤ 9223372036854775807 := by decide
theorem get2 : getR (fun _ => none) 0 0 LAB ⟨#[50]⟩ = (⟨#[98]⟩, true) := by kernel_rfl
theorem get3 : getR (fun _ => none) 0 0 LAB ⟨#[51]⟩ = (⟨#[]⟩, false) := by kernel_rfl
theorem getA : getR (fun _ => none) 0 0 LAB ⟨#[42]⟩ = (⟨#[97, 32, 98]⟩, true) := by kernel_rfl
theorem C_strs {w : World} {g t : Nat} {cs : Array Value} {L : List ByteArray} (hg : w.heap[g]? = some (.cells cs t (0, 0))) (hc : cs.toList = L.map Value.string) (hl : L.length ≤ 1000000) : Kd.string.C w (some ⟨g, 0, none⟩) L.length L := by
  refine ⟨rfl, by omega, fun _ => ⟨_, rfl, fun j q hj => ⟨[.string q], rfl, rfl, fun i u hu => ?_⟩⟩⟩
  have hi : i = 0 := by
    have := (List.getElem?_eq_some_iff.1 hu).1
    simp at this
    exact this
  subst hi
  have hu : u = .string q := by simpa using hu.symm
  subst hu
  show w.cell? ((⟨g, 0, none⟩ : Addr).add (j * 1 + 0)) = _
  rw [Nat.mul_one, Nat.add_zero, add_plain, blk_cell hg]
  have h1 : cs[j]? = cs.toList[j]? := by simp
  rw [h1, hc, List.getElem?_map, hj]
  rfl
set_option maxHeartbeats 4000000 in
set_option maxRecDepth 100000 in
theorem alive_any (w : World) (ht : Tab w) : Calls Tryd.prog 4 #[] w fun e w' => e = .returned (.bool true) ∧ Below w.heap.size w w' := by
  have HT := Aside0.mk ht
  have hal := below_alloc (Below.refl w.heap.size w) (.cells #[.map none, .slice none 0 0, .int .i64 0, .int .i64 0] 36)
  have HVW := Aside0.mk (VW.new (base := w.heap.size) (blk_new w (.cells #[.map none, .slice none 0 0, .int .i64 0, .int .i64 0] 36)) (Nat.le_refl _))
  have HB0 := Aside0.mk hal
  clear ht hal
  go_enter Tryd.func4, Tryd.ntmps4
  go_upto_region 2 with (fail)
  generalize w.alloc (.cells #[.map none, .slice none 0 0, .int .i64 0, .int .i64 0] 36) = w1 at *
  have hbs : w.heap.size ≤ w1.heap.size := HB0.out.size
  generalize hg : w.heap.size = g at *
  have hal := below_alloc (Below.refl w1.heap.size w1) (.cells #[.string ⟨#[97]⟩, .string ⟨#[98]⟩] 9)
  have HV2 := Aside0.mk (HVW.out.below hal)
  have HC2 := Aside0.mk (C_strs (L := LAB) (blk_new w1 (.cells #[.string ⟨#[97]⟩, .string ⟨#[98]⟩] 9)) rfl (by decide))
  have HB2 := Aside0.mk (HB0.out.trans (hal.mono hbs))
  have HS2 := Aside0.mk (show g ≤ (w1.alloc (.cells #[.string ⟨#[97]⟩, .string ⟨#[98]⟩] 9)).heap.size by rw [← hg]; exact HB2.out.size)
  clear hal
  go_upto_region 3 with (go_at_call 9; (with_reducible refine (args_any HV2.out _ 2 2 LAB HC2.out (by omega) HS2.out).mono ?_); rintro e w3 ⟨rfl, ⟨av3, hv3⟩, hb3, _⟩; have HV3 := Aside0.mk hv3; have HB3 := Aside0.mk (HB2.out.trans hb3); have HT3 := Aside0.mk (tab_below HT.out (by rw [hg]; exact HB2.out.trans hb3)); clear hv3 hb3)
  go_upto_region 4 with (go_at_call 7; (with_reducible refine (get_any HV3.out ⟨#[50]⟩ sz50 joinL lenL HT3.out w0 w0).mono ?_); rintro e w4 ⟨rfl, hB⟩; rw [get2]; have HB4 := Aside0.mk (HB3.out.trans (hB.mono (by rw [← hg]; exact HB3.out.size))); have HV4 := Aside0.mk (HV3.out.below hB); have HT4 := Aside0.mk (tab_below HT3.out hB); clear hB)
  go_upto_region 5 with (go_at_call 7; (with_reducible refine (get_any HV4.out ⟨#[42]⟩ sz42 joinL lenL HT4.out w0 w0).mono ?_); rintro e w5 ⟨rfl, hB⟩; rw [getA]; have HB5 := Aside0.mk (HB4.out.trans (hB.mono (by rw [← hg]; exact HB4.out.size))); have HV5 := Aside0.mk (HV4.out.below hB); have HT5 := Aside0.mk (tab_below HT4.out hB); clear hB)
  go_wp2_with (go_at_call 7; (with_reducible refine (get_any HV5.out ⟨#[51]⟩ sz51 joinL lenL HT5.out w0 w0).mono ?_); rintro e w6 ⟨rfl, hB⟩; rw [get3]; have HB6 := Aside0.mk (HB5.out.trans (hB.mono (by rw [← hg]; exact HB5.out.size))); clear hB)
  go_ret
  exact ⟨rfl, by rw [hg]; exact HB6.out⟩
end Go.Proofs.YthplgobjoobmdaaDoor.Vars
namespace Go.Proofs.YthplgobjoobmdaaDoor.Vars
open Go.RowKit Go.Proofs.YthplgobjoobmdaaDoorW.PrintWords Go.Proofs.YthplgobjoobmdaaDoorW.PrintLast Go.Proofs.YthplgobjoobmdaaDoorW.PrintMore Go.Proofs.YthplgobjoobmdaaDoor.Base Go.Proofs.YthplgobjoobmdaaDoor.Seq Go.Maps Go.WideMaps Go.Proofs.YthplgobjoobmdaaDoor.Class
set_option linter.unusedVariables false
set_option linter.unusedSimpArgs false
abbrev kVar : Kd (ByteArray × ByteArray) := Kd.pair Kd.string Kd.string
theorem at_var {w : World} {A : Option Addr} {n : Nat} {xs : List (ByteArray × ByteArray)} (h : kVar.C w A n xs) (k : Nat) (hk : k < n) : ∃ ad x y, A = some ad ∧ xs[k]? = some (x, y) ∧ w.cell? (ad.add (k * 2)) = some (.string x) ∧ w.cell? ⟨(ad.add (k * 2)).block, (ad.add (k * 2)).off + 1, none⟩ = some (.string y) := by
  obtain ⟨ad, c, e, _, hK, hc0⟩ := Kd.C_get h default (k : Int) (by omega) (by omega)
  have hlen : k < xs.length := by rw [h.1]; exact hk
  rw [Int.toNat_natCast, List.getD_eq_getElem?_getD, List.getElem?_eq_getElem hlen] at hK
  obtain ⟨c1, c2, rfl, h1, h2⟩ := hK
  have h1 : c1 = [.string xs[k].1] := h1
  have h2 : c2 = [.string xs[k].2] := h2
  subst h1
  subst h2
  have hc : ∀ j u, ([Value.string xs[k].1] ++ [Value.string xs[k].2])[j]? = some u → w.cell? (ad.add (k * 2 + j)) = some u := hc0
  exact ⟨ad, xs[k].1, xs[k].2, e, by rw [List.getElem?_eq_getElem hlen], hc 0 _ rfl, by rw [← add_field _ _ 1 (by omega)]; exact hc 1 _ rfl⟩
def Good (f : Tb) : Prop := ∀ q r, f q = some r → nameB q = true ∧ q.size ≤ 2000000 ∧ r.size ≤ maxLen
theorem good_nil : Good (fun _ => none) := fun _ _ h => by cases h
theorem good_upd {f : Tb} (h : Good f) {s v : ByteArray} (hn : nameB s = true) (hs : s.size ≤ 2000000) (hv : v.size ≤ maxLen) : Good (upd f s v) := by
  intro q r hq
  by_cases e : q = s
  · subst e
    rw [upd_same] at hq
    cases hq
    exact ⟨hn, hs, hv⟩
  · rw [upd_other f s v e] at hq
    exact h q r hq
def ScOut (base : Nat) (w : World) (n : Nat) (st la : Int) (L : List ByteArray) (g : Nat) : Prop := ∃ f mv av, VW w base g n f st la L mv av ∧ Good f
def OfOut (w w' : World) (e : Ending) (n : Nat) (st la : Int) (L : List ByteArray) : Prop := ∃ g, e = .returned (.pointer (some ⟨g, 0, none⟩)) ∧ ScOut w.heap.size w' n st la L g ∧ Below w.heap.size w w'
set_option maxHeartbeats 8000000 in
set_option maxRecDepth 100000 in
theorem of_any (V : Option Addr) (n c : Nat) (Lv : List (ByteArray × ByteArray)) (A : Option Addr) (k d : Nat) (La : List ByteArray) (st la : Int) (w : World) (hV : kVar.C w V n Lv) (hA : Kd.string.C w A k La) (hn : n ≤ 30) (hk : k ≤ 30) (hz : ∀ p ∈ Lv, p.1.size ≤ 2000000 ∧ p.2.size ≤ maxLen) :
    Calls Tryd.prog 5 #[.agg #[.slice V n c, .slice A k d, .int .i64 st, .int .i64 la]] w fun e w' => OfOut w w' e n st la La := by
  have HV := Aside0.mk hV
  have HA := Aside0.mk hA
  have HZ := Aside0.mk hz
  clear hV hA hz
  go_enter Tryd.func5, Tryd.ntmps5
  go_upto_region 3 with (fail)
  have hb1 := below_alloc (Below.refl w.heap.size w) (.cells #[.slice V n c, .slice A k d, .int .i64 st, .int .i64 la] 25)
  have hb2 := below_alloc (Below.refl (w.alloc (.cells #[.slice V n c, .slice A k d, .int .i64 st, .int .i64 la] 25)).heap.size (w.alloc (.cells #[.slice V n c, .slice A k d, .int .i64 st, .int .i64 la] 25))) (.cells #[.map none, .slice none 0 0, .int .i64 0, .int .i64 0] 36)
  have HBX := Aside0.mk (blk_below (blk_new w (.cells #[.slice V n c, .slice A k d, .int .i64 st, .int .i64 la] 25)) hb2)
  have hsz : (w.alloc (.cells #[.slice V n c, .slice A k d, .int .i64 st, .int .i64 la] 25)).heap.size = w.heap.size + 1 := by show (Array.push _ _).size = _; rw [Array.size_push]
  have hnew := blk_new (w.alloc (.cells #[.slice V n c, .slice A k d, .int .i64 st, .int .i64 la] 25)) (.cells #[.map none, .slice none 0 0, .int .i64 0, .int .i64 0] 36)
  rw [hsz] at hnew
  have HVW := Aside0.mk (VW.new (base := w.heap.size) hnew (Nat.le_succ _))
  have HB0 := Aside0.mk (hb1.trans (hb2.mono hb1.size))
  have hgb : w.heap.size ≠ w.heap.size + 1 := by omega
  clear hb1 hb2 hsz hnew
  generalize (w.alloc (.cells #[.slice V n c, .slice A k d, .int .i64 st, .int .i64 la] 25)).alloc (.cells #[.map none, .slice none 0 0, .int .i64 0, .int .i64 0] 36) = w1 at *
  generalize hg : w.heap.size + 1 = g at *
  go_loopw [11] (fun v11 w' => ∃ i : Nat, i ≤ n ∧ v11 = .int .i64 (i : Int) ∧ Aside0 (∃ f mv, VW w' w.heap.size g i f 0 0 [] mv (.slice none 0 0) ∧ Good f ∧ VX w1 g (.map none) w' mv) ∧ Aside0 (Below w.heap.size w w' ∧ w1.heap.size ≤ w'.heap.size)) (fun v11 _ => n - (intOf v11).toNat)
  case atStart => exact ⟨0, Nat.zero_le _, rfl, ⟨_, _, HVW.out, good_nil, VX.refl _ _ _⟩, ⟨HB0.out, Nat.le_refl _⟩⟩
  case round =>
    obtain ⟨i, hi, rfl, HS, HBi⟩ := hrel
    obtain ⟨f, mv, hvw, hgood, hvx⟩ := HS.out
    have hbx : wr.heap[w.heap.size]? = some (.cells #[.slice V n c, .slice A k d, .int .i64 st, .int .i64 la] 25 (0, 0)) := hvx.keep _ _ HBX.out hgb (fun e => by cases e)
    have HVi := Aside0.mk hvw
    have HGi := Aside0.mk hgood
    have HXi := Aside0.mk hvx
    have HBXi := Aside0.mk hbx
    clear HS
    by_cases hin : i < n
    · obtain ⟨ad, x, y, e, hxy, d0, d1⟩ := at_var (Kd.C_below HV.out HBi.out.1) i hin
      subst e
      have hsz := HZ.out (x, y) (List.mem_of_getElem? hxy)
      have hx := hsz.1
      have HY := Aside0.mk hsz.2
      have HB2 := Aside0.mk (below_alloc (Below.refl wr.heap.size wr) (.cells #[.string x, .string y] 39))
      have HG2 := Aside0.mk (blk_new wr (.cells #[.string x, .string y] 39))
      have HV2 := Aside0.mk (hvw.below HB2.out)
      have HX2 := Aside0.mk (hvx.trans (VX.below g mv HB2.out) HBi.out.2)
      have HBi2 := Aside0.mk (And.intro (HBi.out.1.trans (HB2.out.mono HBi.out.1.size)) (Nat.le_trans HBi.out.2 HB2.out.size))
      clear hvw hvx hgood hbx hsz hxy
      go_upto_region 5 with (fail)
      clear d0 d1
      generalize wr.alloc (.cells #[.string x, .string y] 39) = w2 at *
      generalize wr.heap.size = b2 at *
      have e0 : w2.cell? ⟨b2, 0, none⟩ = some (.string x) := (blk_cell HG2.out 0).trans rfl
      have e1 : w2.cell? ⟨b2, 1, none⟩ = some (.string y) := (blk_cell HG2.out 1).trans rfl
      cases hnm : nameB x
      · have HNM := Aside0.mk hnm
        clear hnm
        go_wp2_with (go_at_call 8; (with_reducible refine (set_no (some ⟨g, 0, none⟩) x y _ hx HNM.out).mono ?_); rintro e w3 ⟨rfl, rfl⟩)
        go_roundw
        case measure => simp [intOf]; omega
        case rel => exact ⟨i + 1, by omega, by go_num, ⟨_, _, HV2.out.more (Nat.le_succ i), HGi.out, HX2.out⟩, HBi2⟩
      · have HNM := Aside0.mk hnm
        clear hnm
        go_wp2_with (go_at_call 8; (with_reducible refine (set_any HV2.out x y hx HY.out HNM.out (by omega) HBi2.out.1.size).mono ?_); rintro e w3 ⟨rfl, ⟨mv3, hv3, hx3⟩, hb3⟩; have HV3 := Aside0.mk hv3; have HX3 := Aside0.mk (HX2.out.trans hx3 HBi2.out.2); have HB3 := Aside0.mk (And.intro (HBi2.out.1.trans hb3) (Nat.le_trans HBi2.out.2 hb3.size)); clear hv3 hx3 hb3)
        go_roundw
        case measure => simp [intOf]; omega
        case rel => exact ⟨i + 1, by omega, by go_num, ⟨_, _, HV3.out, good_upd HGi.out HNM.out hx HY.out, HX3.out⟩, HB3⟩
    · obtain rfl : i = n := by omega
      clear hvw hvx hgood hbx
      have c1 : wr.cell? ⟨w.heap.size, 1, none⟩ = some (.slice A k d) := (blk_cell HBXi.out 1).trans rfl
      have HNM3 := Aside0.mk (show mv ≠ .map (some w.heap.size) from by
        rcases HXi.out.mapv with e | ⟨m, e, hle⟩
        · rw [e]; exact fun e => by cases e
        · rw [e]
          intro e2
          have e3 : m = w.heap.size := by injection e2 with e2; exact Option.some.inj e2
          have := (Array.getElem?_eq_some_iff.1 HBX.out).1
          omega)
      go_upto_region 8 with (go_at_call 9; (with_reducible refine (args_any HVi.out A k d La (Kd.C_below HA.out HBi.out.1) (by omega) HBi.out.1.size).mono ?_); rintro e w3 ⟨rfl, ⟨av3, hv3⟩, hb3, hx3⟩; have HV3 := Aside0.mk hv3; have HB3 := Aside0.mk (HBi.out.1.trans hb3); have HBX3 := Aside0.mk (hx3.keep _ _ HBXi.out hgb HNM3.out); have HX3 := Aside0.mk hx3; clear hv3 hb3 hx3)
      have c2 : w3.cell? ⟨w.heap.size, 2, none⟩ = some (.int .i64 st) := (blk_cell HBX3.out 2).trans rfl
      go_upto_region 9 with (go_at_call 10; (with_reducible refine (status_any HV3.out st).mono ?_); rintro e w4 ⟨rfl, hv4, hb4, hx4⟩; have HV4 := Aside0.mk hv4; have HB4 := Aside0.mk (HB3.out.trans hb4); have HBX4 := Aside0.mk (hx4.keep _ _ HBX3.out hgb HNM3.out); clear hv4 hb4 hx4)
      have c3 : w4.cell? ⟨w.heap.size, 3, none⟩ = some (.int .i64 la) := (blk_cell HBX4.out 3).trans rfl
      go_wp2_with (go_at_call 11; (with_reducible refine (last_any HV4.out la).mono ?_); rintro e w5 ⟨rfl, hv5, hb5, hx5⟩; have HV5 := Aside0.mk hv5; have HB5 := Aside0.mk (HB4.out.trans hb5); clear hv5 hb5 hx5)
      go_ret
      exact ⟨g, rfl, ⟨_, _, _, HV5.out, HGi.out⟩, HB5.out⟩
end Go.Proofs.YthplgobjoobmdaaDoor.Vars
namespace Go.Proofs.YthplgobjoobmdaaDoor.Vars
open Go.RowKit Go.Proofs.YthplgobjoobmdaaDoorW.PrintWords Go.Proofs.YthplgobjoobmdaaDoorW.PrintLast Go.Proofs.YthplgobjoobmdaaDoorW.PrintMore Go.Proofs.YthplgobjoobmdaaDoor.Base Go.Proofs.YthplgobjoobmdaaDoor.Seq Go.Maps Go.WideMaps Go.Proofs.YthplgobjoobmdaaDoor.Class
set_option linter.unusedVariables false
set_option linter.unusedSimpArgs false
section
variable {P : Program} {ops : Array Oper} {rest : List Oper} {o : Oper} {a : Act} {Q : Exit → Act → World → Prop}
theorem app_str {w0 W : World} (base : Nat) (hgd : o.guard = none) (s x : Operand) (ho : o.op = .call { callee := .builtin .append, args := #[s, x], argTypes := #[23, 23] })
    (v : Value) (xs : List ByteArray) (p : ByteArray) (hs : a.eval s = v) (hx : a.eval x = .slice (some ⟨W.heap.size, 0, none⟩) 1 1)
    (HO : Kd.string.R 9 W base ok0 v xs) (HB : Below base w0 W) (hbase : base ≤ W.heap.size) (hl : xs.length + 1 ≤ 1000000000000)
    (h : ∀ A n c w1, Kd.string.R 9 w1 base ok0 (.slice A n c) (xs ++ [p]) → Below base w0 w1 → W.grownBy w1 v.ownBlock → wpList Tryd.prog ops Q rest (a.put o.dst (.slice A n c)) w1) :
    wpList Tryd.prog ops Q (o :: rest) a (W.alloc (.cells #[.string p] 9)) := by
  refine Kd.R_append Kd.string (w0 := w0) base hgd s x 23 9 (.string ⟨#[]⟩) 16 ho Tryd.underlying23 (by kernel_rfl) rfl (by decide) (by decide) v xs p [.string p] ok0 (fun _ => False) hs hx rfl (fun _ h => h.elim) (fun _ _ => trivial) HO HB hbase (by omega) ?_
  intro v1 w1 hR hB hG hat
  obtain ⟨A, n, c, rfl⟩ := R_slice3 hR
  exact h A n c w1 hR hB hG
end
abbrev SCells (V : Option Addr) (nv cv : Nat) (A : Option Addr) (na ca : Nat) (st la : Int) : Obj := .cells #[.slice V nv cv, .slice A na ca, .int .i64 st, .int .i64 la] 25
theorem join_len : ∀ (L : List ByteArray), (∀ x ∈ L, x.size ≤ 2000000) → (Lib.join (L.map (·.data.toList)) [32]).length ≤ L.length * 2000001 := by
  have tail : ∀ (L : List ByteArray), (∀ x ∈ L, x.size ≤ 2000000) → (Lib.joinTail [32] (L.map (·.data.toList))).length ≤ L.length * 2000001 := by
    intro L
    induction L with
    | nil => intro _; simp [Lib.joinTail]
    | cons x L ih =>
      intro h
      have h1 := ih fun y hy => h y (List.mem_cons_of_mem _ hy)
      have h2 := h x (List.mem_cons_self ..)
      have e : Lib.joinTail [32] ((x :: L).map (·.data.toList)) = 32 :: x.data.toList ++ Lib.joinTail [32] (L.map (·.data.toList)) := by simp [Lib.joinTail]
      rw [e, List.length_append, List.length_cons, data_length, List.length_cons]
      omega
  intro L h
  cases L with
  | nil => simp [Lib.join_nil]
  | cons x L =>
    have h1 := tail L fun y hy => h y (List.mem_cons_of_mem _ hy)
    have h2 := h x (List.mem_cons_self ..)
    rw [List.map_cons, Lib.join_cons, List.length_append, data_length, List.length_cons]
    omega
theorem nodup_len {α : Type} [DecidableEq α] : ∀ (l m : List α), l.Nodup → (∀ x ∈ l, x ∈ m) → l.length ≤ m.length
  | [], m, _, _ => Nat.zero_le _
  | x :: l, m, hn, hs => by
    rw [List.nodup_cons] at hn
    have hx := hs x (List.mem_cons_self ..)
    have h1 := nodup_len l (m.erase x) hn.2 (fun y hy => (List.mem_erase_of_ne (fun e => hn.1 (by rw [← e]; exact hy))).2 (hs y (List.mem_cons_of_mem _ hy)))
    rw [List.length_erase_of_mem hx] at h1
    have : 0 < m.length := List.length_pos_of_mem hx
    rw [List.length_cons]
    omega
theorem keys_more {f : Tb} {s v : ByteArray} {S S' : List (List UInt8)} (h : KeysIs f S) (h' : KeysIs (upd f s v) S') : S'.length ≤ S.length + 1 := by
  have := nodup_len S' (s.data.toList :: S) h'.1 (fun x hx => by
    have h1 := (h'.2 (mkS x)).1 (by simpa using hx)
    by_cases e : mkS x = s
    · rw [← e]
      simp
    · rw [upd_other f s v e] at h1
      have := (h.2 (mkS x)).2 h1
      exact List.mem_cons_of_mem _ (by simpa using this))
  simpa using this
theorem names_len (S : List (List UInt8)) : (namesOf S).length = S.length := by unfold namesOf; rw [List.length_map, List.length_mergeSort]
theorem names_mem {f : Tb} {S : List (List UInt8)} (h : KeysIs f S) {q : ByteArray} (hq : q ∈ namesOf S) : f q ≠ none := by
  unfold namesOf at hq
  obtain ⟨x, hx, rfl⟩ := List.mem_map.1 hq
  exact (h.2 (mkS x)).1 (by simpa using (List.mergeSort_perm S _).mem_iff.1 hx)
theorem row_keep {w w' : World} {B : Nat} {v : Value} {L : List ByteArray} (h : Kd.string.R 9 w B ok0 v L) (hk : ∀ (k : Nat) (cs : Array Value), w.heap[k]? = some (Obj.cells cs 9 (0, 0)) → w'.heap[k]? = some (Obj.cells cs 9 (0, 0))) : Kd.string.R 9 w' B ok0 v L := by
  have hown := Kd.own_of_R (enc := Value.string) (h1 := fun _ => rfl) h
  refine Kd.R_of_own (enc := Value.string) (h1 := fun _ => rfl) ?_ (fun _ _ => trivial)
  rcases hown with ⟨hl, h0 | ⟨g, cap, cur, hv, hbg, hg, r⟩⟩
  · exact ⟨hl, .inl h0⟩
  · exact ⟨hl, .inr ⟨g, cap, cur, hv, hbg, hk g cur hg, r⟩⟩
theorem vx_strs {w w' : World} {base g n : Nat} {f : Tb} {st la : Int} {L : List ByteArray} {mv mv' av : Value} (h : VW w base g n f st la L mv av) (hx : VX w g mv w' mv') : ∀ (k : Nat) (cs : Array Value), w.heap[k]? = some (Obj.cells cs 9 (0, 0)) → w'.heap[k]? = some (Obj.cells cs 9 (0, 0)) := fun k cs hk =>
  hx.keep k _ hk (blk_ne hk h.hg (by decide)) (fun e => by
    cases h.mf with
    | nil => cases e
    | map m n D f hM =>
      have hm : m = k := by injection e with e; exact Option.some.inj e
      subst hm
      obtain ⟨es, clock, hb, _⟩ := hM.own
      rw [hk] at hb
      cases hb)
def setF (f : Tb) (s v : ByteArray) : Tb := if nameB s = true then upd f s v else f
def SetBoth (w w' : World) (e : Ending) (base g n : Nat) (f : Tb) (st la : Int) (L : List ByteArray) (mv av : Value) (s v : ByteArray) : Prop := e = .returned (.bool (nameB s)) ∧ ∃ mv' n', VW w' base g n' (setF f s v) st la L mv' av ∧ VX w g mv w' mv' ∧ Below base w w' ∧ n' ≤ n + 1
theorem set_both {w : World} {base g n : Nat} {f : Tb} {st la : Int} {L : List ByteArray} {mv av : Value} (h : VW w base g n f st la L mv av) (s v : ByteArray) (hs : s.size ≤ 2000000) (hv : v.size ≤ maxLen) (hnn : n < 2000000) (hbw : base ≤ w.heap.size) :
    Calls Tryd.prog 8 #[.pointer (some ⟨g, 0, none⟩), .string s, .string v] w fun e w' => SetBoth w w' e base g n f st la L mv av s v := by
  unfold SetBoth setF
  cases hn : nameB s with
  | false =>
    refine (set_no (some ⟨g, 0, none⟩) s v w hs hn).mono ?_
    rintro e w' ⟨rfl, rfl⟩
    exact ⟨rfl, mv, n, by rw [if_neg (by decide)]; exact h, VX.refl _ _ _, Below.refl _ _, Nat.le_succ _⟩
  | true =>
    refine (set_any h s v hs hv hn hnn hbw).mono ?_
    rintro e w' ⟨rfl, ⟨mv', h1, h2⟩, h3⟩
    exact ⟨rfl, mv', n + 1, by rw [if_pos rfl]; exact h1, h2, h3, Nat.le_refl _⟩
theorem setF_has {f : Tb} {s v q : ByteArray} (h : f q ≠ none) : setF f s v q ≠ none := by
  unfold setF
  split
  · by_cases e : q = s
    · subst e; rw [upd_same]; simp
    · rw [upd_other f s v e]; exact h
  · exact h
theorem setF_other {f : Tb} {s v q : ByteArray} (h : q ≠ s) : setF f s v q = f q := by
  unfold setF
  split
  · exact upd_other f s v h
  · rfl
section
variable (V : Option Addr) (nv cv : Nat) (Lv : List (ByteArray × ByteArray)) (A : Option Addr) (na ca : Nat) (La : List ByteArray) (st la : Int) (s v : ByteArray) (w : World)
set_option maxHeartbeats 16000000 in
set_option maxRecDepth 100000 in
theorem sets_law (hV : kVar.C w V nv Lv) (hA : Kd.string.C w A na La) (hZ : ∀ p ∈ Lv, p.1.size ≤ 2000000 ∧ p.2.size ≤ 2000000) (hZA : ∀ x ∈ La, x.size ≤ 2000000) (hst : -9223372036854775808 ≤ st ∧ st ≤ 9223372036854775807) (hla : -9223372036854775808 ≤ la ∧ la ≤ 9223372036854775807) (ht : Tab w) :
    Calls Tryd.prog 3 #[.agg #[.slice V nv cv, .slice A na ca, .int .i64 st, .int .i64 la], .string s, .string v] w fun e w' => e = .returned (.bool true) ∧ Below w.heap.size w w' := by
  have HV := Aside0.mk hV
  have HA := Aside0.mk hA
  have HZ := Aside0.mk hZ
  have HZA := Aside0.mk hZA
  have HT := Aside0.mk ht
  have HLA := Aside0.mk (show La.length = na from hA.1)
  have HB0 := Aside0.mk (below_alloc (Below.refl w.heap.size w) (SCells V nv cv A na ca st la))
  have HG0 := Aside0.mk (blk_new w (SCells V nv cv A na ca st la))
  clear hV hA hZ hZA ht
  go_enter Tryd.func3, Tryd.ntmps3
  go_upto_region 1 with (fail)
  generalize w.alloc (SCells V nv cv A na ca st la) = w1 at *
  have HT1 := Aside0.mk (tab_below HT.out HB0.out)
  generalize hb : w.heap.size = b at *
  go_upto_region 3 with (go_at_call 4; (with_reducible refine (alive_any _ HT1.out).mono ?_); rintro e w2 ⟨rfl, hB⟩; have HB2 := Aside0.mk (HB0.out.trans (hB.mono (by rw [← hb]; exact HB0.out.size))); have HG2 := Aside0.mk (blk_below HG0.out hB); have HT2 := Aside0.mk (tab_below HT1.out hB); clear hB)
  have c0 : w2.cell? ⟨b, 0, none⟩ = some (.slice V nv cv) := (blk_cell HG2.out 0).trans rfl
  have c1 : w2.cell? ⟨b, 1, none⟩ = some (.slice A na ca) := (blk_cell HG2.out 1).trans rfl
  have c2 : w2.cell? ⟨b, 2, none⟩ = some (.int .i64 st) := (blk_cell HG2.out 2).trans rfl
  have c3 : w2.cell? ⟨b, 3, none⟩ = some (.int .i64 la) := (blk_cell HG2.out 3).trans rfl
  by_cases h1 : 30 < nv
  · have b1 : decide ((30 : Int) < (nv : Int)) = true := decide_eq_true (by omega)
    go_wp2
    go_ret
    exact ⟨rfl, by rw [hb]; exact HB2.out⟩
  have b1 : decide ((30 : Int) < (nv : Int)) = false := decide_eq_false (by omega)
  by_cases h2 : 30 < na
  · have b2 : decide ((30 : Int) < (na : Int)) = true := decide_eq_true (by omega)
    go_wp2
    go_ret
    exact ⟨rfl, by rw [hb]; exact HB2.out⟩
  have b2 : decide ((30 : Int) < (na : Int)) = false := decide_eq_false (by omega)
  by_cases h3 : 500 < s.size
  · have b3 : decide ((500 : Int) < (s.size : Int)) = true := decide_eq_true (by omega)
    go_wp2
    go_ret
    exact ⟨rfl, by rw [hb]; exact HB2.out⟩
  have b3 : decide ((500 : Int) < (s.size : Int)) = false := decide_eq_false (by omega)
  by_cases h4 : 1000 < v.size
  · have b4 : decide ((1000 : Int) < (v.size : Int)) = true := decide_eq_true (by omega)
    go_wp2
    go_ret
    exact ⟨rfl, by rw [hb]; exact HB2.out⟩
  have b4 : decide ((1000 : Int) < (v.size : Int)) = false := decide_eq_false (by omega)
  have hVB := HV.out.1
  have HVB := Aside0.mk (Kd.C_below HV.out (show Below w.heap.size w w2 by rw [hb]; exact HB2.out))
  have HAB := Aside0.mk (Kd.C_below HA.out (show Below w.heap.size w w2 by rw [hb]; exact HB2.out))
  have HJ := Aside0.mk (show (Lib.join (La.map (·.data.toList)) [32]).length ≤ 140737488355328 by have := join_len La HZA.out; rw [HLA.out] at this; omega)
  have HBS := Aside0.mk (show b ≤ w2.heap.size by rw [← hb]; exact HB2.out.size)
  clear c0 c1 c2 c3 HG0 HB0 HT1
  have c0 : w2.cell? ⟨b, 0, none⟩ = some (.slice V nv cv) := (blk_cell HG2.out 0).trans rfl
  have c1 : w2.cell? ⟨b, 1, none⟩ = some (.slice A na ca) := (blk_cell HG2.out 1).trans rfl
  have c2 : w2.cell? ⟨b, 2, none⟩ = some (.int .i64 st) := (blk_cell HG2.out 2).trans rfl
  have c3 : w2.cell? ⟨b, 3, none⟩ = some (.int .i64 la) := (blk_cell HG2.out 3).trans rfl
  go_upto_region 6 with (go_at_call 5; (with_reducible refine (of_any V nv cv Lv A na ca La st la _ HVB.out HAB.out (by omega) (by omega) (fun p hp => ⟨(HZ.out p hp).1, Nat.le_trans (HZ.out p hp).2 (by unfold maxLen; omega)⟩)).mono ?_); rintro e w3 ⟨g, rfl, ⟨f, mv, av, hvw, hgood⟩, hB⟩; have HVW := Aside0.mk hvw; have HGD := Aside0.mk hgood; have HB3 := Aside0.mk (HB2.out.trans (hB.mono HBS.out)); have HT3 := Aside0.mk (tab_below HT2.out hB); have HBB := Aside0.mk hB.size; clear hvw hgood hB)
  clear c0 c1 c2 c3
  generalize hbw2 : w2.heap.size = b2 at *
  go_upto_region 7 with (go_at_call 6; (with_reducible refine (names_any HVW.out (by omega)).mono ?_); rintro e w4 ⟨vn, S, rfl, hk, hsl, hrow, hB⟩; obtain ⟨An, nn, cn, rfl⟩ := R_slice3 hrow; have HK := Aside0.mk hk; have HSL := Aside0.mk hsl; have HROW := Aside0.mk hrow; have HB4 := Aside0.mk (HB3.out.trans (hB.mono (Nat.le_trans HBS.out HBB.out))); have HT4 := Aside0.mk (tab_below HT3.out hB); have HV4 := Aside0.mk (HVW.out.below hB); have HBB4 := Aside0.mk (Nat.le_trans HBB.out hB.size); clear hk hsl hrow hB)
  obtain ⟨e1, e2, hCn⟩ := Kd.R_reads' HROW.out
  have HNL := Aside0.mk e1
  have HCN := Aside0.mk hCn
  clear hCn e1 e2
  have hal := below_alloc (Below.refl w4.heap.size w4) (.cells #[] 9)
  have HR9 := Aside0.mk (R_empty (d := Kd.string) (blk_new w4 (.cells #[] 9)) (Nat.le_refl _))
  have HB5 := Aside0.mk hal
  clear hal
  go_upto_region 9 with (fail)
  have HK0 := Aside0.mk (show w4.heap.size ≤ (w4.alloc (.cells #[] 9)).heap.size from HB5.out.size)
  generalize w4.alloc (.cells #[] 9) = w5 at *
  obtain ⟨K, hKdef⟩ : ∃ K, namesOf S = K := ⟨_, rfl⟩
  have HMEM := Aside0.mk (show ∀ q ∈ K, f q ≠ none from fun q hq => names_mem HK.out (by rw [hKdef]; exact hq))
  have HKL := Aside0.mk (show K.length ≤ 1000000 by rw [← hKdef, names_len]; exact HSL.out)
  have HKN := Aside0.mk (show nn = K.length by rw [← hKdef]; exact HNL.out)
  have HKS := Aside0.mk (show K.length = S.length by rw [← hKdef, names_len])
  rw [hKdef] at HROW HCN
  clear HNL hKdef
  obtain ⟨N, hNdef⟩ : ∃ N, K.length = N := ⟨_, rfl⟩
  have hnN : nn = N := HKN.out.trans hNdef
  subst hnN
  rw [hNdef] at HCN
  have hN6 : nn ≤ 1000000 := by rw [← hNdef]; exact HKL.out
  have HND := Aside0.mk hNdef
  clear hNdef
  go_loopw [9, 50] (fun v9 v50 w' => ∃ i : Nat, i ≤ nn ∧ v50 = .int .i64 (i : Int) ∧ (∃ A9 n9 c9, v9 = .slice A9 n9 c9) ∧ Aside0 (Kd.string.R 9 w' w4.heap.size ok0 v9 ((K.take i).map fun q => (f q).getD ⟨#[]⟩)) ∧ Aside0 (Below w4.heap.size w4 w')) (fun v9 v50 _ => nn - (intOf v50).toNat)
  case atStart => exact ⟨0, Nat.zero_le _, rfl, ⟨_, _, _, rfl⟩, ⟨HR9.out⟩, ⟨HB5.out⟩⟩
  case round =>
    obtain ⟨i, hi, rfl, ⟨A9, n9, c9, rfl⟩, HR, HBr⟩ := hrel
    have HVR := Aside0.mk (HV4.out.below HBr.out)
    by_cases hin : i < nn
    · have hiK : i < K.length := by rw [HND.out]; exact hin
      obtain ⟨ad, rfl, d0⟩ := at_str (Kd.C_below HCN.out HBr.out) i hiK
      have hne := HMEM.out K[i] (List.getElem_mem hiK)
      have HTK := Aside0.mk (show ((K.take (i + 1)).map fun q => (f q).getD ⟨#[]⟩) = ((K.take i).map fun q => (f q).getD ⟨#[]⟩) ++ [(f K[i]).getD ⟨#[]⟩] by rw [List.take_succ_eq_append_getElem hiK, List.map_append]; rfl)
      obtain ⟨r, hr⟩ := Option.ne_none_iff_exists'.1 hne
      have hgq := HGD.out _ _ hr
      have HQ := Aside0.mk hgq
      have HLT := Aside0.mk (show ((K.take i).map fun q => (f q).getD ⟨#[]⟩).length + 1 ≤ 1000000000000 by rw [List.length_map, List.length_take]; omega)
      generalize K[i] = q at *
      clear hne hr hgq
      go_upto_region 12 with (go_at_call 7; (with_reducible refine (get_name HVR.out q HQ.out.2.1 HQ.out.1).mono ?_); rintro e w6 ⟨rfl, rfl⟩)
      go_wp2_with (
        (with_reducible refine gate_dst (N := 63) rfl ?_)
        go_loud (refine app_str w4.heap.size (w0 := w4) (W := wr) rfl (.tmp 60) (.tmp 62) rfl (.slice A9 n9 c9) _ ((f q).getD ⟨#[]⟩) rfl rfl HR.out HBr.out HBr.out.size HLT.out ?_)
        intro A1 n1 c1 w7 hR7 hB7 hG7
        have HR7 := Aside0.mk hR7
        have HB7 := Aside0.mk hB7
        clear hR7 hB7 hG7)
      go_roundw
      case measure => simp [intOf]; omega
      case rel => exact ⟨i + 1, by omega, by go_num, ⟨_, _, _, rfl⟩, ⟨by rw [HTK.out]; exact HR7.out⟩, HB7⟩
    · obtain rfl : nn = i := by omega
      rw [List.take_of_length_le (by rw [HND.out]; exact Nat.le_refl _)] at HR
      go_upto_region 14 with (fail)
      have HROWr := Aside0.mk (Kd.R_below HROW.out HBr.out)
      have HTr := Aside0.mk (tab_below HT4.out HBr.out)
      have HBBr := Aside0.mk (Nat.le_trans HBB4.out HBr.out.size)
      have HBr2 := Aside0.mk (HB4.out.trans (HBr.out.mono (Nat.le_trans HBS.out HBB4.out)))
      go_upto_region 15 with (go_at_call 8; (with_reducible refine (set_both HVR.out s v (by omega) (by unfold maxLen; omega) (by omega) HBBr.out).mono ?_); rintro e w7 ⟨rfl, mv7, n7, hv7, hx7, hb7, hn7⟩; have HV7 := Aside0.mk hv7; have HX7 := Aside0.mk hx7; have HB7 := Aside0.mk (HBr2.out.trans (hb7.mono HBS.out)); have HN7 := Aside0.mk hn7; have HBB7 := Aside0.mk (Nat.le_trans HBBr.out hb7.size); clear hv7 hx7 hb7 hn7)
      have HRK := Aside0.mk (row_keep HROWr.out (vx_strs HVR.out HX7.out))
      have HR9b := Aside0.mk (row_keep HR.out (vx_strs HVR.out HX7.out))
      have HT7 := Aside0.mk (show Tab w7 from tab_below HT.out (by rw [hb]; exact HB7.out))
      obtain ⟨_, _, hCK⟩ := Kd.R_reads' HRK.out
      obtain ⟨_, _, hC9⟩ := Kd.R_reads' HR9b.out
      have HCK := Aside0.mk hCK
      have HC9 := Aside0.mk hC9
      have hn9 : n9 = nn := by
        obtain ⟨e, _, _⟩ := Kd.R_reads' HR9b.out
        rw [e, List.length_map, HND.out]
      have HN9 := Aside0.mk hn9
      subst hn9
      clear hCK hC9
      generalize hok : nameB s = ok at *
      have HOK := Aside0.mk hok
      clear hok
      go_upto_region 16 with (fail)
      go_loopw [71] (fun v71 w' => ∃ i : Nat, i ≤ n9 ∧ v71 = .int .i64 (i : Int) ∧ w' = w7) (fun v71 _ => n9 - (intOf v71).toNat)
      case atStart => exact ⟨0, Nat.zero_le _, rfl, rfl⟩
      case round =>
        obtain ⟨i, hi, rfl, rfl⟩ := hrel
        by_cases hin : i < n9
        · have hiK : i < K.length := by rw [HND.out]; exact hin
          obtain ⟨ad, rfl, d0⟩ := at_str HCK.out i hiK
          have hi9 : i < (K.map fun q => (f q).getD ⟨#[]⟩).length := by rw [List.length_map]; exact hiK
          obtain ⟨ad9, rfl, d9⟩ := at_str HC9.out i hi9
          rw [List.getElem_map] at d9
          have hne := HMEM.out K[i] (List.getElem_mem hiK)
          obtain ⟨r, hr⟩ := Option.ne_none_iff_exists'.1 hne
          have HQ := Aside0.mk (HGD.out _ _ hr)
          have HIS := Aside0.mk (show (setF f s v K[i]).isSome = true from Option.isSome_iff_ne_none.2 (setF_has hne))
          have HSF := Aside0.mk (fun (h : K[i] ≠ s) => setF_other (f := f) (v := v) h)
          generalize K[i] = q at *
          clear hne hr
          by_cases hqs : q = s
          · have bq : (q.toList == s.toList) = true := by rw [hqs]; simp
            have bq2 : (q.toList = s.toList) = True := eq_true (by rw [hqs])
            have HQS := Aside0.mk hqs
            clear hqs
            go_wp2_with (go_at_call 7; (with_reducible refine (get_name HV7.out q HQ.out.2.1 HQ.out.1).mono ?_); rintro e w8 ⟨rfl, rfl⟩; rw [HIS.out])
            go_roundw
            case measure => simp [intOf]; omega
            case rel => exact ⟨i + 1, by omega, by go_num, trivial⟩
          · have hq2 : ¬ q.toList = s.toList := fun e => hqs (ba_inj (by rw [Go.Lib.toList_data, Go.Lib.toList_data] at e; exact e))
            have bq : (q.toList == s.toList) = false := beq_eq_false_iff_ne.mpr hq2
            have bq2 : (q.toList = s.toList) = False := eq_false hq2
            have HS2 := Aside0.mk (HSF.out hqs)
            clear hqs
            go_wp2_with (go_at_call 7; (with_reducible refine (get_name HV7.out q HQ.out.2.1 HQ.out.1).mono ?_); rintro e w8 ⟨rfl, rfl⟩; rw [HIS.out, HS2.out])
            go_roundw
            case measure => simp [intOf]; omega
            case rel => exact ⟨i + 1, by omega, by go_num, trivial⟩
        · have HLL := Aside0.mk (show La.length ≤ 2000000 by rw [HLA.out]; omega)
          cases ok
          · go_wp2_with (go_at_call 7; (with_reducible refine (get_any HV7.out s (by omega) HJ.out HLL.out HT7.out hst hla).mono ?_); rintro e w8 ⟨rfl, hB⟩; have HB8 := Aside0.mk (HB7.out.trans (hB.mono (Nat.le_trans HBS.out HBB7.out))); clear hB)
            go_ret
            exact ⟨rfl, by rw [hb]; exact HB8.out⟩
          · have HSU := Aside0.mk (show setF f s v = upd f s v by unfold setF; rw [if_pos HOK.out])
            have HGR := Aside0.mk (show getR (setF f s v) st la La s = (v, true) by unfold getR; rw [if_pos HOK.out, HSU.out, upd_same]; rfl)
            have hw : wrap64 ((K.length : Int) + 1) = (K.length : Int) + 1 := by have := HKL.out; unfold wrap64; omega
            go_wp2_with (first
              | (go_at_call 7; (with_reducible refine (get_any HV7.out s (by omega) HJ.out HLL.out HT7.out hst hla).mono ?_); rintro e w8 ⟨rfl, hB⟩; rw [HGR.out]; have HB8 := Aside0.mk (HB7.out.trans (hB.mono (Nat.le_trans HBS.out HBB7.out))); have HV8 := Aside0.mk (HV7.out.below hB); have HBB8 := Aside0.mk (Nat.le_trans HBB7.out hB.size); clear hB)
              | (go_at_call 6; (with_reducible refine (names_any HV8.out (by have := HN7.out; omega)).mono ?_); rintro e w9 ⟨vn, S', rfl, hk', hsl', hrow', hB⟩; obtain ⟨A', n', c', rfl⟩ := R_slice3 hrow'; have h9 : decide ((n' : Int) ≤ (K.length : Int) + 1) = true := decide_eq_true (by obtain ⟨e9, _, _⟩ := Kd.R_reads' hrow'; rw [e9, names_len, HKS.out]; rw [HSU.out] at hk'; have := keys_more HK.out hk'; omega); have HB9 := Aside0.mk (HB8.out.trans (hB.mono (Nat.le_trans HBS.out HBB8.out))); clear hk' hsl' hrow' hB))
            go_ret
            exact ⟨rfl, by rw [hb]; exact HB9.out⟩
end
end Go.Proofs.YthplgobjoobmdaaDoor.Vars
namespace Go.Proofs.YthplgobjoobmdaaDoor.OpenK
open Go.RowKit Go.ChangeShapes Go.WideShapes Go.Deep Go.Proofs.YthplgobjoobmdaaDoorW.PrintWords
open Go.Proofs.YthplgobjoobmdaaDoor.Rows (uptoBulk uptoBulkAll)
set_option linter.unusedVariables false
theorem part_in {H : Type} {d : DataW H} : ∀ {l : List (DataW H)}, d ∈ l → uptoBulk d ≤ uptoBulkAll l
  | _ :: _, List.Mem.head _ => by rw [uptoBulkAll]; omega
  | _ :: r, List.Mem.tail _ h => by
    have := part_in h
    rw [uptoBulkAll]
    omega
theorem one_in {H : Type} (d : DataW H) : 1 ≤ uptoBulk d := by
  cases d with
  | lit l => cases l <;> simp [uptoBulk]
  | nil => simp [uptoBulk]
  | ptr d => simp [uptoBulk]
  | slice elems spare => simp [uptoBulk]
  | agg parts => simp [uptoBulk]
  | iface t d => simp [uptoBulk]
  | map entries => simp [uptoBulk]
  | held h => simp [uptoBulk]
theorem len_in {H : Type} : ∀ (l : List (DataW H)), l.length ≤ uptoBulkAll l
  | [] => Nat.zero_le _
  | x :: r => by
    have h1 := one_in x
    have h2 := len_in r
    rw [uptoBulkAll, List.length_cons]
    omega
def Op {α : Type} (P : Program) (w : World) (d : Kd α) (t : TypeId) (V : α → Prop) : Prop :=
  ∀ (H : Type) (enc : TypeId × Value → H) (base : Nat) (spare : Nat → Bool) (held : Bool) (fuel : Nat) (cs : List Value) (x : DataW H × List MemPlace), DataW.trod enc P w base spare held fuel t cs = some x → uptoBulk x.1 ≤ 1048576 → ∃ v, d.K w v cs ∧ V v
section
variable {P : Program} {w : World}
theorem op_int {t : TypeId} {k : IntKind} (ht : P.underlying t = some (.int k)) : Op P w (Kd.int k) t (fun n => (Lit.int k n).wf = true) := by
  intro H enc base spare held fuel cs x h _
  obtain ⟨n, rfl, _, hw⟩ := DataW.trod_int ht h
  exact ⟨n, rfl, hw⟩
theorem op_string {t : TypeId} (ht : P.underlying t = some .string) : Op P w Kd.string t (fun s => s.size ≤ 1048576) := by
  intro H enc base spare held fuel cs x h hz
  obtain ⟨s, rfl, rfl, hs⟩ := DataW.trod_string ht h
  refine ⟨s, rfl, ?_⟩
  simp only [uptoBulk] at hz
  rw [data_length] at hz
  omega
theorem op_slice {α : Type} {d : Kd α} {t e : TypeId} {V : α → Prop} (ht : P.underlying t = some (.slice e)) (hsz : P.cellsOf e = d.sz) (h : Op P w d e V) : Op P w (Kd.slice e d) t (fun l => l.length ≤ 1048576 ∧ ∀ x ∈ l, V x) := by
  intro H enc base spare held fuel cs x hx hz
  rcases open_slice ht hx with ⟨rfl, _⟩ | ⟨a, len, cap, m, n, D, Pl, rfl, hb, hl, hm, hmm, rfl, hi⟩
  · exact ⟨[], ⟨none, 0, rfl, Nat.le_refl _, Kd.C_nil _ _⟩, by simp, by simp⟩
  · simp only [uptoBulk] at hz
    have hz1 := len_in ((List.range len).map D)
    have hz2 : ∀ i, i < len → uptoBulk (D i) ≤ 1048576 := fun i hi => by
      have := part_in (List.mem_map.2 ⟨i, List.mem_range.2 hi, rfl⟩ : D i ∈ (List.range len).map D)
      omega
    simp only [List.length_map, List.length_range] at hz1
    have hlm : len ≤ m := by rw [hmm]; split <;> omega
    have key : ∀ k, k ≤ len → ∃ l : List α, l.length = k ∧ ∀ i p, l[i]? = some p → V p ∧ ∃ c : List Value, c.length = d.sz ∧ d.K w p c ∧ ∀ j u, c[j]? = some u → w.cell? (a.add (i * d.sz + j)) = some u := by
      intro k
      induction k with
      | zero => exact fun _ => ⟨[], rfl, by simp⟩
      | succ k ih =>
        intro hk
        obtain ⟨l, hlen, hh⟩ := ih (by omega)
        obtain ⟨cs', hc, ht'⟩ := hi k (by omega)
        obtain ⟨v, hK, hV⟩ := h H enc base spare held n cs' _ ht' (hz2 k (by omega))
        obtain ⟨_, hcl, hat⟩ := World.cells?_some hc
        refine ⟨l ++ [v], by simp [hlen], fun i p hp => ?_⟩
        rcases Nat.lt_or_ge i l.length with hil | hil
        · rw [List.getElem?_append_left hil] at hp
          exact hh i p hp
        · obtain rfl : i = l.length := by
            have := (List.getElem?_eq_some_iff.1 hp).1
            rw [List.length_append, List.length_singleton] at this
            omega
          have hp' : v = p := by simpa using hp
          subst hp'
          refine ⟨hV, cs', d.K_len hK, hK, fun j u hu => ?_⟩
          have hj : j < cs'.length := (List.getElem?_eq_some_iff.1 hu).1
          have := hat j (by omega)
          rw [← Go.Deep.add_add, hlen, ← hsz, this, hu]
    obtain ⟨l, hll, hh⟩ := key len (Nat.le_refl _)
    have hml : len ≤ maxLen := Nat.le_trans hl hm
    refine ⟨l, ⟨some a, cap, by rw [hll], by omega, rfl, by unfold maxLen at hml; omega, fun _ => ⟨a, rfl, fun j p hp => ?_⟩⟩, ?_, fun p hp => ?_⟩
    · obtain ⟨_, c, h1, h2, h3⟩ := hh j p hp
      exact ⟨c, h1, h2, h3⟩
    · rw [hll]
      omega
    · obtain ⟨i, hi', rfl⟩ := List.getElem_of_mem hp
      exact (hh i _ (List.getElem?_eq_getElem hi')).1
def OpF {α : Type} (P : Program) (w : World) (d : Kd α) (fs : List Field) (o : Nat) (V : α → Prop) : Prop :=
  ∀ (H : Type) (enc : TypeId × Value → H) (base : Nat) (spare : Nat → Bool) (held : Bool) (n : Nat) (cs : List Value), cs.length = o + d.sz →
    (∀ f, f ∈ fs → ∃ y, DataW.trod enc P w base spare held n f.type ((cs.drop f.offset).take (P.cellsOf f.type)) = some y ∧ uptoBulk y.1 ≤ 1048576) → ∃ v, d.K w v (cs.drop o) ∧ V v
theorem opf_one {α : Type} {d : Kd α} {f : Field} {o : Nat} {V : α → Prop} (hfo : f.offset = o) (h : Op P w d f.type V) (hsz : P.cellsOf f.type = d.sz) : OpF P w d [f] o V := by
  subst hfo
  intro H enc base spare held n cs hl hf
  obtain ⟨y, hy, hz⟩ := hf f (by simp)
  rw [List.take_of_length_le (by rw [List.length_drop]; omega)] at hy
  exact h H enc base spare held n _ y hy hz
theorem opf_cons {α β : Type} {d : Kd α} {d' : Kd β} {f : Field} {fs : List Field} {o o' : Nat} {V : α → Prop} {V' : β → Prop} (hfo : f.offset = o) (h : Op P w d f.type V) (hsz : P.cellsOf f.type = d.sz) (ho : o' = o + d.sz) (hr : OpF P w d' fs o' V') : OpF P w (Kd.pair d d') (f :: fs) o (fun x => V x.1 ∧ V' x.2) := by
  subst hfo
  intro H enc base spare held n cs hl hf
  have hl' : cs.length = f.offset + (d.sz + d'.sz) := hl
  obtain ⟨y, hy, hz⟩ := hf f (by simp)
  obtain ⟨v, hK, hV⟩ := h H enc base spare held n _ y hy hz
  obtain ⟨v', hK', hV'⟩ := hr H enc base spare held n cs (by omega) (fun g hg => hf g (by simp [hg]))
  refine ⟨(v, v'), ⟨_, _, ?_, hK, hK'⟩, hV, hV'⟩
  rw [hsz, ho, ← List.drop_drop, List.take_append_drop]
theorem op_struct {α β : Type} {d : Kd α} {t : TypeId} {fs : Array Field} {V : α → Prop} {V' : β → Prop} (g : β → α) (gi : α → β) (hg : ∀ x, g (gi x) = x) (ht : P.underlying t = some (.struct fs)) (hsz : P.cellsOf t = d.sz) (h : OpF P w d fs.toList 0 V) (hV : ∀ x, V (g x) → V' x) : Op P w (Kd.iso d g) t V' := by
  intro H enc base spare held fuel cs x hx hz
  obtain ⟨xs, n, _, rfl, hl, hxl, hf⟩ := DataW.trod_struct ht hx
  simp only [uptoBulk] at hz
  obtain ⟨v, hK, hv⟩ := h H enc base spare held n cs (by omega) (fun f hm => by
    obtain ⟨i, hi, rfl⟩ := List.getElem_of_mem hm
    have hi' : i < fs.size := by simpa using hi
    have := hf i fs[i] (Array.getElem?_eq_getElem hi')
    refine ⟨xs[i]'(by omega), ?_, by
      have := part_in (show (xs[i]'(by omega)).1 ∈ xs.map (·.1) from List.mem_map.2 ⟨_, List.getElem_mem _, rfl⟩)
      omega⟩
    rw [List.getElem?_eq_getElem (by omega)] at this
    simpa using this)
  exact ⟨gi v, by rw [show (Kd.iso d g).K = fun w x cs => d.K w (g x) cs from rfl]; simp only; rw [hg]; simpa using hK, hV _ (by rw [hg]; exact hv)⟩
theorem open_st {H : Type} {enc : TypeId × Value → H} {base : Nat} {spare : Nat → Bool} {held : Bool} {α : Type} {d : Kd α} {t : TypeId} {V : α → Prop} (hop : Op P w d t V) {cs : Array Value} {dd : DataW H} {ps : List MemPlace}
    (h : DataW.Trod enc P w base spare held t (.agg cs) dd ps) (hz : uptoBulk dd ≤ 1048576) : ∃ y, d.K w y cs.toList ∧ V y := by
  obtain ⟨fuel, hf⟩ := h
  exact hop H enc base spare held fuel _ _ hf hz
end
end Go.Proofs.YthplgobjoobmdaaDoor.OpenK
namespace Go.Proofs.YthplgobjoobmdaaDoor.UptoShape
open Go
theorem witness_upto {H : Type} {enc : TypeId × Value → H} {C : Checked} {os : Os} {f : FuncId} {fn : Func} {s : OpenSpec} {conds : List PathCond} {apart : Bool} {laid : List (String × DataW Unit)} (modest : Bool) (w0 : World) (args : Array Value) (fuel : Nat) (hos : w0.os = os)
    (hsh : (w0.forCall (fun _ _ => 0) ⟨#[], args, []⟩).Shaped C.prog)
    (hok : Input.okWideB C.prog (w0.forCall (fun _ _ => 0) ⟨#[], args, []⟩) f ⟨#[], args, []⟩ = true)
    {x : List (DataW H) × List (DataW H) × List MemPlace} (hx : DataW.whole enc C.prog (w0.forCall (fun _ _ => 0) ⟨#[], args, []⟩).memory fn.params.toList s.vars apart args.toList fuel = some x)
    (hconds : conds.all (PathCond.test C.prog ⟨fn.params.toList, x.1, s.bare.plain.varTypes C.prog, x.2.1⟩) = true) (hkk : ∀ k, s.cond = some k → k H (x.1 ++ x.2.1) = true)
    (hsz : s.bare.sizedB enc C.prog fn apart (w0.forCall (fun _ _ => 0) ⟨#[], args, []⟩).memory args fuel = true) (hl : laidMetH C.prog laid (w0.forCall (fun _ _ => 0) ⟨#[], args, []⟩).memory) :
    ∃ (w : World) (tape : Tape) (i : Input), w.os = os ∧ (w.forCall tape i).Shaped C.prog ∧ i.vars = [] ∧ Input.okWide C.prog (w.forCall tape i) .any w.heap.size f i ∧
      s.preRow enc C.prog fn conds apart laid (w.forCall tape i).memory i.args ∧ ({ modest := modest } : Assume).holds C.prog (lone (Frame.enter C.prog f i.args .normal) [] (w.forCall tape i)) :=
  ⟨w0, fun _ _ => 0, ⟨#[], args, []⟩, hos, hsh, (Input.okWide_of_okWideB (base := 0) hok).1, (Input.okWide_of_okWideB hok).2, OpenSpec.preRow_of_cond fuel hx hconds hkk hsz hl, by
    simp only [Assume.holds]
    exact ⟨by simp, by simp, fun _ => Modest.zero, by simp, by simp⟩⟩
end Go.Proofs.YthplgobjoobmdaaDoor.UptoShape
namespace Go.Proofs.YthplgobjoobmdaaDoor
open Go.RowKit Go.Proofs.YthplgobjoobmdaaDoorW.PrintWords Go.Proofs.YthplgobjoobmdaaDoorW.PrintLast
set_option linter.unusedVariables false
theorem i64_rng {c : Int} (h : (Lit.int .i64 c).wf = true) : -9223372036854775808 ≤ c ∧ c ≤ 9223372036854775807 := by
  simp only [Lit.wf, Bool.and_eq_true, decide_eq_true_eq] at h
  have h1 : IntKind.i64.min = -9223372036854775808 := rfl
  have h2 : IntKind.i64.max = 9223372036854775807 := rfl
  rw [h1, h2] at h
  exact h
theorem tab_of_reads2 {W : World} (h : Lib.VarReads Tryd.prog W "internal/strconv.uint64pow10" Rows.laid_internal_strconv_uint64pow10) : Vars.Tab W := by
  obtain ⟨g, t, cs, fuel, p, hg, ht, hv, hd⟩ := h
  obtain rfl := Option.some.inj ((show Tryd.prog.globalNamed "internal/strconv.uint64pow10" = some 3 by kernel_rfl).symm.trans hg)
  obtain rfl := Option.some.inj ((show (Tryd.prog.globals[3]?).map (·.type) = some 112 by kernel_rfl).symm.trans ht)
  show Lib.TabIs Tryd.prog W "internal/strconv.uint64pow10" .u64 Lib.pow10Tab
  unfold Lib.TabIs
  rw [hv]
  have := Lib.cells_of_tab (zs := Lib.pow10Tab) Tryd.underlying112 Tryd.underlying88 (by kernel_rfl) (by kernel_rfl) (hd.trans (by rfl))
  rw [← this]
theorem varsSets_tab {W : World} (h : laidMetH Tryd.prog Rows.varsSetsUptoRow.laid W) : Vars.Tab W := by
  rw [MakeChecks.laidMetH_plain _ _ _ (by kernel_rfl)] at h
  exact tab_of_reads2 (Lib.laidMet.reads h (by simp [Rows.varsSetsUptoRow]))
abbrev kVr : Kd (ByteArray × ByteArray) := Kd.iso (Kd.pair Kd.string Kd.string) (fun x => x)
abbrev Sc := List (ByteArray × ByteArray) × List ByteArray × Int × Int
abbrev kSc : Kd Sc := Kd.iso (Kd.pair (Kd.slice 39 kVr) (Kd.pair (Kd.slice 9 Kd.string) (Kd.pair (Kd.int .i64) (Kd.int .i64)))) (fun x => x)
set_option maxRecDepth 100000 in
theorem op_var (w : World) : OpenK.Op Tryd.prog w kVr 39 (fun x => x.1.size ≤ 1048576 ∧ x.2.size ≤ 1048576) :=
  OpenK.op_struct (V := fun x => x.1.size ≤ 1048576 ∧ x.2.size ≤ 1048576) (fun x => x) (fun x => x) (fun _ => rfl) Tryd.underlying39 (by kernel_rfl)
    (OpenK.opf_cons rfl (OpenK.op_string Tryd.underlying9) (by kernel_rfl) rfl (OpenK.opf_one rfl (OpenK.op_string Tryd.underlying9) (by kernel_rfl))) (fun _ h => h)
def FitS (x : Sc) : Prop := (∀ p ∈ x.1, p.1.size ≤ 1048576 ∧ p.2.size ≤ 1048576) ∧ (∀ y ∈ x.2.1, y.size ≤ 1048576) ∧ (Lit.int .i64 x.2.2.1).wf = true ∧ (Lit.int .i64 x.2.2.2).wf = true
set_option maxRecDepth 100000 in
theorem op_scope (w : World) : OpenK.Op Tryd.prog w kSc 25 FitS :=
  OpenK.op_struct (V := fun x => (x.1.length ≤ 1048576 ∧ ∀ p ∈ x.1, p.1.size ≤ 1048576 ∧ p.2.size ≤ 1048576) ∧ (x.2.1.length ≤ 1048576 ∧ ∀ y ∈ x.2.1, y.size ≤ 1048576) ∧ (Lit.int .i64 x.2.2.1).wf = true ∧ (Lit.int .i64 x.2.2.2).wf = true) (fun x => x) (fun x => x) (fun _ => rfl) Tryd.underlying25 (by kernel_rfl)
    (OpenK.opf_cons rfl (OpenK.op_slice Tryd.underlying22 (by kernel_rfl) (op_var w)) (by kernel_rfl) rfl
    (OpenK.opf_cons rfl (OpenK.op_slice Tryd.underlying23 (by kernel_rfl) (OpenK.op_string Tryd.underlying9)) (by kernel_rfl) rfl
    (OpenK.opf_cons rfl (OpenK.op_int Tryd.underlying3) (by kernel_rfl) rfl
    (OpenK.opf_one rfl (OpenK.op_int Tryd.underlying3) (by kernel_rfl))))) (fun _ h => ⟨h.1.2, h.2.1.2, h.2.2⟩)
theorem sets_lawI (y : Sc) (cs : Array Value) (s v : ByteArray) (w : World) (K0 : kSc.K w y cs.toList) (V0 : FitS y) (ht : Vars.Tab w) :
    Calls Tryd.prog 3 #[.agg cs, .string s, .string v] w fun e w' => e = .returned (.bool true) ∧ Below w.heap.size w w' := by
  obtain ⟨lv, la, st, l0⟩ := y
  obtain ⟨c1, c2, e, h1, ⟨c3, c4, rfl, h2, ⟨c5, c6, rfl, h3, h4⟩⟩⟩ := K0
  obtain ⟨A1, n1, rfl, _, hC1⟩ := h1
  obtain ⟨A2, n2, rfl, _, hC2⟩ := h2
  have h3 : c5 = [.int .i64 st] := h3
  have h4 : c6 = [.int .i64 l0] := h4
  subst h3
  subst h4
  have hcs : cs = #[.slice A1 lv.length n1, .slice A2 la.length n2, .int .i64 st, .int .i64 l0] := by
    cases cs
    simp only at e
    rw [e]
    rfl
  subst hcs
  obtain ⟨f1, f2, f3, f4⟩ := V0
  exact Vars.sets_law A1 lv.length n1 lv A2 la.length n2 la st l0 s v w hC1 hC2 (fun p hp => ⟨Nat.le_trans (f1 p hp).1 (by decide), Nat.le_trans (f1 p hp).2 (by decide)⟩) (fun x hx => Nat.le_trans (f2 x hx) (by decide)) (i64_rng f3) (i64_rng f4) ht
namespace RowVarsSets
open Go.ChangeShapes Go.WideShapes Go.ChangeAt Go.RowKit
open Go.ChangeMaps (open_string shut_string)
theorem own : ownKnob Tryd.prog.godebug = none := by kernel_rfl
theorem laidOut : laidOutB Tryd.prog = true := by kernel_rfl
set_option maxRecDepth 100000 in
theorem lifted (os : Os) (started : os.Started) (H : Type) (enc : TypeId × Value → H) (F : Stop.Interp) :
    ReturnsInHanded {} Tryd.checked os 3 .any ((Rows.OpenSpec.upto Rows.varsSetsSpec).preRow enc Tryd.prog Tryd.f3 Rows.varsSetsUptoRow.domain false Rows.varsSetsUptoRow.laid) (((Rows.OpenSpec.upto Rows.varsSetsSpec).at F).post enc Tryd.prog Tryd.f3 false true false false) := by
  refine returnsInHanded_of_row (C := Tryd.checked) (s := (Rows.OpenSpec.upto Rows.varsSetsSpec)) own started (by kernel_rfl) Tryd.func3
    (UptoShape.witness_upto (enc := enc) (C := Tryd.checked) (os := os) (s := (Rows.OpenSpec.upto Rows.varsSetsSpec)) false (World.laidAll Tryd.prog os Rows.varsSetsUptoRow.laid) #[.agg #[.slice none 0 0, .slice none 0 0, .int .i64 0, .int .i64 0], .string ByteArray.empty, .string ByteArray.empty] 8 (World.laidAll_os _ _ _)
      (World.shaped_of_ZipB (by kernel_rfl) (by kernel_rfl)) (by kernel_rfl) (x := ([.agg [.nil, .nil, .lit (.int .i64 0), .lit (.int .i64 0)], .lit (.string []), .lit (.string [])], [], [])) (by kernel_rfl) (by kernel_rfl) (fun k hk => by cases hk; kernel_rfl) (by kernel_rfl)
      (by rw [MakeChecks.laidMetH_plain _ _ _ (by kernel_rfl)]; exact laidMet_laidAll _ (by kernel_rfl) (by kernel_rfl))) ?_
  intro W base args ds gs before hval0 hW hcnd hk0 hsz0 hL _ _
  have hcontract : Calls Tryd.prog 3 args W fun e W' => ∃ v, e = .returned v ∧ Rows.varsSetsSpec.post enc Tryd.prog Tryd.f3 false true false false W args v W' := by
    have hsz : (DataW.weightsEach Tryd.prog (Tryd.f3.params.toList ++ Rows.varsSetsSpec.plain.varTypes Tryd.prog) (ds ++ gs)).all (· ≤ reachBytes) = true := hsz0
    have hval : ∀ (j : Nat) t v, Tryd.f3.params[j]? = some t → args[j]? = some v → Value.okWide Tryd.prog W .any base t v := hval0
    have hW' := hW
    obtain ⟨p, q, hA0, hV, rfl, hfz, hnd⟩ := hW
    have hA : DataW.TrodAll enc Tryd.prog W 0 (fun _ => true) true Tryd.f3.params.toList args.toList ds p := hA0
    rw [Tryd.params3] at hA hval hsz
    obtain ⟨v0, vs0, d0, ds0, p0, q0, hargs, rfl, rfl, h0, r0⟩ := trodAll_cons hA
    obtain ⟨v1, vs1, d1, ds1, p1, q1, rfl, rfl, rfl, h1, r1⟩ := trodAll_cons r0
    obtain ⟨v2, vs2, d2, ds2, p2, q2, rfl, rfl, rfl, h2, r2⟩ := trodAll_cons r1
    obtain ⟨rfl, rfl, rfl⟩ := trodAll_nil r2
    obtain rfl : args = #[v0, v1, v2] := by cases args; simp_all
    obtain ⟨rfl, rfl⟩ := trodVars_none hV
    have hK : Rows.uptoBulkAll [d0, d1, d2] ≤ 1048576 := of_decide_eq_true (by simpa [Rows.uptoSmall] using hk0 _ rfl)
    simp only [Rows.uptoBulkAll] at hK
    have b0 : Rows.uptoBulk d0 ≤ 1048576 := by omega
    have b1 : Rows.uptoBulk d1 ≤ 1048576 := by omega
    have b2 : Rows.uptoBulk d2 ≤ 1048576 := by omega
    obtain ⟨cs0, rfl, _⟩ := okWide_struct Tryd.underlying25 (hval 0 25 v0 rfl rfl)
    have t0 := h0
    have lt0 : ∀ x ∈ p0, x.block < W.heap.size := by obtain ⟨m, hm⟩ := t0; exact DataW.trod_lt m _ _ _ hm
    have z0 : ∀ n ∈ d0.weights Tryd.prog 25, n ≤ reachBytes := fun n hn => by simpa using List.all_eq_true.1 hsz n (DataW.weights_mem_each (j := 0) rfl rfl n hn)
    obtain ⟨y0, K0, V0⟩ := OpenK.open_st (op_scope W) h0 b0
    obtain ⟨s1, rfl, rfl, rfl, y1⟩ := open_string Tryd.underlying9 (hval 1 9 v1 rfl rfl) h1
    have V1 : s1.size ≤ reachBytes := by
      have z := sized_string hsz (j := 1) (t := 9) rfl rfl
      rw [Array.length_toList] at z
      exact z
    obtain ⟨s2, rfl, rfl, rfl, y2⟩ := open_string Tryd.underlying9 (hval 2 9 v2 rfl rfl) h2
    have V2 : s2.size ≤ reachBytes := by
      have z := sized_string hsz (j := 2) (t := 9) rfl rfl
      rw [Array.length_toList] at z
      exact z
    clear hA0 hval0 hsz0 hsz
    refine (sets_lawI y0 cs0 s1 s2 W K0 V0 (varsSets_tab hL)).mono fun e W' ⟨he, bel⟩ => ?_
    subst he
    exact ⟨_, rfl, _, _, _, [], _, [], hW', trodAll_mk1 (shut_bool Tryd.underlying4 _), (trodAll_cons_mk (Below.trod laidOut (by kernel_rfl) (of_decide_eq_true (by kernel_rfl)) t0 bel lt0) (trodAll_cons_mk (shut_string Tryd.underlying9 y1) (trodAll_cons_mk (shut_string Tryd.underlying9 y2) trodAll_mk0))), rfl, bel.frame _, fun h => by cases h⟩
  exact hcontract
theorem proved : Rows.VarsSetsUptoSaid :=
  OpenClaim.holds_of_cond 3 Tryd.f3 rfl rfl rfl rfl rfl rfl rfl ⟨rfl, rfl, rfl, rfl, rfl⟩ rfl rfl rfl rfl rfl (by kernel_rfl) Tryd.func3 (by kernel_rfl)
    (of_decide_eq_true (by kernel_rfl)) (by unfold Func.isWrapper; first | (rw [if_pos (by decide +kernel)]; kernel_rfl) | (rw [if_neg (by decide +kernel)]; exact ⟨rfl, rfl⟩))
    (fun os started H enc _ F => by rw [OpenClaim.pre_eq_preRow]; exact lifted os started H enc F)
end RowVarsSets
theorem varsSetsUpto_holds : Rows.VarsSetsUptoSaid := RowVarsSets.proved
theorem varsSetsUpto_card_holds : Rows.VarsSetsUptoCardSaid :=
  Claim7.holds_tied_plain_at .later [] [.data, .data, .data, .sentinel, .sentinel] true (true, "f913e1a4f1e7dffce9861cffd2979500c3f019a9cee5df765efdf981611e8a03") true varsSetsUpto_holds (fun _ h => by cases h) (by kernel_rfl) (fun _ h => by cases h) varsSetsUpto_row_tie rfl ⟨rfl, rfl⟩ (by kernel_rfl) rfl
    (fun f fn hf hfn => by
      obtain rfl : f = 3 := Option.some.inj ((show Tryd.prog.funcNamed "deadfall/deadfalllaw09.VarsSets" = some 3 by kernel_rfl).symm.trans hf) |>.symm
      obtain rfl : fn = Tryd.f3 := (Option.some.inj (Tryd.func3.symm.trans hfn)).symm
      exact ⟨by kernel_rfl, fun j t ht => by
        rw [Tryd.params3] at ht
        have hm : t ∈ [25, 9, 9] := by simpa using Array.mem_of_getElem? ht
        have hall : ([25, 9, 9].all fun u => !Tryd.prog.wantsStandIn u) = true := by kernel_rfl
        exact (show Tryd.prog.wantsStandIn t = false by simpa using List.all_eq_true.1 hall t hm)⟩)
    (by kernel_rfl)
#print axioms varsSetsUpto_card_holds
end Go.Proofs.YthplgobjoobmdaaDoor
