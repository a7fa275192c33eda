-- printed by a program of this session (wip/pp): a Lean function and a proof for each Go function
import Derived.Test.YtkepmbkghmkodaaProg
import Derived.Below
import Derived.Deep.Draws
import Derived.Deep.AppendLies
import Derived.Maps.AppendAt
import Derived.OwnWalk
import Derived.Laws.BytesArg
import Derived.Laws.MakeOwn
import Derived.Laws.OwnMore
import Derived.Deep.OwnRows
import Derived.Tactics
import Derived.Lib.ConvBytes
import Derived.Laws.Slices
import Derived.WalkKit
import Derived.KernelRfl
import Derived.RowKit3
import Derived.Deep.LoopGhost
import Derived.Deep.QuietTactic
import Derived.BigQuiet
import Derived.WideLaws
import Derived.Deep.DeepCutAuto
import Derived.Deep.CutBlock
import Derived.Deep.RegionHeld3
import Derived.Laws.Rows
import Derived.Lib.AppendStr
import Derived.ArgAppend
import Derived.Laws.IdiomCopy
import Derived.OrdersHeld
import Derived.Laws.BitsLemmas
import Derived.RowKit
import Derived.Test.YtkepmbkghmkodaaNest
import Derived.Test.YtkepmbkghmkodaaWWords
import Derived.Test.YtkepmbkghmkodaaWLast
import Derived.Test.YtkepmbkghmkodaaWTab
import Derived.Test.YtkepmbkghmkodaaWFour
import Derived.Test.YtkepmbkghmkodaaWQPut
import Derived.Test.YtkepmbkghmkodaaWApart
import Derived.Test.YtkepmbkghmkodaaWArr
import Derived.Test.YtkepmbkghmkodaaWZeros
import Derived.Test.YtkepmbkghmkodaaWFoot
import Derived.Test.YtkepmbkghmkodaaWKept
import Derived.Test.YtkepmbkghmkodaaWShare
import Derived.Test.YtkepmbkghmkodaaWN
import Derived.Test.YtkepmbkghmkodaaWFootNe
import Derived.Test.YtkepmbkghmkodaaWAt
import Derived.Test.YtkepmbkghmkodaaWEqStruct
import Derived.Test.YtkepmbkghmkodaaWRepsOne
import Derived.Test.YtkepmbkghmkodaaWInv
import Derived.Test.YtkepmbkghmkodaaWInvWords
import Derived.Test.YtkepmbkghmkodaaWGuard
import Derived.Test.YtkepmbkghmkodaaWNEv
import Derived.Test.YtkepmbkghmkodaaWMore
namespace Go.Proofs.Ytkepmbkghmkodaa.Q
open Go.RowKit Go.Proofs.YtkepmbkghmkodaaW.PrintWords Go.Proofs.YtkepmbkghmkodaaW.PrintLast Go.Proofs.YtkepmbkghmkodaaW.PrintMore
attribute [local go_sem] max2_int min2_int max_two min_two max_three min_three max_four min_four   -- for this text's walks alone
set_option linter.unusedVariables false
set_option linter.unusedSimpArgs false




def errW : Option Int → Value
  | none => .nilIface
  | some c => .iface 0 (.int .i64 c)
theorem errW_none : errW none = .nilIface := rfl
theorem errW_some (c : Int) : errW (some c) = .iface 0 (.int .i64 c) := rfl

theorem info3 : (Try.prog.info? 3).map (fun i => (i.zero, i.size, i.bytes)) = some (some (.int .i64 0), 1, 8) := by kernel_rfl
theorem info52 : (Try.prog.info? 52).map (fun i => (i.zero, i.size, i.bytes)) = some (some (.agg #[(.int .i64 0), (.string ⟨#[]⟩), (.bool false), (.slice none 0 0), (.slice none 0 0), (.slice none 0 0), (.slice none 0 0), (.slice none 0 0)]), 8, 152) := by kernel_rfl
theorem info74 : (Try.prog.info? 74).map (fun i => (i.zero, i.size, i.bytes)) = some (some (.agg #[(.int .i64 0), (.int .i64 0), (.string ⟨#[]⟩), (.bool false), (.slice none 0 0), (.slice none 0 0), (.slice none 0 0), (.slice none 0 0), (.slice none 0 0), (.int .i64 0), (.int .i64 0), (.bool false), (.slice none 0 0), (.slice none 0 0)]), 14, 232) := by kernel_rfl
-- the values' own types
/-! #### struct type 154, nested in itself -/
structure S154 where
  f0 : Int
  f1 : Bool
  f2 : ByteArray
  f3 : ByteArray
  f4 : (List S154)
def z154 : S154 := ⟨(0 : Int), false, (⟨#[]⟩ : ByteArray), (⟨#[]⟩ : ByteArray), ([] : List S154)⟩
def F154 (d : Kd S154) : Kd S154 := Kd.iso (Kd.pair (Kd.int .i64) (Kd.pair Kd.bool (Kd.pair Kd.string (Kd.pair Kd.string (Kd.slice 154 d))))) (fun x : S154 => (x.f0, x.f1, x.f2, x.f3, x.f4))
theorem mono154 : Kd.Mono F154 := Kd.mono_iso _ (Kd.mono_pair (Kd.mono_const _) (Kd.mono_pair (Kd.mono_const _) (Kd.mono_pair (Kd.mono_const _) (Kd.mono_pair (Kd.mono_const _) (Kd.mono_slice 154 Kd.mono_id)))))
theorem sub154 : Kd.Sub F154 [154] := Kd.sub_iso _ (Kd.sub_pair (Kd.sub_const _ (by decide)) (Kd.sub_pair (Kd.sub_const _ (by decide)) (Kd.sub_pair (Kd.sub_const _ (by decide)) (Kd.sub_pair (Kd.sub_const _ (by decide)) (Kd.sub_slice 154 (by decide) Kd.sub_id)))))
theorem sz154 : ∀ n, (Kd.upto F154 5 [154] n).sz = 5 := Kd.upto_sz (fun _ => rfl)
def k154 : Kd S154 := Kd.fix F154 5 [154] sz154 (Kd.upto_E sub154)
theorem k154_heap : Kd.Heap k154 := Kd.heap_fix (fun _ h_ => Kd.heap_iso _ (Kd.heap_pair (Kd.heap_int .i64) (Kd.heap_pair Kd.heap_bool (Kd.heap_pair Kd.heap_string (Kd.heap_pair Kd.heap_string (Kd.heap_slice 154 h_))))))
theorem k154_open {w : World} {x : S154} {cs : List Value} (h : k154.K w x cs) : ∃ A4 c4, cs = [.int .i64 x.f0, .bool x.f1, .string x.f2, .string x.f3, .slice A4 x.f4.length c4] ∧ x.f4.length ≤ c4 ∧ k154.C w A4 x.f4.length x.f4 := by
  obtain ⟨n, h⟩ := h
  cases n with
  | zero => exact h.elim
  | succ n =>
    obtain ⟨_, _, rfl, rfl, ⟨_, _, rfl, rfl, ⟨_, _, rfl, rfl, ⟨_, _, rfl, rfl, ⟨A4, c4, rfl, l4, g4⟩⟩⟩⟩⟩ := h
    exact ⟨A4, c4, rfl, l4, Kd.fix_C g4⟩
theorem k154_openM {w : World} {base : Nat} {ok : Nat → Prop} {x : S154} {cs : List Value} (h : k154.M w base ok x cs) : ∃ v4, cs = [.int .i64 x.f0, .bool x.f1, .string x.f2, .string x.f3, v4] ∧ k154.R 154 w base ok v4 x.f4 := by
  obtain ⟨n, h⟩ := h
  cases n with
  | zero => exact h.elim
  | succ n =>
    obtain ⟨_, _, rfl, rfl, ⟨_, _, rfl, rfl, ⟨_, _, rfl, rfl, ⟨_, _, rfl, rfl, ⟨v4, rfl, g4⟩⟩⟩⟩⟩ := h
    exact ⟨v4, rfl, Kd.fix_R g4⟩
theorem k154_mk (w : World) (x : S154) {A4 : Option Addr} {c4 : Nat} (l4 : x.f4.length ≤ c4) (g4 : k154.C w A4 x.f4.length x.f4) : k154.K w x [.int .i64 x.f0, .bool x.f1, .string x.f2, .string x.f3, .slice A4 x.f4.length c4] := by
  obtain ⟨n4, q4⟩ := Kd.fix_C_back mono154 g4
  have r4 := Kd.upto_C_le mono154 sz154 (show n4 ≤ n4 by omega) q4
  exact ⟨n4 + 1, ⟨[.int .i64 x.f0], [.bool x.f1, .string x.f2, .string x.f3, .slice A4 x.f4.length c4], rfl, rfl, ⟨[.bool x.f1], [.string x.f2, .string x.f3, .slice A4 x.f4.length c4], rfl, rfl, ⟨[.string x.f2], [.string x.f3, .slice A4 x.f4.length c4], rfl, rfl, ⟨[.string x.f3], [.slice A4 x.f4.length c4], rfl, rfl, ⟨A4, c4, rfl, l4, r4⟩⟩⟩⟩⟩⟩
theorem k154_mkM (w : World) (base : Nat) (ok : Nat → Prop) (x : S154) {v4 : Value} (g4 : k154.R 154 w base ok v4 x.f4) : k154.M w base ok x [.int .i64 x.f0, .bool x.f1, .string x.f2, .string x.f3, v4] := by
  obtain ⟨n4, q4⟩ := Kd.fix_R_back mono154 g4
  have r4 := Kd.upto_R_le mono154 sz154 (show n4 ≤ n4 by omega) q4
  exact ⟨n4 + 1, ⟨[.int .i64 x.f0], [.bool x.f1, .string x.f2, .string x.f3, v4], rfl, rfl, ⟨[.bool x.f1], [.string x.f2, .string x.f3, v4], rfl, rfl, ⟨[.string x.f2], [.string x.f3, v4], rfl, rfl, ⟨[.string x.f3], [v4], rfl, rfl, ⟨v4, rfl, r4⟩⟩⟩⟩⟩⟩
theorem k154_openF {W : World} {ok : Nat → Prop} {x : S154} {cs : List Value} (h : Kd.FK k154 W ok x cs) : ∃ A4 c4, cs = [.int .i64 x.f0, .bool x.f1, .string x.f2, .string x.f3, .slice A4 x.f4.length c4] ∧ x.f4.length ≤ c4 ∧ Kd.F k154 W ok A4 x.f4.length x.f4 := by
  obtain ⟨A4, c4, rfl, l4, _⟩ := k154_open (Kd.FK_now h)
  exact ⟨A4, c4, rfl, l4, (fun W' hW => by obtain ⟨A4_, c4_, he, l4_, g4_⟩ := k154_open (h W' hW); injection (Option.some.inj (show some (Value.slice A4 x.f4.length c4) = some (Value.slice A4_ x.f4.length c4_) from congrArg (fun l => l[4]?) he)) with ha_ _ _; rw [ha_]; exact g4_)⟩
theorem k154_mkF (W : World) (ok : Nat → Prop) (x : S154) {A4 : Option Addr} {c4 : Nat} (l4 : x.f4.length ≤ c4) (g4 : Kd.F k154 W ok A4 x.f4.length x.f4) : Kd.FK k154 W ok x [.int .i64 x.f0, .bool x.f1, .string x.f2, .string x.f3, .slice A4 x.f4.length c4] := fun W2 hW => k154_mk W2 x l4 (g4 W2 hW)
def rd_T154 (xs : List S154) (i : Int) : S154 := xs.getD i.toNat z154
theorem at_T154 {w : World} {A : Option Addr} {n : Nat} {xs : List S154} (h : Kd.C k154 w A n xs) (i : Int) (h0 : 0 ≤ i) (h1 : i < n) : ∃ ad A4 c4, A = some ad ∧ w.cell? (ad.add (i.toNat * 5)) = some (.int .i64 (rd_T154 xs i).f0) ∧ w.cell? ⟨(ad.add (i.toNat * 5)).block, (ad.add (i.toNat * 5)).off + 1, none⟩ = some (.bool (rd_T154 xs i).f1) ∧ w.cell? ⟨(ad.add (i.toNat * 5)).block, (ad.add (i.toNat * 5)).off + 2, none⟩ = some (.string (rd_T154 xs i).f2) ∧ w.cell? ⟨(ad.add (i.toNat * 5)).block, (ad.add (i.toNat * 5)).off + 3, none⟩ = some (.string (rd_T154 xs i).f3) ∧ w.cell? ⟨(ad.add (i.toNat * 5)).block, (ad.add (i.toNat * 5)).off + 4, none⟩ = some (.slice A4 (rd_T154 xs i).f4.length c4) ∧ (rd_T154 xs i).f4.length ≤ c4 ∧ k154.C w A4 (rd_T154 xs i).f4.length (rd_T154 xs i).f4 := by
  obtain ⟨ad, c, e, _, hK, hc0⟩ := Kd.C_get h z154 i h0 h1
  have hc : ∀ j u, c[j]? = some u → w.cell? (ad.add (i.toNat * 5 + j)) = some u := hc0
  obtain ⟨A4, c4, rfl, l4, g4⟩ := k154_open hK
  exact ⟨ad, A4, c4, e, hc 0 _ rfl, by rw [← add_field _ _ 1 (by omega)]; exact hc 1 _ rfl, by rw [← add_field _ _ 2 (by omega)]; exact hc 2 _ rfl, by rw [← add_field _ _ 3 (by omega)]; exact hc 3 _ rfl, by rw [← add_field _ _ 4 (by omega)]; exact hc 4 _ rfl, l4, g4⟩

def rd_L4 (xs : List (List S154)) (i : Int) : (List S154) := xs.getD i.toNat ([] : List S154)
theorem at_L4 {w : World} {A : Option Addr} {n : Nat} {xs : List (List S154)} (h : Kd.C (Kd.slice 154 k154) w A n xs) (i : Int) (h0 : 0 ≤ i) (h1 : i < n) : ∃ ad A0 c0, A = some ad ∧ w.cell? (ad.add i.toNat) = some (.slice A0 (rd_L4 xs i).length c0) ∧ (rd_L4 xs i).length ≤ c0 ∧ k154.C w A0 (rd_L4 xs i).length (rd_L4 xs i) := by
  obtain ⟨ad, c, e, _, hK, hc0⟩ := Kd.C_get h ([] : List S154) i h0 h1
  have hc : ∀ j u, c[j]? = some u → w.cell? (ad.add (i.toNat * 1 + j)) = some u := hc0
  obtain ⟨A0, c0, rfl, l0, g0⟩ := hK
  exact ⟨ad, A0, c0, e, by have hq := hc 0 _ rfl; rwa [Nat.mul_one, Nat.add_zero] at hq, l0, g0⟩

/-! #### struct type 114 -/
structure S114 where
  f0 : ByteArray
  f1 : (List S154)
def z114 : S114 := ⟨(⟨#[]⟩ : ByteArray), ([] : List S154)⟩
def k114 : Kd S114 := Kd.iso (Kd.pair Kd.string (Kd.slice 154 k154)) (fun x : S114 => (x.f0, x.f1))
theorem k114_heap : Kd.Heap k114 := Kd.heap_iso _ (Kd.heap_pair Kd.heap_string (Kd.heap_slice 154 k154_heap))
theorem k114_open {w : World} {x : S114} {cs : List Value} (h : k114.K w x cs) : ∃ A1 c1, cs = [.string x.f0, .slice A1 x.f1.length c1] ∧ x.f1.length ≤ c1 ∧ k154.C w A1 x.f1.length x.f1 := by
  obtain ⟨_, _, rfl, rfl, ⟨A1, c1, rfl, l1, g1⟩⟩ := h
  exact ⟨A1, c1, rfl, l1, g1⟩
theorem k114_openM {w : World} {base : Nat} {ok : Nat → Prop} {x : S114} {cs : List Value} (h : k114.M w base ok x cs) : ∃ v1, cs = [.string x.f0, v1] ∧ k154.R 154 w base ok v1 x.f1 := by
  obtain ⟨_, _, rfl, rfl, ⟨v1, rfl, g1⟩⟩ := h
  exact ⟨v1, rfl, g1⟩
theorem k114_mk (w : World) (x : S114) {A1 : Option Addr} {c1 : Nat} (l1 : x.f1.length ≤ c1) (g1 : k154.C w A1 x.f1.length x.f1) : k114.K w x [.string x.f0, .slice A1 x.f1.length c1] := ⟨[.string x.f0], [.slice A1 x.f1.length c1], rfl, rfl, ⟨A1, c1, rfl, l1, g1⟩⟩
theorem k114_mkM (w : World) (base : Nat) (ok : Nat → Prop) (x : S114) {v1 : Value} (g1 : k154.R 154 w base ok v1 x.f1) : k114.M w base ok x [.string x.f0, v1] := ⟨[.string x.f0], [v1], rfl, rfl, ⟨v1, rfl, g1⟩⟩
theorem k114_openF {W : World} {ok : Nat → Prop} {x : S114} {cs : List Value} (h : Kd.FK k114 W ok x cs) : ∃ A1 c1, cs = [.string x.f0, .slice A1 x.f1.length c1] ∧ x.f1.length ≤ c1 ∧ Kd.F k154 W ok A1 x.f1.length x.f1 := by
  obtain ⟨A1, c1, rfl, l1, _⟩ := k114_open (Kd.FK_now h)
  exact ⟨A1, c1, rfl, l1, (fun W' hW => by obtain ⟨A1_, c1_, he, l1_, g1_⟩ := k114_open (h W' hW); injection (Option.some.inj (show some (Value.slice A1 x.f1.length c1) = some (Value.slice A1_ x.f1.length c1_) from congrArg (fun l => l[1]?) he)) with ha_ _ _; rw [ha_]; exact g1_)⟩
theorem k114_mkF (W : World) (ok : Nat → Prop) (x : S114) {A1 : Option Addr} {c1 : Nat} (l1 : x.f1.length ≤ c1) (g1 : Kd.F k154 W ok A1 x.f1.length x.f1) : Kd.FK k114 W ok x [.string x.f0, .slice A1 x.f1.length c1] := fun W2 hW => k114_mk W2 x l1 (g1 W2 hW)
def rd_T114 (xs : List S114) (i : Int) : S114 := xs.getD i.toNat z114
theorem at_T114 {w : World} {A : Option Addr} {n : Nat} {xs : List S114} (h : Kd.C k114 w A n xs) (i : Int) (h0 : 0 ≤ i) (h1 : i < n) : ∃ ad A1 c1, A = some ad ∧ w.cell? (ad.add (i.toNat * 2)) = some (.string (rd_T114 xs i).f0) ∧ w.cell? ⟨(ad.add (i.toNat * 2)).block, (ad.add (i.toNat * 2)).off + 1, none⟩ = some (.slice A1 (rd_T114 xs i).f1.length c1) ∧ (rd_T114 xs i).f1.length ≤ c1 ∧ k154.C w A1 (rd_T114 xs i).f1.length (rd_T114 xs i).f1 := by
  obtain ⟨ad, c, e, _, hK, hc0⟩ := Kd.C_get h z114 i h0 h1
  have hc : ∀ j u, c[j]? = some u → w.cell? (ad.add (i.toNat * 2 + j)) = some u := hc0
  obtain ⟨A1, c1, rfl, l1, g1⟩ := k114_open hK
  exact ⟨ad, A1, c1, e, hc 0 _ rfl, by rw [← add_field _ _ 1 (by omega)]; exact hc 1 _ rfl, l1, g1⟩

def rd_L6 (xs : List (List S114)) (i : Int) : (List S114) := xs.getD i.toNat ([] : List S114)
theorem at_L6 {w : World} {A : Option Addr} {n : Nat} {xs : List (List S114)} (h : Kd.C (Kd.slice 114 k114) w A n xs) (i : Int) (h0 : 0 ≤ i) (h1 : i < n) : ∃ ad A0 c0, A = some ad ∧ w.cell? (ad.add i.toNat) = some (.slice A0 (rd_L6 xs i).length c0) ∧ (rd_L6 xs i).length ≤ c0 ∧ k114.C w A0 (rd_L6 xs i).length (rd_L6 xs i) := by
  obtain ⟨ad, c, e, _, hK, hc0⟩ := Kd.C_get h ([] : List S114) i h0 h1
  have hc : ∀ j u, c[j]? = some u → w.cell? (ad.add (i.toNat * 1 + j)) = some u := hc0
  obtain ⟨A0, c0, rfl, l0, g0⟩ := hK
  exact ⟨ad, A0, c0, e, by have hq := hc 0 _ rfl; rwa [Nat.mul_one, Nat.add_zero] at hq, l0, g0⟩

def rd_L7 (xs : List (List (List S154))) (i : Int) : (List (List S154)) := xs.getD i.toNat ([] : List (List S154))
theorem at_L7 {w : World} {A : Option Addr} {n : Nat} {xs : List (List (List S154))} (h : Kd.C (Kd.slice 111 (Kd.slice 154 k154)) w A n xs) (i : Int) (h0 : 0 ≤ i) (h1 : i < n) : ∃ ad A0 c0, A = some ad ∧ w.cell? (ad.add i.toNat) = some (.slice A0 (rd_L7 xs i).length c0) ∧ (rd_L7 xs i).length ≤ c0 ∧ (Kd.slice 154 k154).C w A0 (rd_L7 xs i).length (rd_L7 xs i) := by
  obtain ⟨ad, c, e, _, hK, hc0⟩ := Kd.C_get h ([] : List (List S154)) i h0 h1
  have hc : ∀ j u, c[j]? = some u → w.cell? (ad.add (i.toNat * 1 + j)) = some u := hc0
  obtain ⟨A0, c0, rfl, l0, g0⟩ := hK
  exact ⟨ad, A0, c0, e, by have hq := hc 0 _ rfl; rwa [Nat.mul_one, Nat.add_zero] at hq, l0, g0⟩

def rd_L8 (xs : List (List Bool)) (i : Int) : (List Bool) := xs.getD i.toNat ([] : List Bool)
theorem at_L8 {w : World} {A : Option Addr} {n : Nat} {xs : List (List Bool)} (h : Kd.C (Kd.slice 4 Kd.bool) w A n xs) (i : Int) (h0 : 0 ≤ i) (h1 : i < n) : ∃ ad A0 c0, A = some ad ∧ w.cell? (ad.add i.toNat) = some (.slice A0 (rd_L8 xs i).length c0) ∧ (rd_L8 xs i).length ≤ c0 ∧ Kd.bool.C w A0 (rd_L8 xs i).length (rd_L8 xs i) := by
  obtain ⟨ad, c, e, _, hK, hc0⟩ := Kd.C_get h ([] : List Bool) i h0 h1
  have hc : ∀ j u, c[j]? = some u → w.cell? (ad.add (i.toNat * 1 + j)) = some u := hc0
  obtain ⟨A0, c0, rfl, l0, g0⟩ := hK
  exact ⟨ad, A0, c0, e, by have hq := hc 0 _ rfl; rwa [Nat.mul_one, Nat.add_zero] at hq, l0, g0⟩

/-! #### struct type 52, nested in itself -/
structure C116 (N : Type) where
  f0 : (List (List S154))
  f1 : List N
structure S52 where
  f0 : Int
  f1 : ByteArray
  f2 : Bool
  f3 : (List S114)
  f4 : (List (List S154))
  f5 : (List S52)
  f6 : (List Bool)
  f7 : (List (C116 S52))
abbrev S116 := C116 S52
def G116 (d : Kd S52) : Kd S116 := Kd.iso (Kd.pair (Kd.slice 111 (Kd.slice 154 k154)) (Kd.slice 52 d)) (fun x : S116 => (x.f0, x.f1))
theorem monoG116 : Kd.Mono G116 := Kd.mono_iso _ (Kd.mono_pair (Kd.mono_const _) (Kd.mono_slice 52 Kd.mono_id))
def z52 : S52 := ⟨(0 : Int), (⟨#[]⟩ : ByteArray), false, ([] : List S114), ([] : List (List S154)), ([] : List S52), ([] : List Bool), ([] : List (C116 S52))⟩
def F52 (d : Kd S52) : Kd S52 := Kd.iso (Kd.pair (Kd.int .i64) (Kd.pair Kd.string (Kd.pair Kd.bool (Kd.pair (Kd.slice 114 k114) (Kd.pair (Kd.slice 111 (Kd.slice 154 k154)) (Kd.pair (Kd.slice 52 d) (Kd.pair (Kd.slice 4 Kd.bool) (Kd.slice 116 (G116 d))))))))) (fun x : S52 => (x.f0, x.f1, x.f2, x.f3, x.f4, x.f5, x.f6, x.f7))
theorem mono52 : Kd.Mono F52 := Kd.mono_iso _ (Kd.mono_pair (Kd.mono_const _) (Kd.mono_pair (Kd.mono_const _) (Kd.mono_pair (Kd.mono_const _) (Kd.mono_pair (Kd.mono_const _) (Kd.mono_pair (Kd.mono_const _) (Kd.mono_pair (Kd.mono_slice 52 Kd.mono_id) (Kd.mono_pair (Kd.mono_const _) (Kd.mono_slice 116 monoG116))))))))
theorem sub52 : Kd.Sub F52 [4, 52, 111, 114, 116, 154] := Kd.sub_iso _ (Kd.sub_pair (Kd.sub_const _ (by decide)) (Kd.sub_pair (Kd.sub_const _ (by decide)) (Kd.sub_pair (Kd.sub_const _ (by decide)) (Kd.sub_pair (Kd.sub_const _ (by decide)) (Kd.sub_pair (Kd.sub_const _ (by decide)) (Kd.sub_pair (Kd.sub_slice 52 (by decide) Kd.sub_id) (Kd.sub_pair (Kd.sub_const _ (by decide)) (Kd.sub_slice 116 (by decide) (Kd.sub_iso _ (Kd.sub_pair (Kd.sub_const _ (by decide)) (Kd.sub_slice 52 (by decide) Kd.sub_id)))))))))))
theorem sz52 : ∀ n, (Kd.upto F52 8 [4, 52, 111, 114, 116, 154] n).sz = 8 := Kd.upto_sz (fun _ => rfl)
def k52 : Kd S52 := Kd.fix F52 8 [4, 52, 111, 114, 116, 154] sz52 (Kd.upto_E sub52)
def k116 : Kd S116 := G116 k52
theorem contG116 : Nest.Cont F52 8 [4, 52, 111, 114, 116, 154] sz52 (Kd.upto_E sub52) G116 := Nest.cont_iso _ (Nest.cont_pair mono52 (Kd.mono_const _) (Kd.mono_slice 52 Kd.mono_id) (Nest.cont_const _) (Nest.cont_slice 52 mono52 Kd.mono_id Nest.cont_id))
theorem k52_heap : Kd.Heap k52 := Kd.heap_fix (fun _ h_ => Kd.heap_iso _ (Kd.heap_pair (Kd.heap_int .i64) (Kd.heap_pair Kd.heap_string (Kd.heap_pair Kd.heap_bool (Kd.heap_pair (Kd.heap_slice 114 k114_heap) (Kd.heap_pair (Kd.heap_slice 111 (Kd.heap_slice 154 k154_heap)) (Kd.heap_pair (Kd.heap_slice 52 h_) (Kd.heap_pair (Kd.heap_slice 4 Kd.heap_bool) (Kd.heap_slice 116 (Kd.heap_iso _ (Kd.heap_pair (Kd.heap_slice 111 (Kd.heap_slice 154 k154_heap)) (Kd.heap_slice 52 h_))))))))))))
theorem k52_open {w : World} {x : S52} {cs : List Value} (h : k52.K w x cs) : ∃ A3 c3 A4 c4 A5 c5 A6 c6 A7 c7, cs = [.int .i64 x.f0, .string x.f1, .bool x.f2, .slice A3 x.f3.length c3, .slice A4 x.f4.length c4, .slice A5 x.f5.length c5, .slice A6 x.f6.length c6, .slice A7 x.f7.length c7] ∧ x.f3.length ≤ c3 ∧ k114.C w A3 x.f3.length x.f3 ∧ x.f4.length ≤ c4 ∧ (Kd.slice 154 k154).C w A4 x.f4.length x.f4 ∧ x.f5.length ≤ c5 ∧ k52.C w A5 x.f5.length x.f5 ∧ x.f6.length ≤ c6 ∧ Kd.bool.C w A6 x.f6.length x.f6 ∧ x.f7.length ≤ c7 ∧ k116.C w A7 x.f7.length x.f7 := by
  obtain ⟨n, h⟩ := h
  cases n with
  | zero => exact h.elim
  | succ n =>
    obtain ⟨_, _, rfl, rfl, ⟨_, _, rfl, rfl, ⟨_, _, rfl, rfl, ⟨_, _, rfl, ⟨A3, c3, rfl, l3, g3⟩, ⟨_, _, rfl, ⟨A4, c4, rfl, l4, g4⟩, ⟨_, _, rfl, ⟨A5, c5, rfl, l5, g5⟩, ⟨_, _, rfl, ⟨A6, c6, rfl, l6, g6⟩, ⟨A7, c7, rfl, l7, g7⟩⟩⟩⟩⟩⟩⟩⟩ := h
    exact ⟨A3, c3, A4, c4, A5, c5, A6, c6, A7, c7, rfl, l3, g3, l4, g4, l5, Kd.fix_C g5, l6, g6, l7, Nest.fixG_C monoG116 g7⟩
theorem k52_openM {w : World} {base : Nat} {ok : Nat → Prop} {x : S52} {cs : List Value} (h : k52.M w base ok x cs) : ∃ v3 v4 v5 v6 v7, cs = [.int .i64 x.f0, .string x.f1, .bool x.f2, v3, v4, v5, v6, v7] ∧ k114.R 114 w base ok v3 x.f3 ∧ (Kd.slice 154 k154).R 111 w base ok v4 x.f4 ∧ k52.R 52 w base ok v5 x.f5 ∧ Kd.bool.R 4 w base ok v6 x.f6 ∧ k116.R 116 w base ok v7 x.f7 := by
  obtain ⟨n, h⟩ := h
  cases n with
  | zero => exact h.elim
  | succ n =>
    obtain ⟨_, _, rfl, rfl, ⟨_, _, rfl, rfl, ⟨_, _, rfl, rfl, ⟨_, _, rfl, ⟨v3, rfl, g3⟩, ⟨_, _, rfl, ⟨v4, rfl, g4⟩, ⟨_, _, rfl, ⟨v5, rfl, g5⟩, ⟨_, _, rfl, ⟨v6, rfl, g6⟩, ⟨v7, rfl, g7⟩⟩⟩⟩⟩⟩⟩⟩ := h
    exact ⟨v3, v4, v5, v6, v7, rfl, g3, g4, Kd.fix_R g5, g6, Nest.fixG_R monoG116 g7⟩
theorem k52_mk (w : World) (x : S52) {A3 : Option Addr} {c3 : Nat} (l3 : x.f3.length ≤ c3) (g3 : k114.C w A3 x.f3.length x.f3) {A4 : Option Addr} {c4 : Nat} (l4 : x.f4.length ≤ c4) (g4 : (Kd.slice 154 k154).C w A4 x.f4.length x.f4) {A5 : Option Addr} {c5 : Nat} (l5 : x.f5.length ≤ c5) (g5 : k52.C w A5 x.f5.length x.f5) {A6 : Option Addr} {c6 : Nat} (l6 : x.f6.length ≤ c6) (g6 : Kd.bool.C w A6 x.f6.length x.f6) {A7 : Option Addr} {c7 : Nat} (l7 : x.f7.length ≤ c7) (g7 : k116.C w A7 x.f7.length x.f7) : k52.K w x [.int .i64 x.f0, .string x.f1, .bool x.f2, .slice A3 x.f3.length c3, .slice A4 x.f4.length c4, .slice A5 x.f5.length c5, .slice A6 x.f6.length c6, .slice A7 x.f7.length c7] := by
  obtain ⟨n5, q5⟩ := Kd.fix_C_back mono52 g5
  obtain ⟨n7, q7⟩ := Nest.back_C mono52 monoG116 contG116 g7
  have r5 := Kd.upto_C_le mono52 sz52 (show n5 ≤ (max n5 n7) by omega) q5
  have r7 := Nest.le_C mono52 sz52 monoG116 (show n7 ≤ (max n5 n7) by omega) q7
  exact ⟨(max n5 n7) + 1, ⟨[.int .i64 x.f0], [.string x.f1, .bool x.f2, .slice A3 x.f3.length c3, .slice A4 x.f4.length c4, .slice A5 x.f5.length c5, .slice A6 x.f6.length c6, .slice A7 x.f7.length c7], rfl, rfl, ⟨[.string x.f1], [.bool x.f2, .slice A3 x.f3.length c3, .slice A4 x.f4.length c4, .slice A5 x.f5.length c5, .slice A6 x.f6.length c6, .slice A7 x.f7.length c7], rfl, rfl, ⟨[.bool x.f2], [.slice A3 x.f3.length c3, .slice A4 x.f4.length c4, .slice A5 x.f5.length c5, .slice A6 x.f6.length c6, .slice A7 x.f7.length c7], rfl, rfl, ⟨[.slice A3 x.f3.length c3], [.slice A4 x.f4.length c4, .slice A5 x.f5.length c5, .slice A6 x.f6.length c6, .slice A7 x.f7.length c7], rfl, ⟨A3, c3, rfl, l3, g3⟩, ⟨[.slice A4 x.f4.length c4], [.slice A5 x.f5.length c5, .slice A6 x.f6.length c6, .slice A7 x.f7.length c7], rfl, ⟨A4, c4, rfl, l4, g4⟩, ⟨[.slice A5 x.f5.length c5], [.slice A6 x.f6.length c6, .slice A7 x.f7.length c7], rfl, ⟨A5, c5, rfl, l5, r5⟩, ⟨[.slice A6 x.f6.length c6], [.slice A7 x.f7.length c7], rfl, ⟨A6, c6, rfl, l6, g6⟩, ⟨A7, c7, rfl, l7, r7⟩⟩⟩⟩⟩⟩⟩⟩⟩
theorem k52_mkM (w : World) (base : Nat) (ok : Nat → Prop) (x : S52) {v3 : Value} (g3 : k114.R 114 w base ok v3 x.f3) {v4 : Value} (g4 : (Kd.slice 154 k154).R 111 w base ok v4 x.f4) {v5 : Value} (g5 : k52.R 52 w base ok v5 x.f5) {v6 : Value} (g6 : Kd.bool.R 4 w base ok v6 x.f6) {v7 : Value} (g7 : k116.R 116 w base ok v7 x.f7) : k52.M w base ok x [.int .i64 x.f0, .string x.f1, .bool x.f2, v3, v4, v5, v6, v7] := by
  obtain ⟨n5, q5⟩ := Kd.fix_R_back mono52 g5
  obtain ⟨n7, q7⟩ := Nest.back_R mono52 monoG116 contG116 g7
  have r5 := Kd.upto_R_le mono52 sz52 (show n5 ≤ (max n5 n7) by omega) q5
  have r7 := Nest.le_R mono52 sz52 monoG116 (show n7 ≤ (max n5 n7) by omega) q7
  exact ⟨(max n5 n7) + 1, ⟨[.int .i64 x.f0], [.string x.f1, .bool x.f2, v3, v4, v5, v6, v7], rfl, rfl, ⟨[.string x.f1], [.bool x.f2, v3, v4, v5, v6, v7], rfl, rfl, ⟨[.bool x.f2], [v3, v4, v5, v6, v7], rfl, rfl, ⟨[v3], [v4, v5, v6, v7], rfl, ⟨v3, rfl, g3⟩, ⟨[v4], [v5, v6, v7], rfl, ⟨v4, rfl, g4⟩, ⟨[v5], [v6, v7], rfl, ⟨v5, rfl, r5⟩, ⟨[v6], [v7], rfl, ⟨v6, rfl, g6⟩, ⟨v7, rfl, r7⟩⟩⟩⟩⟩⟩⟩⟩⟩
theorem k52_openF {W : World} {ok : Nat → Prop} {x : S52} {cs : List Value} (h : Kd.FK k52 W ok x cs) : ∃ A3 c3 A4 c4 A5 c5 A6 c6 A7 c7, cs = [.int .i64 x.f0, .string x.f1, .bool x.f2, .slice A3 x.f3.length c3, .slice A4 x.f4.length c4, .slice A5 x.f5.length c5, .slice A6 x.f6.length c6, .slice A7 x.f7.length c7] ∧ x.f3.length ≤ c3 ∧ Kd.F k114 W ok A3 x.f3.length x.f3 ∧ x.f4.length ≤ c4 ∧ Kd.F (Kd.slice 154 k154) W ok A4 x.f4.length x.f4 ∧ x.f5.length ≤ c5 ∧ Kd.F k52 W ok A5 x.f5.length x.f5 ∧ x.f6.length ≤ c6 ∧ Kd.F Kd.bool W ok A6 x.f6.length x.f6 ∧ x.f7.length ≤ c7 ∧ Kd.F k116 W ok A7 x.f7.length x.f7 := by
  obtain ⟨A3, c3, A4, c4, A5, c5, A6, c6, A7, c7, rfl, l3, _, l4, _, l5, _, l6, _, l7, _⟩ := k52_open (Kd.FK_now h)
  exact ⟨A3, c3, A4, c4, A5, c5, A6, c6, A7, c7, rfl, l3, (fun W' hW => by obtain ⟨A3_, c3_, A4_, c4_, A5_, c5_, A6_, c6_, A7_, c7_, he, l3_, g3_, l4_, g4_, l5_, g5_, l6_, g6_, l7_, g7_⟩ := k52_open (h W' hW); injection (Option.some.inj (show some (Value.slice A3 x.f3.length c3) = some (Value.slice A3_ x.f3.length c3_) from congrArg (fun l => l[3]?) he)) with ha_ _ _; rw [ha_]; exact g3_), l4, (fun W' hW => by obtain ⟨A3_, c3_, A4_, c4_, A5_, c5_, A6_, c6_, A7_, c7_, he, l3_, g3_, l4_, g4_, l5_, g5_, l6_, g6_, l7_, g7_⟩ := k52_open (h W' hW); injection (Option.some.inj (show some (Value.slice A4 x.f4.length c4) = some (Value.slice A4_ x.f4.length c4_) from congrArg (fun l => l[4]?) he)) with ha_ _ _; rw [ha_]; exact g4_), l5, (fun W' hW => by obtain ⟨A3_, c3_, A4_, c4_, A5_, c5_, A6_, c6_, A7_, c7_, he, l3_, g3_, l4_, g4_, l5_, g5_, l6_, g6_, l7_, g7_⟩ := k52_open (h W' hW); injection (Option.some.inj (show some (Value.slice A5 x.f5.length c5) = some (Value.slice A5_ x.f5.length c5_) from congrArg (fun l => l[5]?) he)) with ha_ _ _; rw [ha_]; exact g5_), l6, (fun W' hW => by obtain ⟨A3_, c3_, A4_, c4_, A5_, c5_, A6_, c6_, A7_, c7_, he, l3_, g3_, l4_, g4_, l5_, g5_, l6_, g6_, l7_, g7_⟩ := k52_open (h W' hW); injection (Option.some.inj (show some (Value.slice A6 x.f6.length c6) = some (Value.slice A6_ x.f6.length c6_) from congrArg (fun l => l[6]?) he)) with ha_ _ _; rw [ha_]; exact g6_), l7, (fun W' hW => by obtain ⟨A3_, c3_, A4_, c4_, A5_, c5_, A6_, c6_, A7_, c7_, he, l3_, g3_, l4_, g4_, l5_, g5_, l6_, g6_, l7_, g7_⟩ := k52_open (h W' hW); injection (Option.some.inj (show some (Value.slice A7 x.f7.length c7) = some (Value.slice A7_ x.f7.length c7_) from congrArg (fun l => l[7]?) he)) with ha_ _ _; rw [ha_]; exact g7_)⟩
theorem k52_mkF (W : World) (ok : Nat → Prop) (x : S52) {A3 : Option Addr} {c3 : Nat} (l3 : x.f3.length ≤ c3) (g3 : Kd.F k114 W ok A3 x.f3.length x.f3) {A4 : Option Addr} {c4 : Nat} (l4 : x.f4.length ≤ c4) (g4 : Kd.F (Kd.slice 154 k154) W ok A4 x.f4.length x.f4) {A5 : Option Addr} {c5 : Nat} (l5 : x.f5.length ≤ c5) (g5 : Kd.F k52 W ok A5 x.f5.length x.f5) {A6 : Option Addr} {c6 : Nat} (l6 : x.f6.length ≤ c6) (g6 : Kd.F Kd.bool W ok A6 x.f6.length x.f6) {A7 : Option Addr} {c7 : Nat} (l7 : x.f7.length ≤ c7) (g7 : Kd.F k116 W ok A7 x.f7.length x.f7) : Kd.FK k52 W ok x [.int .i64 x.f0, .string x.f1, .bool x.f2, .slice A3 x.f3.length c3, .slice A4 x.f4.length c4, .slice A5 x.f5.length c5, .slice A6 x.f6.length c6, .slice A7 x.f7.length c7] := fun W2 hW => k52_mk W2 x l3 (g3 W2 hW) l4 (g4 W2 hW) l5 (g5 W2 hW) l6 (g6 W2 hW) l7 (g7 W2 hW)
def rd_T52 (xs : List S52) (i : Int) : S52 := xs.getD i.toNat z52
theorem at_T52 {w : World} {A : Option Addr} {n : Nat} {xs : List S52} (h : Kd.C k52 w A n xs) (i : Int) (h0 : 0 ≤ i) (h1 : i < n) : ∃ ad A3 c3 A4 c4 A5 c5 A6 c6 A7 c7, A = some ad ∧ w.cell? (ad.add (i.toNat * 8)) = some (.int .i64 (rd_T52 xs i).f0) ∧ w.cell? ⟨(ad.add (i.toNat * 8)).block, (ad.add (i.toNat * 8)).off + 1, none⟩ = some (.string (rd_T52 xs i).f1) ∧ w.cell? ⟨(ad.add (i.toNat * 8)).block, (ad.add (i.toNat * 8)).off + 2, none⟩ = some (.bool (rd_T52 xs i).f2) ∧ w.cell? ⟨(ad.add (i.toNat * 8)).block, (ad.add (i.toNat * 8)).off + 3, none⟩ = some (.slice A3 (rd_T52 xs i).f3.length c3) ∧ w.cell? ⟨(ad.add (i.toNat * 8)).block, (ad.add (i.toNat * 8)).off + 4, none⟩ = some (.slice A4 (rd_T52 xs i).f4.length c4) ∧ w.cell? ⟨(ad.add (i.toNat * 8)).block, (ad.add (i.toNat * 8)).off + 5, none⟩ = some (.slice A5 (rd_T52 xs i).f5.length c5) ∧ w.cell? ⟨(ad.add (i.toNat * 8)).block, (ad.add (i.toNat * 8)).off + 6, none⟩ = some (.slice A6 (rd_T52 xs i).f6.length c6) ∧ w.cell? ⟨(ad.add (i.toNat * 8)).block, (ad.add (i.toNat * 8)).off + 7, none⟩ = some (.slice A7 (rd_T52 xs i).f7.length c7) ∧ (rd_T52 xs i).f3.length ≤ c3 ∧ k114.C w A3 (rd_T52 xs i).f3.length (rd_T52 xs i).f3 ∧ (rd_T52 xs i).f4.length ≤ c4 ∧ (Kd.slice 154 k154).C w A4 (rd_T52 xs i).f4.length (rd_T52 xs i).f4 ∧ (rd_T52 xs i).f5.length ≤ c5 ∧ k52.C w A5 (rd_T52 xs i).f5.length (rd_T52 xs i).f5 ∧ (rd_T52 xs i).f6.length ≤ c6 ∧ Kd.bool.C w A6 (rd_T52 xs i).f6.length (rd_T52 xs i).f6 ∧ (rd_T52 xs i).f7.length ≤ c7 ∧ k116.C w A7 (rd_T52 xs i).f7.length (rd_T52 xs i).f7 := by
  obtain ⟨ad, c, e, _, hK, hc0⟩ := Kd.C_get h z52 i h0 h1
  have hc : ∀ j u, c[j]? = some u → w.cell? (ad.add (i.toNat * 8 + j)) = some u := hc0
  obtain ⟨A3, c3, A4, c4, A5, c5, A6, c6, A7, c7, rfl, l3, g3, l4, g4, l5, g5, l6, g6, l7, g7⟩ := k52_open hK
  exact ⟨ad, A3, c3, A4, c4, A5, c5, A6, c6, A7, c7, e, hc 0 _ rfl, by rw [← add_field _ _ 1 (by omega)]; exact hc 1 _ rfl, by rw [← add_field _ _ 2 (by omega)]; exact hc 2 _ rfl, by rw [← add_field _ _ 3 (by omega)]; exact hc 3 _ rfl, by rw [← add_field _ _ 4 (by omega)]; exact hc 4 _ rfl, by rw [← add_field _ _ 5 (by omega)]; exact hc 5 _ rfl, by rw [← add_field _ _ 6 (by omega)]; exact hc 6 _ rfl, by rw [← add_field _ _ 7 (by omega)]; exact hc 7 _ rfl, l3, g3, l4, g4, l5, g5, l6, g6, l7, g7⟩

def rd_L10 (xs : List (List S52)) (i : Int) : (List S52) := xs.getD i.toNat ([] : List S52)
theorem at_L10 {w : World} {A : Option Addr} {n : Nat} {xs : List (List S52)} (h : Kd.C (Kd.slice 52 k52) w A n xs) (i : Int) (h0 : 0 ≤ i) (h1 : i < n) : ∃ ad A0 c0, A = some ad ∧ w.cell? (ad.add i.toNat) = some (.slice A0 (rd_L10 xs i).length c0) ∧ (rd_L10 xs i).length ≤ c0 ∧ k52.C w A0 (rd_L10 xs i).length (rd_L10 xs i) := by
  obtain ⟨ad, c, e, _, hK, hc0⟩ := Kd.C_get h ([] : List S52) i h0 h1
  have hc : ∀ j u, c[j]? = some u → w.cell? (ad.add (i.toNat * 1 + j)) = some u := hc0
  obtain ⟨A0, c0, rfl, l0, g0⟩ := hK
  exact ⟨ad, A0, c0, e, by have hq := hc 0 _ rfl; rwa [Nat.mul_one, Nat.add_zero] at hq, l0, g0⟩

/-! #### struct type 116 -/
def z116 : S116 := ⟨([] : List (List S154)), ([] : List S52)⟩
theorem k116_eq : k116 = Kd.iso (Kd.pair (Kd.slice 111 (Kd.slice 154 k154)) (Kd.slice 52 k52)) (fun x : S116 => (x.f0, x.f1)) := rfl
theorem k116_heap : Kd.Heap k116 := Kd.heap_iso _ (Kd.heap_pair (Kd.heap_slice 111 (Kd.heap_slice 154 k154_heap)) (Kd.heap_slice 52 k52_heap))
theorem k116_open {w : World} {x : S116} {cs : List Value} (h : k116.K w x cs) : ∃ A0 c0 A1 c1, cs = [.slice A0 x.f0.length c0, .slice A1 x.f1.length c1] ∧ x.f0.length ≤ c0 ∧ (Kd.slice 154 k154).C w A0 x.f0.length x.f0 ∧ x.f1.length ≤ c1 ∧ k52.C w A1 x.f1.length x.f1 := by
  obtain ⟨_, _, rfl, ⟨A0, c0, rfl, l0, g0⟩, ⟨A1, c1, rfl, l1, g1⟩⟩ := h
  exact ⟨A0, c0, A1, c1, rfl, l0, g0, l1, g1⟩
theorem k116_openM {w : World} {base : Nat} {ok : Nat → Prop} {x : S116} {cs : List Value} (h : k116.M w base ok x cs) : ∃ v0 v1, cs = [v0, v1] ∧ (Kd.slice 154 k154).R 111 w base ok v0 x.f0 ∧ k52.R 52 w base ok v1 x.f1 := by
  obtain ⟨_, _, rfl, ⟨v0, rfl, g0⟩, ⟨v1, rfl, g1⟩⟩ := h
  exact ⟨v0, v1, rfl, g0, g1⟩
theorem k116_mk (w : World) (x : S116) {A0 : Option Addr} {c0 : Nat} (l0 : x.f0.length ≤ c0) (g0 : (Kd.slice 154 k154).C w A0 x.f0.length x.f0) {A1 : Option Addr} {c1 : Nat} (l1 : x.f1.length ≤ c1) (g1 : k52.C w A1 x.f1.length x.f1) : k116.K w x [.slice A0 x.f0.length c0, .slice A1 x.f1.length c1] := ⟨[.slice A0 x.f0.length c0], [.slice A1 x.f1.length c1], rfl, ⟨A0, c0, rfl, l0, g0⟩, ⟨A1, c1, rfl, l1, g1⟩⟩
theorem k116_mkM (w : World) (base : Nat) (ok : Nat → Prop) (x : S116) {v0 : Value} (g0 : (Kd.slice 154 k154).R 111 w base ok v0 x.f0) {v1 : Value} (g1 : k52.R 52 w base ok v1 x.f1) : k116.M w base ok x [v0, v1] := ⟨[v0], [v1], rfl, ⟨v0, rfl, g0⟩, ⟨v1, rfl, g1⟩⟩
theorem k116_openF {W : World} {ok : Nat → Prop} {x : S116} {cs : List Value} (h : Kd.FK k116 W ok x cs) : ∃ A0 c0 A1 c1, cs = [.slice A0 x.f0.length c0, .slice A1 x.f1.length c1] ∧ x.f0.length ≤ c0 ∧ Kd.F (Kd.slice 154 k154) W ok A0 x.f0.length x.f0 ∧ x.f1.length ≤ c1 ∧ Kd.F k52 W ok A1 x.f1.length x.f1 := by
  obtain ⟨A0, c0, A1, c1, rfl, l0, _, l1, _⟩ := k116_open (Kd.FK_now h)
  exact ⟨A0, c0, A1, c1, rfl, l0, (fun W' hW => by obtain ⟨A0_, c0_, A1_, c1_, he, l0_, g0_, l1_, g1_⟩ := k116_open (h W' hW); injection (Option.some.inj (show some (Value.slice A0 x.f0.length c0) = some (Value.slice A0_ x.f0.length c0_) from congrArg (fun l => l[0]?) he)) with ha_ _ _; rw [ha_]; exact g0_), l1, (fun W' hW => by obtain ⟨A0_, c0_, A1_, c1_, he, l0_, g0_, l1_, g1_⟩ := k116_open (h W' hW); injection (Option.some.inj (show some (Value.slice A1 x.f1.length c1) = some (Value.slice A1_ x.f1.length c1_) from congrArg (fun l => l[1]?) he)) with ha_ _ _; rw [ha_]; exact g1_)⟩
theorem k116_mkF (W : World) (ok : Nat → Prop) (x : S116) {A0 : Option Addr} {c0 : Nat} (l0 : x.f0.length ≤ c0) (g0 : Kd.F (Kd.slice 154 k154) W ok A0 x.f0.length x.f0) {A1 : Option Addr} {c1 : Nat} (l1 : x.f1.length ≤ c1) (g1 : Kd.F k52 W ok A1 x.f1.length x.f1) : Kd.FK k116 W ok x [.slice A0 x.f0.length c0, .slice A1 x.f1.length c1] := fun W2 hW => k116_mk W2 x l0 (g0 W2 hW) l1 (g1 W2 hW)
def rd_T116 (xs : List S116) (i : Int) : S116 := xs.getD i.toNat z116
theorem at_T116 {w : World} {A : Option Addr} {n : Nat} {xs : List S116} (h : Kd.C k116 w A n xs) (i : Int) (h0 : 0 ≤ i) (h1 : i < n) : ∃ ad A0 c0 A1 c1, A = some ad ∧ w.cell? (ad.add (i.toNat * 2)) = some (.slice A0 (rd_T116 xs i).f0.length c0) ∧ w.cell? ⟨(ad.add (i.toNat * 2)).block, (ad.add (i.toNat * 2)).off + 1, none⟩ = some (.slice A1 (rd_T116 xs i).f1.length c1) ∧ (rd_T116 xs i).f0.length ≤ c0 ∧ (Kd.slice 154 k154).C w A0 (rd_T116 xs i).f0.length (rd_T116 xs i).f0 ∧ (rd_T116 xs i).f1.length ≤ c1 ∧ k52.C w A1 (rd_T116 xs i).f1.length (rd_T116 xs i).f1 := by
  obtain ⟨ad, c, e, _, hK, hc0⟩ := Kd.C_get h z116 i h0 h1
  have hc : ∀ j u, c[j]? = some u → w.cell? (ad.add (i.toNat * 2 + j)) = some u := hc0
  obtain ⟨A0, c0, A1, c1, rfl, l0, g0, l1, g1⟩ := k116_open hK
  exact ⟨ad, A0, c0, A1, c1, e, hc 0 _ rfl, by rw [← add_field _ _ 1 (by omega)]; exact hc 1 _ rfl, l0, g0, l1, g1⟩

def rd_L12 (xs : List (List ByteArray)) (i : Int) : (List ByteArray) := xs.getD i.toNat ([] : List ByteArray)
theorem at_L12 {w : World} {A : Option Addr} {n : Nat} {xs : List (List ByteArray)} (h : Kd.C (Kd.slice 9 Kd.string) w A n xs) (i : Int) (h0 : 0 ≤ i) (h1 : i < n) : ∃ ad A0 c0, A = some ad ∧ w.cell? (ad.add i.toNat) = some (.slice A0 (rd_L12 xs i).length c0) ∧ (rd_L12 xs i).length ≤ c0 ∧ Kd.string.C w A0 (rd_L12 xs i).length (rd_L12 xs i) := by
  obtain ⟨ad, c, e, _, hK, hc0⟩ := Kd.C_get h ([] : List ByteArray) i h0 h1
  have hc : ∀ j u, c[j]? = some u → w.cell? (ad.add (i.toNat * 1 + j)) = some u := hc0
  obtain ⟨A0, c0, rfl, l0, g0⟩ := hK
  exact ⟨ad, A0, c0, e, by have hq := hc 0 _ rfl; rwa [Nat.mul_one, Nat.add_zero] at hq, l0, g0⟩

def rd_L13 (xs : List (List Int)) (i : Int) : (List Int) := xs.getD i.toNat ([] : List Int)
theorem at_L13 {w : World} {A : Option Addr} {n : Nat} {xs : List (List Int)} (h : Kd.C (Kd.slice 3 (Kd.int .i64)) w A n xs) (i : Int) (h0 : 0 ≤ i) (h1 : i < n) : ∃ ad A0 c0, A = some ad ∧ w.cell? (ad.add i.toNat) = some (.slice A0 (rd_L13 xs i).length c0) ∧ (rd_L13 xs i).length ≤ c0 ∧ (Kd.int .i64).C w A0 (rd_L13 xs i).length (rd_L13 xs i) := by
  obtain ⟨ad, c, e, _, hK, hc0⟩ := Kd.C_get h ([] : List Int) i h0 h1
  have hc : ∀ j u, c[j]? = some u → w.cell? (ad.add (i.toNat * 1 + j)) = some u := hc0
  obtain ⟨A0, c0, rfl, l0, g0⟩ := hK
  exact ⟨ad, A0, c0, e, by have hq := hc 0 _ rfl; rwa [Nat.mul_one, Nat.add_zero] at hq, l0, g0⟩

/-! #### struct type 60 -/
structure S60 where
  f0 : Int
  f1 : S52
  f2 : Int
  f3 : Int
  f4 : Bool
  f5 : (List ByteArray)
  f6 : (List Int)
def z60 : S60 := ⟨(0 : Int), z52, (0 : Int), (0 : Int), false, ([] : List ByteArray), ([] : List Int)⟩
def k60 : Kd S60 := Kd.iso (Kd.pair (Kd.int .i64) (Kd.pair k52 (Kd.pair (Kd.int .i64) (Kd.pair (Kd.int .i64) (Kd.pair Kd.bool (Kd.pair (Kd.slice 9 Kd.string) (Kd.slice 3 (Kd.int .i64)))))))) (fun x : S60 => (x.f0, x.f1, x.f2, x.f3, x.f4, x.f5, x.f6))
theorem k60_heap : Kd.Heap k60 := Kd.heap_iso _ (Kd.heap_pair (Kd.heap_int .i64) (Kd.heap_pair k52_heap (Kd.heap_pair (Kd.heap_int .i64) (Kd.heap_pair (Kd.heap_int .i64) (Kd.heap_pair Kd.heap_bool (Kd.heap_pair (Kd.heap_slice 9 Kd.heap_string) (Kd.heap_slice 3 (Kd.heap_int .i64))))))))
theorem k60_open {w : World} {x : S60} {cs : List Value} (h : k60.K w x cs) : ∃ A4 c4 A5 c5 A6 c6 A7 c7 A8 c8 A12 c12 A13 c13, cs = [.int .i64 x.f0, .int .i64 x.f1.f0, .string x.f1.f1, .bool x.f1.f2, .slice A4 x.f1.f3.length c4, .slice A5 x.f1.f4.length c5, .slice A6 x.f1.f5.length c6, .slice A7 x.f1.f6.length c7, .slice A8 x.f1.f7.length c8, .int .i64 x.f2, .int .i64 x.f3, .bool x.f4, .slice A12 x.f5.length c12, .slice A13 x.f6.length c13] ∧ x.f1.f3.length ≤ c4 ∧ k114.C w A4 x.f1.f3.length x.f1.f3 ∧ x.f1.f4.length ≤ c5 ∧ (Kd.slice 154 k154).C w A5 x.f1.f4.length x.f1.f4 ∧ x.f1.f5.length ≤ c6 ∧ k52.C w A6 x.f1.f5.length x.f1.f5 ∧ x.f1.f6.length ≤ c7 ∧ Kd.bool.C w A7 x.f1.f6.length x.f1.f6 ∧ x.f1.f7.length ≤ c8 ∧ k116.C w A8 x.f1.f7.length x.f1.f7 ∧ x.f5.length ≤ c12 ∧ Kd.string.C w A12 x.f5.length x.f5 ∧ x.f6.length ≤ c13 ∧ (Kd.int .i64).C w A13 x.f6.length x.f6 := by
  obtain ⟨_, _, rfl, rfl, ⟨_, _, rfl, s1, ⟨_, _, rfl, rfl, ⟨_, _, rfl, rfl, ⟨_, _, rfl, rfl, ⟨_, _, rfl, ⟨A12, c12, rfl, l12, g12⟩, ⟨A13, c13, rfl, l13, g13⟩⟩⟩⟩⟩⟩⟩ := h
  obtain ⟨A4, c4, A5, c5, A6, c6, A7, c7, A8, c8, rfl, l4, g4, l5, g5, l6, g6, l7, g7, l8, g8⟩ := k52_open s1
  exact ⟨A4, c4, A5, c5, A6, c6, A7, c7, A8, c8, A12, c12, A13, c13, rfl, l4, g4, l5, g5, l6, g6, l7, g7, l8, g8, l12, g12, l13, g13⟩
theorem k60_openM {w : World} {base : Nat} {ok : Nat → Prop} {x : S60} {cs : List Value} (h : k60.M w base ok x cs) : ∃ v4 v5 v6 v7 v8 v12 v13, cs = [.int .i64 x.f0, .int .i64 x.f1.f0, .string x.f1.f1, .bool x.f1.f2, v4, v5, v6, v7, v8, .int .i64 x.f2, .int .i64 x.f3, .bool x.f4, v12, v13] ∧ k114.R 114 w base ok v4 x.f1.f3 ∧ (Kd.slice 154 k154).R 111 w base ok v5 x.f1.f4 ∧ k52.R 52 w base ok v6 x.f1.f5 ∧ Kd.bool.R 4 w base ok v7 x.f1.f6 ∧ k116.R 116 w base ok v8 x.f1.f7 ∧ Kd.string.R 9 w base ok v12 x.f5 ∧ (Kd.int .i64).R 3 w base ok v13 x.f6 := by
  obtain ⟨_, _, rfl, rfl, ⟨_, _, rfl, s1, ⟨_, _, rfl, rfl, ⟨_, _, rfl, rfl, ⟨_, _, rfl, rfl, ⟨_, _, rfl, ⟨v12, rfl, g12⟩, ⟨v13, rfl, g13⟩⟩⟩⟩⟩⟩⟩ := h
  obtain ⟨v4, v5, v6, v7, v8, rfl, g4, g5, g6, g7, g8⟩ := k52_openM s1
  exact ⟨v4, v5, v6, v7, v8, v12, v13, rfl, g4, g5, g6, g7, g8, g12, g13⟩
theorem k60_mk (w : World) (x : S60) {A4 : Option Addr} {c4 : Nat} (l4 : x.f1.f3.length ≤ c4) (g4 : k114.C w A4 x.f1.f3.length x.f1.f3) {A5 : Option Addr} {c5 : Nat} (l5 : x.f1.f4.length ≤ c5) (g5 : (Kd.slice 154 k154).C w A5 x.f1.f4.length x.f1.f4) {A6 : Option Addr} {c6 : Nat} (l6 : x.f1.f5.length ≤ c6) (g6 : k52.C w A6 x.f1.f5.length x.f1.f5) {A7 : Option Addr} {c7 : Nat} (l7 : x.f1.f6.length ≤ c7) (g7 : Kd.bool.C w A7 x.f1.f6.length x.f1.f6) {A8 : Option Addr} {c8 : Nat} (l8 : x.f1.f7.length ≤ c8) (g8 : k116.C w A8 x.f1.f7.length x.f1.f7) {A12 : Option Addr} {c12 : Nat} (l12 : x.f5.length ≤ c12) (g12 : Kd.string.C w A12 x.f5.length x.f5) {A13 : Option Addr} {c13 : Nat} (l13 : x.f6.length ≤ c13) (g13 : (Kd.int .i64).C w A13 x.f6.length x.f6) : k60.K w x [.int .i64 x.f0, .int .i64 x.f1.f0, .string x.f1.f1, .bool x.f1.f2, .slice A4 x.f1.f3.length c4, .slice A5 x.f1.f4.length c5, .slice A6 x.f1.f5.length c6, .slice A7 x.f1.f6.length c7, .slice A8 x.f1.f7.length c8, .int .i64 x.f2, .int .i64 x.f3, .bool x.f4, .slice A12 x.f5.length c12, .slice A13 x.f6.length c13] := ⟨[.int .i64 x.f0], [.int .i64 x.f1.f0, .string x.f1.f1, .bool x.f1.f2, .slice A4 x.f1.f3.length c4, .slice A5 x.f1.f4.length c5, .slice A6 x.f1.f5.length c6, .slice A7 x.f1.f6.length c7, .slice A8 x.f1.f7.length c8, .int .i64 x.f2, .int .i64 x.f3, .bool x.f4, .slice A12 x.f5.length c12, .slice A13 x.f6.length c13], rfl, rfl, ⟨[.int .i64 x.f1.f0, .string x.f1.f1, .bool x.f1.f2, .slice A4 x.f1.f3.length c4, .slice A5 x.f1.f4.length c5, .slice A6 x.f1.f5.length c6, .slice A7 x.f1.f6.length c7, .slice A8 x.f1.f7.length c8], [.int .i64 x.f2, .int .i64 x.f3, .bool x.f4, .slice A12 x.f5.length c12, .slice A13 x.f6.length c13], rfl, (k52_mk w x.f1 l4 g4 l5 g5 l6 g6 l7 g7 l8 g8), ⟨[.int .i64 x.f2], [.int .i64 x.f3, .bool x.f4, .slice A12 x.f5.length c12, .slice A13 x.f6.length c13], rfl, rfl, ⟨[.int .i64 x.f3], [.bool x.f4, .slice A12 x.f5.length c12, .slice A13 x.f6.length c13], rfl, rfl, ⟨[.bool x.f4], [.slice A12 x.f5.length c12, .slice A13 x.f6.length c13], rfl, rfl, ⟨[.slice A12 x.f5.length c12], [.slice A13 x.f6.length c13], rfl, ⟨A12, c12, rfl, l12, g12⟩, ⟨A13, c13, rfl, l13, g13⟩⟩⟩⟩⟩⟩⟩
theorem k60_mkM (w : World) (base : Nat) (ok : Nat → Prop) (x : S60) {v4 : Value} (g4 : k114.R 114 w base ok v4 x.f1.f3) {v5 : Value} (g5 : (Kd.slice 154 k154).R 111 w base ok v5 x.f1.f4) {v6 : Value} (g6 : k52.R 52 w base ok v6 x.f1.f5) {v7 : Value} (g7 : Kd.bool.R 4 w base ok v7 x.f1.f6) {v8 : Value} (g8 : k116.R 116 w base ok v8 x.f1.f7) {v12 : Value} (g12 : Kd.string.R 9 w base ok v12 x.f5) {v13 : Value} (g13 : (Kd.int .i64).R 3 w base ok v13 x.f6) : k60.M w base ok x [.int .i64 x.f0, .int .i64 x.f1.f0, .string x.f1.f1, .bool x.f1.f2, v4, v5, v6, v7, v8, .int .i64 x.f2, .int .i64 x.f3, .bool x.f4, v12, v13] := ⟨[.int .i64 x.f0], [.int .i64 x.f1.f0, .string x.f1.f1, .bool x.f1.f2, v4, v5, v6, v7, v8, .int .i64 x.f2, .int .i64 x.f3, .bool x.f4, v12, v13], rfl, rfl, ⟨[.int .i64 x.f1.f0, .string x.f1.f1, .bool x.f1.f2, v4, v5, v6, v7, v8], [.int .i64 x.f2, .int .i64 x.f3, .bool x.f4, v12, v13], rfl, (k52_mkM w base ok x.f1 g4 g5 g6 g7 g8), ⟨[.int .i64 x.f2], [.int .i64 x.f3, .bool x.f4, v12, v13], rfl, rfl, ⟨[.int .i64 x.f3], [.bool x.f4, v12, v13], rfl, rfl, ⟨[.bool x.f4], [v12, v13], rfl, rfl, ⟨[v12], [v13], rfl, ⟨v12, rfl, g12⟩, ⟨v13, rfl, g13⟩⟩⟩⟩⟩⟩⟩
theorem k60_openF {W : World} {ok : Nat → Prop} {x : S60} {cs : List Value} (h : Kd.FK k60 W ok x cs) : ∃ A4 c4 A5 c5 A6 c6 A7 c7 A8 c8 A12 c12 A13 c13, cs = [.int .i64 x.f0, .int .i64 x.f1.f0, .string x.f1.f1, .bool x.f1.f2, .slice A4 x.f1.f3.length c4, .slice A5 x.f1.f4.length c5, .slice A6 x.f1.f5.length c6, .slice A7 x.f1.f6.length c7, .slice A8 x.f1.f7.length c8, .int .i64 x.f2, .int .i64 x.f3, .bool x.f4, .slice A12 x.f5.length c12, .slice A13 x.f6.length c13] ∧ x.f1.f3.length ≤ c4 ∧ Kd.F k114 W ok A4 x.f1.f3.length x.f1.f3 ∧ x.f1.f4.length ≤ c5 ∧ Kd.F (Kd.slice 154 k154) W ok A5 x.f1.f4.length x.f1.f4 ∧ x.f1.f5.length ≤ c6 ∧ Kd.F k52 W ok A6 x.f1.f5.length x.f1.f5 ∧ x.f1.f6.length ≤ c7 ∧ Kd.F Kd.bool W ok A7 x.f1.f6.length x.f1.f6 ∧ x.f1.f7.length ≤ c8 ∧ Kd.F k116 W ok A8 x.f1.f7.length x.f1.f7 ∧ x.f5.length ≤ c12 ∧ Kd.F Kd.string W ok A12 x.f5.length x.f5 ∧ x.f6.length ≤ c13 ∧ Kd.F (Kd.int .i64) W ok A13 x.f6.length x.f6 := by
  obtain ⟨A4, c4, A5, c5, A6, c6, A7, c7, A8, c8, A12, c12, A13, c13, rfl, l4, _, l5, _, l6, _, l7, _, l8, _, l12, _, l13, _⟩ := k60_open (Kd.FK_now h)
  exact ⟨A4, c4, A5, c5, A6, c6, A7, c7, A8, c8, A12, c12, A13, c13, rfl, l4, (fun W' hW => by obtain ⟨A4_, c4_, A5_, c5_, A6_, c6_, A7_, c7_, A8_, c8_, A12_, c12_, A13_, c13_, he, l4_, g4_, l5_, g5_, l6_, g6_, l7_, g7_, l8_, g8_, l12_, g12_, l13_, g13_⟩ := k60_open (h W' hW); injection (Option.some.inj (show some (Value.slice A4 x.f1.f3.length c4) = some (Value.slice A4_ x.f1.f3.length c4_) from congrArg (fun l => l[4]?) he)) with ha_ _ _; rw [ha_]; exact g4_), l5, (fun W' hW => by obtain ⟨A4_, c4_, A5_, c5_, A6_, c6_, A7_, c7_, A8_, c8_, A12_, c12_, A13_, c13_, he, l4_, g4_, l5_, g5_, l6_, g6_, l7_, g7_, l8_, g8_, l12_, g12_, l13_, g13_⟩ := k60_open (h W' hW); injection (Option.some.inj (show some (Value.slice A5 x.f1.f4.length c5) = some (Value.slice A5_ x.f1.f4.length c5_) from congrArg (fun l => l[5]?) he)) with ha_ _ _; rw [ha_]; exact g5_), l6, (fun W' hW => by obtain ⟨A4_, c4_, A5_, c5_, A6_, c6_, A7_, c7_, A8_, c8_, A12_, c12_, A13_, c13_, he, l4_, g4_, l5_, g5_, l6_, g6_, l7_, g7_, l8_, g8_, l12_, g12_, l13_, g13_⟩ := k60_open (h W' hW); injection (Option.some.inj (show some (Value.slice A6 x.f1.f5.length c6) = some (Value.slice A6_ x.f1.f5.length c6_) from congrArg (fun l => l[6]?) he)) with ha_ _ _; rw [ha_]; exact g6_), l7, (fun W' hW => by obtain ⟨A4_, c4_, A5_, c5_, A6_, c6_, A7_, c7_, A8_, c8_, A12_, c12_, A13_, c13_, he, l4_, g4_, l5_, g5_, l6_, g6_, l7_, g7_, l8_, g8_, l12_, g12_, l13_, g13_⟩ := k60_open (h W' hW); injection (Option.some.inj (show some (Value.slice A7 x.f1.f6.length c7) = some (Value.slice A7_ x.f1.f6.length c7_) from congrArg (fun l => l[7]?) he)) with ha_ _ _; rw [ha_]; exact g7_), l8, (fun W' hW => by obtain ⟨A4_, c4_, A5_, c5_, A6_, c6_, A7_, c7_, A8_, c8_, A12_, c12_, A13_, c13_, he, l4_, g4_, l5_, g5_, l6_, g6_, l7_, g7_, l8_, g8_, l12_, g12_, l13_, g13_⟩ := k60_open (h W' hW); injection (Option.some.inj (show some (Value.slice A8 x.f1.f7.length c8) = some (Value.slice A8_ x.f1.f7.length c8_) from congrArg (fun l => l[8]?) he)) with ha_ _ _; rw [ha_]; exact g8_), l12, (fun W' hW => by obtain ⟨A4_, c4_, A5_, c5_, A6_, c6_, A7_, c7_, A8_, c8_, A12_, c12_, A13_, c13_, he, l4_, g4_, l5_, g5_, l6_, g6_, l7_, g7_, l8_, g8_, l12_, g12_, l13_, g13_⟩ := k60_open (h W' hW); injection (Option.some.inj (show some (Value.slice A12 x.f5.length c12) = some (Value.slice A12_ x.f5.length c12_) from congrArg (fun l => l[12]?) he)) with ha_ _ _; rw [ha_]; exact g12_), l13, (fun W' hW => by obtain ⟨A4_, c4_, A5_, c5_, A6_, c6_, A7_, c7_, A8_, c8_, A12_, c12_, A13_, c13_, he, l4_, g4_, l5_, g5_, l6_, g6_, l7_, g7_, l8_, g8_, l12_, g12_, l13_, g13_⟩ := k60_open (h W' hW); injection (Option.some.inj (show some (Value.slice A13 x.f6.length c13) = some (Value.slice A13_ x.f6.length c13_) from congrArg (fun l => l[13]?) he)) with ha_ _ _; rw [ha_]; exact g13_)⟩
theorem k60_mkF (W : World) (ok : Nat → Prop) (x : S60) {A4 : Option Addr} {c4 : Nat} (l4 : x.f1.f3.length ≤ c4) (g4 : Kd.F k114 W ok A4 x.f1.f3.length x.f1.f3) {A5 : Option Addr} {c5 : Nat} (l5 : x.f1.f4.length ≤ c5) (g5 : Kd.F (Kd.slice 154 k154) W ok A5 x.f1.f4.length x.f1.f4) {A6 : Option Addr} {c6 : Nat} (l6 : x.f1.f5.length ≤ c6) (g6 : Kd.F k52 W ok A6 x.f1.f5.length x.f1.f5) {A7 : Option Addr} {c7 : Nat} (l7 : x.f1.f6.length ≤ c7) (g7 : Kd.F Kd.bool W ok A7 x.f1.f6.length x.f1.f6) {A8 : Option Addr} {c8 : Nat} (l8 : x.f1.f7.length ≤ c8) (g8 : Kd.F k116 W ok A8 x.f1.f7.length x.f1.f7) {A12 : Option Addr} {c12 : Nat} (l12 : x.f5.length ≤ c12) (g12 : Kd.F Kd.string W ok A12 x.f5.length x.f5) {A13 : Option Addr} {c13 : Nat} (l13 : x.f6.length ≤ c13) (g13 : Kd.F (Kd.int .i64) W ok A13 x.f6.length x.f6) : Kd.FK k60 W ok x [.int .i64 x.f0, .int .i64 x.f1.f0, .string x.f1.f1, .bool x.f1.f2, .slice A4 x.f1.f3.length c4, .slice A5 x.f1.f4.length c5, .slice A6 x.f1.f5.length c6, .slice A7 x.f1.f6.length c7, .slice A8 x.f1.f7.length c8, .int .i64 x.f2, .int .i64 x.f3, .bool x.f4, .slice A12 x.f5.length c12, .slice A13 x.f6.length c13] := fun W2 hW => k60_mk W2 x l4 (g4 W2 hW) l5 (g5 W2 hW) l6 (g6 W2 hW) l7 (g7 W2 hW) l8 (g8 W2 hW) l12 (g12 W2 hW) l13 (g13 W2 hW)
def rd_T60 (xs : List S60) (i : Int) : S60 := xs.getD i.toNat z60
theorem at_T60 {w : World} {A : Option Addr} {n : Nat} {xs : List S60} (h : Kd.C k60 w A n xs) (i : Int) (h0 : 0 ≤ i) (h1 : i < n) : ∃ ad A4 c4 A5 c5 A6 c6 A7 c7 A8 c8 A12 c12 A13 c13, A = some ad ∧ w.cell? (ad.add (i.toNat * 14)) = some (.int .i64 (rd_T60 xs i).f0) ∧ w.cell? ⟨(ad.add (i.toNat * 14)).block, (ad.add (i.toNat * 14)).off + 1, none⟩ = some (.int .i64 (rd_T60 xs i).f1.f0) ∧ w.cell? ⟨(ad.add (i.toNat * 14)).block, (ad.add (i.toNat * 14)).off + 2, none⟩ = some (.string (rd_T60 xs i).f1.f1) ∧ w.cell? ⟨(ad.add (i.toNat * 14)).block, (ad.add (i.toNat * 14)).off + 3, none⟩ = some (.bool (rd_T60 xs i).f1.f2) ∧ w.cell? ⟨(ad.add (i.toNat * 14)).block, (ad.add (i.toNat * 14)).off + 4, none⟩ = some (.slice A4 (rd_T60 xs i).f1.f3.length c4) ∧ w.cell? ⟨(ad.add (i.toNat * 14)).block, (ad.add (i.toNat * 14)).off + 5, none⟩ = some (.slice A5 (rd_T60 xs i).f1.f4.length c5) ∧ w.cell? ⟨(ad.add (i.toNat * 14)).block, (ad.add (i.toNat * 14)).off + 6, none⟩ = some (.slice A6 (rd_T60 xs i).f1.f5.length c6) ∧ w.cell? ⟨(ad.add (i.toNat * 14)).block, (ad.add (i.toNat * 14)).off + 7, none⟩ = some (.slice A7 (rd_T60 xs i).f1.f6.length c7) ∧ w.cell? ⟨(ad.add (i.toNat * 14)).block, (ad.add (i.toNat * 14)).off + 8, none⟩ = some (.slice A8 (rd_T60 xs i).f1.f7.length c8) ∧ w.cell? ⟨(ad.add (i.toNat * 14)).block, (ad.add (i.toNat * 14)).off + 9, none⟩ = some (.int .i64 (rd_T60 xs i).f2) ∧ w.cell? ⟨(ad.add (i.toNat * 14)).block, (ad.add (i.toNat * 14)).off + 10, none⟩ = some (.int .i64 (rd_T60 xs i).f3) ∧ w.cell? ⟨(ad.add (i.toNat * 14)).block, (ad.add (i.toNat * 14)).off + 11, none⟩ = some (.bool (rd_T60 xs i).f4) ∧ w.cell? ⟨(ad.add (i.toNat * 14)).block, (ad.add (i.toNat * 14)).off + 12, none⟩ = some (.slice A12 (rd_T60 xs i).f5.length c12) ∧ w.cell? ⟨(ad.add (i.toNat * 14)).block, (ad.add (i.toNat * 14)).off + 13, none⟩ = some (.slice A13 (rd_T60 xs i).f6.length c13) ∧ (rd_T60 xs i).f1.f3.length ≤ c4 ∧ k114.C w A4 (rd_T60 xs i).f1.f3.length (rd_T60 xs i).f1.f3 ∧ (rd_T60 xs i).f1.f4.length ≤ c5 ∧ (Kd.slice 154 k154).C w A5 (rd_T60 xs i).f1.f4.length (rd_T60 xs i).f1.f4 ∧ (rd_T60 xs i).f1.f5.length ≤ c6 ∧ k52.C w A6 (rd_T60 xs i).f1.f5.length (rd_T60 xs i).f1.f5 ∧ (rd_T60 xs i).f1.f6.length ≤ c7 ∧ Kd.bool.C w A7 (rd_T60 xs i).f1.f6.length (rd_T60 xs i).f1.f6 ∧ (rd_T60 xs i).f1.f7.length ≤ c8 ∧ k116.C w A8 (rd_T60 xs i).f1.f7.length (rd_T60 xs i).f1.f7 ∧ (rd_T60 xs i).f5.length ≤ c12 ∧ Kd.string.C w A12 (rd_T60 xs i).f5.length (rd_T60 xs i).f5 ∧ (rd_T60 xs i).f6.length ≤ c13 ∧ (Kd.int .i64).C w A13 (rd_T60 xs i).f6.length (rd_T60 xs i).f6 := by
  obtain ⟨ad, c, e, _, hK, hc0⟩ := Kd.C_get h z60 i h0 h1
  have hc : ∀ j u, c[j]? = some u → w.cell? (ad.add (i.toNat * 14 + j)) = some u := hc0
  obtain ⟨A4, c4, A5, c5, A6, c6, A7, c7, A8, c8, A12, c12, A13, c13, rfl, l4, g4, l5, g5, l6, g6, l7, g7, l8, g8, l12, g12, l13, g13⟩ := k60_open hK
  exact ⟨ad, A4, c4, A5, c5, A6, c6, A7, c7, A8, c8, A12, c12, A13, c13, e, hc 0 _ rfl, by rw [← add_field _ _ 1 (by omega)]; exact hc 1 _ rfl, by rw [← add_field _ _ 2 (by omega)]; exact hc 2 _ rfl, by rw [← add_field _ _ 3 (by omega)]; exact hc 3 _ rfl, by rw [← add_field _ _ 4 (by omega)]; exact hc 4 _ rfl, by rw [← add_field _ _ 5 (by omega)]; exact hc 5 _ rfl, by rw [← add_field _ _ 6 (by omega)]; exact hc 6 _ rfl, by rw [← add_field _ _ 7 (by omega)]; exact hc 7 _ rfl, by rw [← add_field _ _ 8 (by omega)]; exact hc 8 _ rfl, by rw [← add_field _ _ 9 (by omega)]; exact hc 9 _ rfl, by rw [← add_field _ _ 10 (by omega)]; exact hc 10 _ rfl, by rw [← add_field _ _ 11 (by omega)]; exact hc 11 _ rfl, by rw [← add_field _ _ 12 (by omega)]; exact hc 12 _ rfl, by rw [← add_field _ _ 13 (by omega)]; exact hc 13 _ rfl, l4, g4, l5, g5, l6, g6, l7, g7, l8, g8, l12, g12, l13, g13⟩

/-! #### struct type 74 -/
structure S74 where
  f0 : Int
  f1 : S52
  f2 : Int
  f3 : Int
  f4 : Bool
  f5 : (List ByteArray)
  f6 : (List Int)
def z74 : S74 := ⟨(0 : Int), z52, (0 : Int), (0 : Int), false, ([] : List ByteArray), ([] : List Int)⟩
def k74 : Kd S74 := Kd.iso (Kd.pair (Kd.int .i64) (Kd.pair k52 (Kd.pair (Kd.int .i64) (Kd.pair (Kd.int .i64) (Kd.pair Kd.bool (Kd.pair (Kd.slice 9 Kd.string) (Kd.slice 3 (Kd.int .i64)))))))) (fun x : S74 => (x.f0, x.f1, x.f2, x.f3, x.f4, x.f5, x.f6))
theorem k74_heap : Kd.Heap k74 := Kd.heap_iso _ (Kd.heap_pair (Kd.heap_int .i64) (Kd.heap_pair k52_heap (Kd.heap_pair (Kd.heap_int .i64) (Kd.heap_pair (Kd.heap_int .i64) (Kd.heap_pair Kd.heap_bool (Kd.heap_pair (Kd.heap_slice 9 Kd.heap_string) (Kd.heap_slice 3 (Kd.heap_int .i64))))))))
theorem k74_open {w : World} {x : S74} {cs : List Value} (h : k74.K w x cs) : ∃ A4 c4 A5 c5 A6 c6 A7 c7 A8 c8 A12 c12 A13 c13, cs = [.int .i64 x.f0, .int .i64 x.f1.f0, .string x.f1.f1, .bool x.f1.f2, .slice A4 x.f1.f3.length c4, .slice A5 x.f1.f4.length c5, .slice A6 x.f1.f5.length c6, .slice A7 x.f1.f6.length c7, .slice A8 x.f1.f7.length c8, .int .i64 x.f2, .int .i64 x.f3, .bool x.f4, .slice A12 x.f5.length c12, .slice A13 x.f6.length c13] ∧ x.f1.f3.length ≤ c4 ∧ k114.C w A4 x.f1.f3.length x.f1.f3 ∧ x.f1.f4.length ≤ c5 ∧ (Kd.slice 154 k154).C w A5 x.f1.f4.length x.f1.f4 ∧ x.f1.f5.length ≤ c6 ∧ k52.C w A6 x.f1.f5.length x.f1.f5 ∧ x.f1.f6.length ≤ c7 ∧ Kd.bool.C w A7 x.f1.f6.length x.f1.f6 ∧ x.f1.f7.length ≤ c8 ∧ k116.C w A8 x.f1.f7.length x.f1.f7 ∧ x.f5.length ≤ c12 ∧ Kd.string.C w A12 x.f5.length x.f5 ∧ x.f6.length ≤ c13 ∧ (Kd.int .i64).C w A13 x.f6.length x.f6 := by
  obtain ⟨_, _, rfl, rfl, ⟨_, _, rfl, s1, ⟨_, _, rfl, rfl, ⟨_, _, rfl, rfl, ⟨_, _, rfl, rfl, ⟨_, _, rfl, ⟨A12, c12, rfl, l12, g12⟩, ⟨A13, c13, rfl, l13, g13⟩⟩⟩⟩⟩⟩⟩ := h
  obtain ⟨A4, c4, A5, c5, A6, c6, A7, c7, A8, c8, rfl, l4, g4, l5, g5, l6, g6, l7, g7, l8, g8⟩ := k52_open s1
  exact ⟨A4, c4, A5, c5, A6, c6, A7, c7, A8, c8, A12, c12, A13, c13, rfl, l4, g4, l5, g5, l6, g6, l7, g7, l8, g8, l12, g12, l13, g13⟩
theorem k74_openM {w : World} {base : Nat} {ok : Nat → Prop} {x : S74} {cs : List Value} (h : k74.M w base ok x cs) : ∃ v4 v5 v6 v7 v8 v12 v13, cs = [.int .i64 x.f0, .int .i64 x.f1.f0, .string x.f1.f1, .bool x.f1.f2, v4, v5, v6, v7, v8, .int .i64 x.f2, .int .i64 x.f3, .bool x.f4, v12, v13] ∧ k114.R 114 w base ok v4 x.f1.f3 ∧ (Kd.slice 154 k154).R 111 w base ok v5 x.f1.f4 ∧ k52.R 52 w base ok v6 x.f1.f5 ∧ Kd.bool.R 4 w base ok v7 x.f1.f6 ∧ k116.R 116 w base ok v8 x.f1.f7 ∧ Kd.string.R 9 w base ok v12 x.f5 ∧ (Kd.int .i64).R 3 w base ok v13 x.f6 := by
  obtain ⟨_, _, rfl, rfl, ⟨_, _, rfl, s1, ⟨_, _, rfl, rfl, ⟨_, _, rfl, rfl, ⟨_, _, rfl, rfl, ⟨_, _, rfl, ⟨v12, rfl, g12⟩, ⟨v13, rfl, g13⟩⟩⟩⟩⟩⟩⟩ := h
  obtain ⟨v4, v5, v6, v7, v8, rfl, g4, g5, g6, g7, g8⟩ := k52_openM s1
  exact ⟨v4, v5, v6, v7, v8, v12, v13, rfl, g4, g5, g6, g7, g8, g12, g13⟩
theorem k74_mk (w : World) (x : S74) {A4 : Option Addr} {c4 : Nat} (l4 : x.f1.f3.length ≤ c4) (g4 : k114.C w A4 x.f1.f3.length x.f1.f3) {A5 : Option Addr} {c5 : Nat} (l5 : x.f1.f4.length ≤ c5) (g5 : (Kd.slice 154 k154).C w A5 x.f1.f4.length x.f1.f4) {A6 : Option Addr} {c6 : Nat} (l6 : x.f1.f5.length ≤ c6) (g6 : k52.C w A6 x.f1.f5.length x.f1.f5) {A7 : Option Addr} {c7 : Nat} (l7 : x.f1.f6.length ≤ c7) (g7 : Kd.bool.C w A7 x.f1.f6.length x.f1.f6) {A8 : Option Addr} {c8 : Nat} (l8 : x.f1.f7.length ≤ c8) (g8 : k116.C w A8 x.f1.f7.length x.f1.f7) {A12 : Option Addr} {c12 : Nat} (l12 : x.f5.length ≤ c12) (g12 : Kd.string.C w A12 x.f5.length x.f5) {A13 : Option Addr} {c13 : Nat} (l13 : x.f6.length ≤ c13) (g13 : (Kd.int .i64).C w A13 x.f6.length x.f6) : k74.K w x [.int .i64 x.f0, .int .i64 x.f1.f0, .string x.f1.f1, .bool x.f1.f2, .slice A4 x.f1.f3.length c4, .slice A5 x.f1.f4.length c5, .slice A6 x.f1.f5.length c6, .slice A7 x.f1.f6.length c7, .slice A8 x.f1.f7.length c8, .int .i64 x.f2, .int .i64 x.f3, .bool x.f4, .slice A12 x.f5.length c12, .slice A13 x.f6.length c13] := ⟨[.int .i64 x.f0], [.int .i64 x.f1.f0, .string x.f1.f1, .bool x.f1.f2, .slice A4 x.f1.f3.length c4, .slice A5 x.f1.f4.length c5, .slice A6 x.f1.f5.length c6, .slice A7 x.f1.f6.length c7, .slice A8 x.f1.f7.length c8, .int .i64 x.f2, .int .i64 x.f3, .bool x.f4, .slice A12 x.f5.length c12, .slice A13 x.f6.length c13], rfl, rfl, ⟨[.int .i64 x.f1.f0, .string x.f1.f1, .bool x.f1.f2, .slice A4 x.f1.f3.length c4, .slice A5 x.f1.f4.length c5, .slice A6 x.f1.f5.length c6, .slice A7 x.f1.f6.length c7, .slice A8 x.f1.f7.length c8], [.int .i64 x.f2, .int .i64 x.f3, .bool x.f4, .slice A12 x.f5.length c12, .slice A13 x.f6.length c13], rfl, (k52_mk w x.f1 l4 g4 l5 g5 l6 g6 l7 g7 l8 g8), ⟨[.int .i64 x.f2], [.int .i64 x.f3, .bool x.f4, .slice A12 x.f5.length c12, .slice A13 x.f6.length c13], rfl, rfl, ⟨[.int .i64 x.f3], [.bool x.f4, .slice A12 x.f5.length c12, .slice A13 x.f6.length c13], rfl, rfl, ⟨[.bool x.f4], [.slice A12 x.f5.length c12, .slice A13 x.f6.length c13], rfl, rfl, ⟨[.slice A12 x.f5.length c12], [.slice A13 x.f6.length c13], rfl, ⟨A12, c12, rfl, l12, g12⟩, ⟨A13, c13, rfl, l13, g13⟩⟩⟩⟩⟩⟩⟩
theorem k74_mkM (w : World) (base : Nat) (ok : Nat → Prop) (x : S74) {v4 : Value} (g4 : k114.R 114 w base ok v4 x.f1.f3) {v5 : Value} (g5 : (Kd.slice 154 k154).R 111 w base ok v5 x.f1.f4) {v6 : Value} (g6 : k52.R 52 w base ok v6 x.f1.f5) {v7 : Value} (g7 : Kd.bool.R 4 w base ok v7 x.f1.f6) {v8 : Value} (g8 : k116.R 116 w base ok v8 x.f1.f7) {v12 : Value} (g12 : Kd.string.R 9 w base ok v12 x.f5) {v13 : Value} (g13 : (Kd.int .i64).R 3 w base ok v13 x.f6) : k74.M w base ok x [.int .i64 x.f0, .int .i64 x.f1.f0, .string x.f1.f1, .bool x.f1.f2, v4, v5, v6, v7, v8, .int .i64 x.f2, .int .i64 x.f3, .bool x.f4, v12, v13] := ⟨[.int .i64 x.f0], [.int .i64 x.f1.f0, .string x.f1.f1, .bool x.f1.f2, v4, v5, v6, v7, v8, .int .i64 x.f2, .int .i64 x.f3, .bool x.f4, v12, v13], rfl, rfl, ⟨[.int .i64 x.f1.f0, .string x.f1.f1, .bool x.f1.f2, v4, v5, v6, v7, v8], [.int .i64 x.f2, .int .i64 x.f3, .bool x.f4, v12, v13], rfl, (k52_mkM w base ok x.f1 g4 g5 g6 g7 g8), ⟨[.int .i64 x.f2], [.int .i64 x.f3, .bool x.f4, v12, v13], rfl, rfl, ⟨[.int .i64 x.f3], [.bool x.f4, v12, v13], rfl, rfl, ⟨[.bool x.f4], [v12, v13], rfl, rfl, ⟨[v12], [v13], rfl, ⟨v12, rfl, g12⟩, ⟨v13, rfl, g13⟩⟩⟩⟩⟩⟩⟩
theorem k74_openF {W : World} {ok : Nat → Prop} {x : S74} {cs : List Value} (h : Kd.FK k74 W ok x cs) : ∃ A4 c4 A5 c5 A6 c6 A7 c7 A8 c8 A12 c12 A13 c13, cs = [.int .i64 x.f0, .int .i64 x.f1.f0, .string x.f1.f1, .bool x.f1.f2, .slice A4 x.f1.f3.length c4, .slice A5 x.f1.f4.length c5, .slice A6 x.f1.f5.length c6, .slice A7 x.f1.f6.length c7, .slice A8 x.f1.f7.length c8, .int .i64 x.f2, .int .i64 x.f3, .bool x.f4, .slice A12 x.f5.length c12, .slice A13 x.f6.length c13] ∧ x.f1.f3.length ≤ c4 ∧ Kd.F k114 W ok A4 x.f1.f3.length x.f1.f3 ∧ x.f1.f4.length ≤ c5 ∧ Kd.F (Kd.slice 154 k154) W ok A5 x.f1.f4.length x.f1.f4 ∧ x.f1.f5.length ≤ c6 ∧ Kd.F k52 W ok A6 x.f1.f5.length x.f1.f5 ∧ x.f1.f6.length ≤ c7 ∧ Kd.F Kd.bool W ok A7 x.f1.f6.length x.f1.f6 ∧ x.f1.f7.length ≤ c8 ∧ Kd.F k116 W ok A8 x.f1.f7.length x.f1.f7 ∧ x.f5.length ≤ c12 ∧ Kd.F Kd.string W ok A12 x.f5.length x.f5 ∧ x.f6.length ≤ c13 ∧ Kd.F (Kd.int .i64) W ok A13 x.f6.length x.f6 := by
  obtain ⟨A4, c4, A5, c5, A6, c6, A7, c7, A8, c8, A12, c12, A13, c13, rfl, l4, _, l5, _, l6, _, l7, _, l8, _, l12, _, l13, _⟩ := k74_open (Kd.FK_now h)
  exact ⟨A4, c4, A5, c5, A6, c6, A7, c7, A8, c8, A12, c12, A13, c13, rfl, l4, (fun W' hW => by obtain ⟨A4_, c4_, A5_, c5_, A6_, c6_, A7_, c7_, A8_, c8_, A12_, c12_, A13_, c13_, he, l4_, g4_, l5_, g5_, l6_, g6_, l7_, g7_, l8_, g8_, l12_, g12_, l13_, g13_⟩ := k74_open (h W' hW); injection (Option.some.inj (show some (Value.slice A4 x.f1.f3.length c4) = some (Value.slice A4_ x.f1.f3.length c4_) from congrArg (fun l => l[4]?) he)) with ha_ _ _; rw [ha_]; exact g4_), l5, (fun W' hW => by obtain ⟨A4_, c4_, A5_, c5_, A6_, c6_, A7_, c7_, A8_, c8_, A12_, c12_, A13_, c13_, he, l4_, g4_, l5_, g5_, l6_, g6_, l7_, g7_, l8_, g8_, l12_, g12_, l13_, g13_⟩ := k74_open (h W' hW); injection (Option.some.inj (show some (Value.slice A5 x.f1.f4.length c5) = some (Value.slice A5_ x.f1.f4.length c5_) from congrArg (fun l => l[5]?) he)) with ha_ _ _; rw [ha_]; exact g5_), l6, (fun W' hW => by obtain ⟨A4_, c4_, A5_, c5_, A6_, c6_, A7_, c7_, A8_, c8_, A12_, c12_, A13_, c13_, he, l4_, g4_, l5_, g5_, l6_, g6_, l7_, g7_, l8_, g8_, l12_, g12_, l13_, g13_⟩ := k74_open (h W' hW); injection (Option.some.inj (show some (Value.slice A6 x.f1.f5.length c6) = some (Value.slice A6_ x.f1.f5.length c6_) from congrArg (fun l => l[6]?) he)) with ha_ _ _; rw [ha_]; exact g6_), l7, (fun W' hW => by obtain ⟨A4_, c4_, A5_, c5_, A6_, c6_, A7_, c7_, A8_, c8_, A12_, c12_, A13_, c13_, he, l4_, g4_, l5_, g5_, l6_, g6_, l7_, g7_, l8_, g8_, l12_, g12_, l13_, g13_⟩ := k74_open (h W' hW); injection (Option.some.inj (show some (Value.slice A7 x.f1.f6.length c7) = some (Value.slice A7_ x.f1.f6.length c7_) from congrArg (fun l => l[7]?) he)) with ha_ _ _; rw [ha_]; exact g7_), l8, (fun W' hW => by obtain ⟨A4_, c4_, A5_, c5_, A6_, c6_, A7_, c7_, A8_, c8_, A12_, c12_, A13_, c13_, he, l4_, g4_, l5_, g5_, l6_, g6_, l7_, g7_, l8_, g8_, l12_, g12_, l13_, g13_⟩ := k74_open (h W' hW); injection (Option.some.inj (show some (Value.slice A8 x.f1.f7.length c8) = some (Value.slice A8_ x.f1.f7.length c8_) from congrArg (fun l => l[8]?) he)) with ha_ _ _; rw [ha_]; exact g8_), l12, (fun W' hW => by obtain ⟨A4_, c4_, A5_, c5_, A6_, c6_, A7_, c7_, A8_, c8_, A12_, c12_, A13_, c13_, he, l4_, g4_, l5_, g5_, l6_, g6_, l7_, g7_, l8_, g8_, l12_, g12_, l13_, g13_⟩ := k74_open (h W' hW); injection (Option.some.inj (show some (Value.slice A12 x.f5.length c12) = some (Value.slice A12_ x.f5.length c12_) from congrArg (fun l => l[12]?) he)) with ha_ _ _; rw [ha_]; exact g12_), l13, (fun W' hW => by obtain ⟨A4_, c4_, A5_, c5_, A6_, c6_, A7_, c7_, A8_, c8_, A12_, c12_, A13_, c13_, he, l4_, g4_, l5_, g5_, l6_, g6_, l7_, g7_, l8_, g8_, l12_, g12_, l13_, g13_⟩ := k74_open (h W' hW); injection (Option.some.inj (show some (Value.slice A13 x.f6.length c13) = some (Value.slice A13_ x.f6.length c13_) from congrArg (fun l => l[13]?) he)) with ha_ _ _; rw [ha_]; exact g13_)⟩
theorem k74_mkF (W : World) (ok : Nat → Prop) (x : S74) {A4 : Option Addr} {c4 : Nat} (l4 : x.f1.f3.length ≤ c4) (g4 : Kd.F k114 W ok A4 x.f1.f3.length x.f1.f3) {A5 : Option Addr} {c5 : Nat} (l5 : x.f1.f4.length ≤ c5) (g5 : Kd.F (Kd.slice 154 k154) W ok A5 x.f1.f4.length x.f1.f4) {A6 : Option Addr} {c6 : Nat} (l6 : x.f1.f5.length ≤ c6) (g6 : Kd.F k52 W ok A6 x.f1.f5.length x.f1.f5) {A7 : Option Addr} {c7 : Nat} (l7 : x.f1.f6.length ≤ c7) (g7 : Kd.F Kd.bool W ok A7 x.f1.f6.length x.f1.f6) {A8 : Option Addr} {c8 : Nat} (l8 : x.f1.f7.length ≤ c8) (g8 : Kd.F k116 W ok A8 x.f1.f7.length x.f1.f7) {A12 : Option Addr} {c12 : Nat} (l12 : x.f5.length ≤ c12) (g12 : Kd.F Kd.string W ok A12 x.f5.length x.f5) {A13 : Option Addr} {c13 : Nat} (l13 : x.f6.length ≤ c13) (g13 : Kd.F (Kd.int .i64) W ok A13 x.f6.length x.f6) : Kd.FK k74 W ok x [.int .i64 x.f0, .int .i64 x.f1.f0, .string x.f1.f1, .bool x.f1.f2, .slice A4 x.f1.f3.length c4, .slice A5 x.f1.f4.length c5, .slice A6 x.f1.f5.length c6, .slice A7 x.f1.f6.length c7, .slice A8 x.f1.f7.length c8, .int .i64 x.f2, .int .i64 x.f3, .bool x.f4, .slice A12 x.f5.length c12, .slice A13 x.f6.length c13] := fun W2 hW => k74_mk W2 x l4 (g4 W2 hW) l5 (g5 W2 hW) l6 (g6 W2 hW) l7 (g7 W2 hW) l8 (g8 W2 hW) l12 (g12 W2 hW) l13 (g13 W2 hW)
def rd_T74 (xs : List S74) (i : Int) : S74 := xs.getD i.toNat z74
theorem at_T74 {w : World} {A : Option Addr} {n : Nat} {xs : List S74} (h : Kd.C k74 w A n xs) (i : Int) (h0 : 0 ≤ i) (h1 : i < n) : ∃ ad A4 c4 A5 c5 A6 c6 A7 c7 A8 c8 A12 c12 A13 c13, A = some ad ∧ w.cell? (ad.add (i.toNat * 14)) = some (.int .i64 (rd_T74 xs i).f0) ∧ w.cell? ⟨(ad.add (i.toNat * 14)).block, (ad.add (i.toNat * 14)).off + 1, none⟩ = some (.int .i64 (rd_T74 xs i).f1.f0) ∧ w.cell? ⟨(ad.add (i.toNat * 14)).block, (ad.add (i.toNat * 14)).off + 2, none⟩ = some (.string (rd_T74 xs i).f1.f1) ∧ w.cell? ⟨(ad.add (i.toNat * 14)).block, (ad.add (i.toNat * 14)).off + 3, none⟩ = some (.bool (rd_T74 xs i).f1.f2) ∧ w.cell? ⟨(ad.add (i.toNat * 14)).block, (ad.add (i.toNat * 14)).off + 4, none⟩ = some (.slice A4 (rd_T74 xs i).f1.f3.length c4) ∧ w.cell? ⟨(ad.add (i.toNat * 14)).block, (ad.add (i.toNat * 14)).off + 5, none⟩ = some (.slice A5 (rd_T74 xs i).f1.f4.length c5) ∧ w.cell? ⟨(ad.add (i.toNat * 14)).block, (ad.add (i.toNat * 14)).off + 6, none⟩ = some (.slice A6 (rd_T74 xs i).f1.f5.length c6) ∧ w.cell? ⟨(ad.add (i.toNat * 14)).block, (ad.add (i.toNat * 14)).off + 7, none⟩ = some (.slice A7 (rd_T74 xs i).f1.f6.length c7) ∧ w.cell? ⟨(ad.add (i.toNat * 14)).block, (ad.add (i.toNat * 14)).off + 8, none⟩ = some (.slice A8 (rd_T74 xs i).f1.f7.length c8) ∧ w.cell? ⟨(ad.add (i.toNat * 14)).block, (ad.add (i.toNat * 14)).off + 9, none⟩ = some (.int .i64 (rd_T74 xs i).f2) ∧ w.cell? ⟨(ad.add (i.toNat * 14)).block, (ad.add (i.toNat * 14)).off + 10, none⟩ = some (.int .i64 (rd_T74 xs i).f3) ∧ w.cell? ⟨(ad.add (i.toNat * 14)).block, (ad.add (i.toNat * 14)).off + 11, none⟩ = some (.bool (rd_T74 xs i).f4) ∧ w.cell? ⟨(ad.add (i.toNat * 14)).block, (ad.add (i.toNat * 14)).off + 12, none⟩ = some (.slice A12 (rd_T74 xs i).f5.length c12) ∧ w.cell? ⟨(ad.add (i.toNat * 14)).block, (ad.add (i.toNat * 14)).off + 13, none⟩ = some (.slice A13 (rd_T74 xs i).f6.length c13) ∧ (rd_T74 xs i).f1.f3.length ≤ c4 ∧ k114.C w A4 (rd_T74 xs i).f1.f3.length (rd_T74 xs i).f1.f3 ∧ (rd_T74 xs i).f1.f4.length ≤ c5 ∧ (Kd.slice 154 k154).C w A5 (rd_T74 xs i).f1.f4.length (rd_T74 xs i).f1.f4 ∧ (rd_T74 xs i).f1.f5.length ≤ c6 ∧ k52.C w A6 (rd_T74 xs i).f1.f5.length (rd_T74 xs i).f1.f5 ∧ (rd_T74 xs i).f1.f6.length ≤ c7 ∧ Kd.bool.C w A7 (rd_T74 xs i).f1.f6.length (rd_T74 xs i).f1.f6 ∧ (rd_T74 xs i).f1.f7.length ≤ c8 ∧ k116.C w A8 (rd_T74 xs i).f1.f7.length (rd_T74 xs i).f1.f7 ∧ (rd_T74 xs i).f5.length ≤ c12 ∧ Kd.string.C w A12 (rd_T74 xs i).f5.length (rd_T74 xs i).f5 ∧ (rd_T74 xs i).f6.length ≤ c13 ∧ (Kd.int .i64).C w A13 (rd_T74 xs i).f6.length (rd_T74 xs i).f6 := by
  obtain ⟨ad, c, e, _, hK, hc0⟩ := Kd.C_get h z74 i h0 h1
  have hc : ∀ j u, c[j]? = some u → w.cell? (ad.add (i.toNat * 14 + j)) = some u := hc0
  obtain ⟨A4, c4, A5, c5, A6, c6, A7, c7, A8, c8, A12, c12, A13, c13, rfl, l4, g4, l5, g5, l6, g6, l7, g7, l8, g8, l12, g12, l13, g13⟩ := k74_open hK
  exact ⟨ad, A4, c4, A5, c5, A6, c6, A7, c7, A8, c8, A12, c12, A13, c13, e, hc 0 _ rfl, by rw [← add_field _ _ 1 (by omega)]; exact hc 1 _ rfl, by rw [← add_field _ _ 2 (by omega)]; exact hc 2 _ rfl, by rw [← add_field _ _ 3 (by omega)]; exact hc 3 _ rfl, by rw [← add_field _ _ 4 (by omega)]; exact hc 4 _ rfl, by rw [← add_field _ _ 5 (by omega)]; exact hc 5 _ rfl, by rw [← add_field _ _ 6 (by omega)]; exact hc 6 _ rfl, by rw [← add_field _ _ 7 (by omega)]; exact hc 7 _ rfl, by rw [← add_field _ _ 8 (by omega)]; exact hc 8 _ rfl, by rw [← add_field _ _ 9 (by omega)]; exact hc 9 _ rfl, by rw [← add_field _ _ 10 (by omega)]; exact hc 10 _ rfl, by rw [← add_field _ _ 11 (by omega)]; exact hc 11 _ rfl, by rw [← add_field _ _ 12 (by omega)]; exact hc 12 _ rfl, by rw [← add_field _ _ 13 (by omega)]; exact hc 13 _ rfl, l4, g4, l5, g5, l6, g6, l7, g7, l8, g8, l12, g12, l13, g13⟩

end Go.Proofs.Ytkepmbkghmkodaa.Q
