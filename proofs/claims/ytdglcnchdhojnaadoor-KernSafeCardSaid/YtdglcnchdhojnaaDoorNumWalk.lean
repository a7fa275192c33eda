/- number: Read and Text: their contracts. -/
import Derived.Test.YtdglcnchdhojnaaDoorProg
import Derived.Test.YtdglcnchdhojnaaDoorWWords
import Derived.Test.YtdglcnchdhojnaaDoorWLast
import Derived.Test.YtdglcnchdhojnaaDoorWTab
import Derived.Test.YtdglcnchdhojnaaDoorShelf
import Derived.Test.YtdglcnchdhojnaaDoorNumPure
import Derived.WalkKit
import Derived.KernelRfl
import Derived.RowKit3
import Derived.Deep.LoopGhost
import Derived.Deep.QuietTactic
import Derived.BigQuiet
import Derived.WideLaws
import Derived.Deep.DeepCutAuto
import Derived.Deep.CutBlock
import Derived.Shelf.Strings.SlTrimAscii
import Derived.Shelf.Strconv.Atoi
import Derived.Lib.AtoiErrMem
namespace Go.Proofs.YtdglcnchdhojnaaDoor.Num
open Go.RowKit Go.Proofs.YtdglcnchdhojnaaDoorW.PrintWords Go.Proofs.YtdglcnchdhojnaaDoorW.PrintLast
set_option linter.unusedVariables false
set_option linter.unusedSimpArgs false
theorem below_trans {B : Nat} {w w1 w2 : World} (h : Below B w w1) (k : Below B w1 w2) : Below B w w2 := h.trans k
theorem below_sub {B B' : Nat} {w w1 : World} (h : Below B w w1) (hB : B' ≤ B) : Below B' w w1 := ⟨h.os, h.tape, h.output, h.size, fun i hi => h.block i (Nat.lt_of_lt_of_le hi hB)⟩
theorem below_grow {w : World} (os : Array Obj) : Below w.heap.size w (Go.Sort.grow w os) := by
  refine ⟨rfl, rfl, rfl, by unfold Go.Sort.grow; simp, fun i hi => ?_⟩
  unfold Go.Sort.grow
  simp only
  rw [Array.getElem?_append_left hi]
theorem below_itoa {w w' : World} (h : ∃ k os, w' = Go.Sort.grow (w.drewN k) os) : Below w.heap.size w w' := by
  obtain ⟨k, os, rfl⟩ := h
  exact (pw_below_drewN (Below.refl _ _) k).trans (below_grow (w := w.drewN k) os)
theorem tab_below {P : Program} {w w' : World} {name : String} {k : IntKind} {zs : List Int} {g : Nat} (hg : P.globalNamed name = some g) (h : Lib.TabIs P w name k zs) (hlt : g < w.heap.size) (hb : Below w.heap.size w w') : Lib.TabIs P w' name k zs := by
  unfold Lib.TabIs at h ⊢
  unfold World.var? at h ⊢
  rw [hg] at h ⊢
  simp only [Option.bind_some] at h ⊢
  rw [hb.block g hlt]
  exact h
theorem trim_any (s : ByteArray) (w : World) (h0 : 0 < s.size) (hs : s.size ≤ 9223372036854775807) :
    Calls Tryd.prog 91 #[.string s, .string ⟨#[48, 49, 50, 51, 52, 53, 54, 55, 56, 57]⟩] w fun e w' => e = .returned (.string ⟨(Lib.trimS s.data.toList setD).toArray⟩) ∧ Below w.heap.size w w' :=
  (Any.strings_Trim_set Tryd.lays160 (fun w => (Tryd.zeroValue142 w).trans (by rw [show Tryd.zeroCells142 = Array.replicate 256 (.bool false) from by kernel_rfl])) (by kernel_rfl) s ⟨#[48, 49, 50, 51, 52, 53, 54, 55, 56, 57]⟩ w (by decide) h0 hs (by decide) (by
    intro j b hb
    have hm : b ∈ setD := List.mem_of_getElem? hb
    have hall : ∀ b ∈ setD, b.toNat < 128 := by decide
    exact hall b hm)).mono fun e w' h => ⟨h.1, by
    obtain ⟨q, rfl⟩ := h.2
    exact pw_below_drewN (below_alloc (below_alloc (Below.refl _ _) _) _) q⟩
theorem toList_len (s : ByteArray) : s.data.toList.length = s.size := rfl
theorem size_zero {s : ByteArray} (h : s.size = 0) : s = ⟨#[]⟩ := by
  apply ByteArray.ext
  apply Array.ext
  · exact h
  · intro i h1 _
    have : i < s.size := h1
    omega
theorem str_ne (s : ByteArray) (h : s.size ≠ 0) : s.toList ≠ [] ∧ (s.toList == []) = false ∧ s.toList.isEmpty = false := by
  have h1 : s.toList.length ≠ 0 := by
    rw [ByteArray.toList_eq, data_length]
    exact h
  cases hl : s.toList with
  | nil => rw [hl] at h1; exact absurd rfl h1
  | cons c l => exact ⟨by simp, rfl, rfl⟩
theorem ok_size {s : ByteArray} (h : okD s.data.toList = true) : s.size ≠ 0 ∧ s.size ≤ 9 ∧ s.data.toList.all isD = true := by
  unfold okD at h
  simp only [Bool.and_eq_true, decide_eq_true_eq] at h
  refine ⟨?_, h.1.2, h.2⟩
  intro h0
  have hn : s.data.toList = [] := List.eq_nil_of_length_eq_zero h0
  rw [hn] at h
  simp at h
set_option maxHeartbeats 2000000 in
set_option maxRecDepth 100000 in
theorem read_yes (s : ByteArray) (w : World) (h : okD s.data.toList = true) :
    Calls Tryd.prog 57 #[.string s] w fun e w' => e = .returned (.tuple #[.int .i64 (valD s.data.toList : Int), .bool true]) ∧ Below w.heap.size w w' := by
  obtain ⟨h0, h9, hall⟩ := ok_size h
  have HV := Aside0.mk (atoi_digits h)
  have HT := Aside0.mk (trim_all hall)
  obtain ⟨e1, e2, e3⟩ := str_ne s h0
  have d9 : decide ((9 : Int) < (s.size : Int)) = false := decide_eq_false (by omega)
  have H9 := Aside0.mk h9
  have H0 := Aside0.mk h0
  clear hall h h9 h0
  go_enter Tryd.func57, Tryd.ntmps57
  go_wp2_with (first
    | (go_at_call 91; (with_reducible refine (trim_any s _ (by have := H0.out; omega) (by have := H9.out; omega)).mono ?_); rintro e w1 ⟨rfl, hB⟩; rw [HT.out]; have HB := Aside0.mk hB; clear hB)
    | (go_at_call 72; (with_reducible refine (Tryd.strconv_Atoi s _ (by have := H9.out; omega) HV.out _).mono ?_); rintro e w2 ⟨rfl, t, rfl⟩; have n0 := Aside0.mk (below_trans HB.out (below_sub (Lib.bytesWorld_below _ 5 t) HB.out.size)); clear HB; have HB := n0; clear n0))
  go_ret2
  exact ⟨rfl, HB.out⟩
set_option maxHeartbeats 2000000 in
set_option maxRecDepth 100000 in
theorem read_no (s : ByteArray) (w : World) (h : okD s.data.toList = false) :
    Calls Tryd.prog 57 #[.string s] w fun e w' => e = .returned (.tuple #[.int .i64 0, .bool false]) ∧ Below w.heap.size w w' := by
  by_cases h0 : s.size = 0
  · obtain rfl := size_zero h0
    clear h h0
    go_enter Tryd.func57, Tryd.ntmps57
    go_wp2
    go_ret2
    exact ⟨rfl, Below.refl _ _⟩
  · obtain ⟨e1, e2, e3⟩ := str_ne s h0
    by_cases h9 : s.size ≤ 9
    · have d9 : decide ((9 : Int) < (s.size : Int)) = false := decide_eq_false (by omega)
      have hall : s.data.toList.all isD = false := by
        unfold okD at h
        rw [decide_eq_true (show s.data.toList.length ≤ 9 from h9), Bool.and_true] at h
        cases hl : s.data.toList with
        | nil => exact absurd (show s.size = 0 by rw [← toList_len s, hl]; rfl) h0
        | cons a t => rw [hl] at h; simpa using h
      have HT := trim_some hall
      obtain ⟨q, hq⟩ : ∃ q : List UInt8, q = Lib.trimS s.data.toList setD := ⟨_, rfl⟩
      rw [← hq] at HT
      have hqs : (⟨q.toArray⟩ : ByteArray).size ≠ 0 := by
        intro h
        exact HT (List.eq_nil_of_length_eq_zero (by simpa [ByteArray.size] using h))
      obtain ⟨g1, g2, g3⟩ := str_ne _ hqs
      have HQ := Aside0.mk hq
      have H9 := Aside0.mk h9
      have H0 := Aside0.mk h0
      obtain ⟨qs, hqq⟩ : ∃ qs : ByteArray, qs = ⟨q.toArray⟩ := ⟨_, rfl⟩
      rw [← hqq] at g1 g2 g3
      have HQQ := Aside0.mk hqq
      clear hall h h9 h0 HT hqs hq hqq
      go_enter Tryd.func57, Tryd.ntmps57
      go_wp2_with (go_at_call 91; (with_reducible refine (trim_any s _ (by have := H0.out; omega) (by have := H9.out; omega)).mono ?_); rintro e w1 ⟨rfl, hB⟩; rw [← HQ.out, ← HQQ.out]; have HB := Aside0.mk hB; clear hB)
      go_ret2
      exact ⟨rfl, HB.out⟩
    · have d9 : decide ((9 : Int) < (s.size : Int)) = true := decide_eq_true (by omega)
      clear h h0 h9
      go_enter Tryd.func57, Tryd.ntmps57
      go_wp2
      go_ret2
      exact ⟨rfl, Below.refl _ _⟩
abbrev Tab (w : World) : Prop := Lib.TabIs Tryd.prog w "internal/strconv.uint64pow10" .u64 Lib.pow10Tab
set_option maxHeartbeats 2000000 in
set_option maxRecDepth 100000 in
theorem text_any (n : Int) (w : World) (h0 : -9223372036854775808 ≤ n) (h1 : n ≤ 9223372036854775807) (ht : Tab w) :
    Calls Tryd.prog 63 #[.int .i64 n] w fun e w' => e = .returned (.string ⟨(Lib.itoa n).toArray⟩) ∧ Below w.heap.size w w' := by
  have HT := Aside0.mk ht
  clear ht
  go_enter Tryd.func63, Tryd.ntmps63
  go_wp2_with (go_at_call 73; (with_reducible refine (Tryd.strconv_Itoa n h0 h1 _ HT.out).mono ?_); rintro e w1 ⟨rfl, hG⟩; have HB := Aside0.mk (below_itoa hG); clear hG)
  go_ret
  exact ⟨rfl, HB.out⟩
set_option maxHeartbeats 2000000 in
set_option maxRecDepth 100000 in
theorem count_9 (w : World) : Calls Tryd.prog 59 #[.string ⟨#[57]⟩, .int .i64 2] w fun e w' => e = .returned (.tuple #[.int .i64 2, .bool true]) ∧ Below w.heap.size w w' := by
  go_enter Tryd.func59, Tryd.ntmps59
  go_wp2_with (go_at_call 57; (with_reducible refine (read_yes ⟨#[57]⟩ _ (by decide)).mono ?_); rintro e w1 ⟨rfl, hB⟩; rw [show ((valD (ByteArray.mk #[57]).data.toList : Nat) : Int) = 9 from by decide]; have HB := Aside0.mk hB; clear hB)
  go_ret2
  exact ⟨rfl, HB.out⟩
set_option maxHeartbeats 2000000 in
set_option maxRecDepth 100000 in
theorem alive_any (w : World) : Calls Tryd.prog 56 #[] w fun e w' => e = .returned (.bool true) ∧ Below w.heap.size w w' := by
  go_enter Tryd.func56, Tryd.ntmps56
  go_wp2_with (first
    | (go_at_call 57; (with_reducible refine (read_yes ⟨#[48, 48, 55]⟩ _ (by decide)).mono ?_); rintro e w1 ⟨rfl, hB⟩; rw [show ((valD (ByteArray.mk #[48, 48, 55]).data.toList : Nat) : Int) = 7 from by decide]; have HB := Aside0.mk hB; clear hB)
    | (go_at_call 59; (with_reducible refine (count_9 _).mono ?_); rintro e w2 ⟨rfl, hB⟩; have n0 := Aside0.mk (below_trans HB.out (below_sub hB HB.out.size)); clear HB hB; have HB := n0; clear n0))
  go_ret
  exact ⟨rfl, HB.out⟩
end Go.Proofs.YtdglcnchdhojnaaDoor.Num
