/- texts of this claim, one behind the other: Opens RunsCard -/
import Derived.Test.YtbgodajbdbgdfaaDoorG6
import Derived.Deep.Slices
import Derived.Deep.Fields
import Derived.ChangeSame
import Derived.SizedLaws
import Derived.Test.YtbgodajbdbgdfaaDoorRows
import Derived.Test.YtbgodajbdbgdfaaDoorCards
import Derived.Test.YtbgodajbdbgdfaaDoorTie
import Derived.ProofKit
import Derived.OpenShut
import Derived.ShutString
import Derived.ChangeOld
import Derived.LaidMore
import Derived.Lay
import Derived.Lib.LaidU8
import Derived.SevenTiedAt
import Derived.Stop.Joined
/- What comes in, read kind by kind. -/
namespace Go.Proofs.YtbgodajbdbgdfaaDoor.Open
open Go.RowKit Go.ChangeShapes Go.WideShapes Go.Deep Go.Proofs.YtbgodajbdbgdfaaDoorW.PrintWords
set_option linter.unusedVariables false
/-- Whatever reads as data of type t is a value of the kind d, and V holds of it. -/
def Op {α : Type} (P : Program) (w : World) (d : Kd α) (t : TypeId) (V : α → Prop) : Prop :=
  ∀ (H : Type) (enc : TypeId × Value → H) (base : Nat) (spare : Nat → Bool) (held : Bool) (fuel : Nat) (cs : List Value) (x : DataW H × List MemPlace), DataW.trod enc P w base spare held fuel t cs = some x → (∀ n ∈ x.1.weights P t, n ≤ reachBytes) → ∃ v, d.K w v cs ∧ V v
section
variable {P : Program} {w : World}
theorem op_int {t : TypeId} {k : IntKind} (ht : P.underlying t = some (.int k)) : Op P w (Kd.int k) t (fun n => (Lit.int k n).wf = true) := by
  intro H enc base spare held fuel cs x h _
  obtain ⟨n, rfl, _, hw⟩ := DataW.trod_int ht h
  exact ⟨n, rfl, hw⟩
theorem op_bool {t : TypeId} (ht : P.underlying t = some .bool) : Op P w Kd.bool t (fun _ => True) := by
  intro H enc base spare held fuel cs x h _
  obtain ⟨b, rfl, _⟩ := DataW.trod_bool ht h
  exact ⟨b, rfl, trivial⟩
theorem op_string {t : TypeId} (ht : P.underlying t = some .string) : Op P w Kd.string t (fun s => s.size ≤ reachBytes) := by
  intro H enc base spare held fuel cs x h hz
  obtain ⟨s, rfl, rfl, hs⟩ := DataW.trod_string ht h
  exact ⟨s, rfl, by have := hz _ (List.mem_singleton.2 rfl); rwa [data_length] at this⟩
theorem op_mono {α : Type} {d : Kd α} {t : TypeId} {V V' : α → Prop} (h : Op P w d t V) (hV : ∀ x, V x → V' x) : Op P w d t V' := fun H enc base spare held fuel cs x hx hz =>
  let ⟨v, hv, hh⟩ := h H enc base spare held fuel cs x hx hz; ⟨v, hv, hV v hh⟩
theorem weightsAll_mem {H : Type} {P : Program} {e : TypeId} : ∀ {l : List (DataW H)} {d : DataW H}, d ∈ l → ∀ n ∈ d.weights P e, n ∈ DataW.weightsAll P e l
  | _ :: _, _, List.Mem.head _, n, hn => by simp only [DataW.weightsAll, List.mem_append]; exact .inl hn
  | _ :: r, d, List.Mem.tail _ h, n, hn => by simp only [DataW.weightsAll, List.mem_append]; exact .inr (weightsAll_mem h n hn)
theorem op_slice {α : Type} {d : Kd α} {t e : TypeId} {V : α → Prop} (ht : P.underlying t = some (.slice e)) (hsz : P.cellsOf e = d.sz) (h : Op P w d e V) : Op P w (Kd.slice e d) t (fun l => l.length * P.bytesOf e ≤ reachBytes ∧ ∀ x ∈ l, V x) := by
  intro H enc base spare held fuel cs x hx hz
  rcases open_slice ht hx with ⟨rfl, _⟩ | ⟨a, len, cap, m, n, D, Pl, rfl, hb, hl, hm, hmm, rfl, hi⟩
  · exact ⟨[], ⟨none, 0, rfl, Nat.le_refl _, Kd.C_nil _ _⟩, by simp, by simp⟩
  · simp only [DataW.weights, ht] at hz
    have hz1 := hz _ (List.mem_cons_self)
    have hz2 : ∀ i, i < len → ∀ n ∈ (D i).weights P e, n ≤ reachBytes := fun i hi n hn => hz n (List.mem_cons_of_mem _ (List.mem_append_left _ (weightsAll_mem (List.mem_map.2 ⟨i, List.mem_range.2 hi, rfl⟩) n hn)))
    simp only [List.length_map, List.length_range] at hz1
    have hlm : len ≤ m := by rw [hmm]; split <;> omega
    have key : ∀ k, k ≤ len → ∃ l : List α, l.length = k ∧ ∀ i p, l[i]? = some p → V p ∧ ∃ c : List Value, c.length = d.sz ∧ d.K w p c ∧ ∀ j u, c[j]? = some u → w.cell? (a.add (i * d.sz + j)) = some u := by
      intro k
      induction k with
      | zero => exact fun _ => ⟨[], rfl, by simp⟩
      | succ k ih =>
        intro hk
        obtain ⟨l, hlen, hh⟩ := ih (by omega)
        obtain ⟨cs', hc, ht'⟩ := hi k (by omega)
        obtain ⟨v, hK, hV⟩ := h H enc base spare held n cs' _ ht' (hz2 k (by omega))
        obtain ⟨_, hcl, hat⟩ := World.cells?_some hc
        refine ⟨l ++ [v], by simp [hlen], fun i p hp => ?_⟩
        rcases Nat.lt_or_ge i l.length with hil | hil
        · rw [List.getElem?_append_left hil] at hp
          exact hh i p hp
        · obtain rfl : i = l.length := by
            have := (List.getElem?_eq_some_iff.1 hp).1
            rw [List.length_append, List.length_singleton] at this
            omega
          have hp' : v = p := by simpa using hp
          subst hp'
          refine ⟨hV, cs', d.K_len hK, hK, fun j u hu => ?_⟩
          have hj : j < cs'.length := (List.getElem?_eq_some_iff.1 hu).1
          have := hat j (by omega)
          rw [← Go.Deep.add_add, hlen, ← hsz, this, hu]
    obtain ⟨l, hll, hh⟩ := key len (Nat.le_refl _)
    have hml : len ≤ maxLen := Nat.le_trans hl hm
    refine ⟨l, ⟨some a, cap, by rw [hll], by omega, rfl, by unfold maxLen at hml; omega, fun _ => ⟨a, rfl, fun j p hp => ?_⟩⟩, ?_, fun p hp => ?_⟩
    · obtain ⟨_, c, h1, h2, h3⟩ := hh j p hp
      exact ⟨c, h1, h2, h3⟩
    · rw [hll]
      exact Nat.le_trans (Nat.mul_le_mul_right _ (by omega)) hz1
    · obtain ⟨i, hi', rfl⟩ := List.getElem_of_mem hp
      exact (hh i _ (List.getElem?_eq_getElem hi')).1
/-- The fields from one on. -/
def OpF {α : Type} (P : Program) (w : World) (d : Kd α) (fs : List Field) (o : Nat) (V : α → Prop) : Prop :=
  ∀ (H : Type) (enc : TypeId × Value → H) (base : Nat) (spare : Nat → Bool) (held : Bool) (n : Nat) (cs : List Value), cs.length = o + d.sz →
    (∀ f, f ∈ fs → ∃ y, DataW.trod enc P w base spare held n f.type ((cs.drop f.offset).take (P.cellsOf f.type)) = some y ∧ ∀ n ∈ y.1.weights P f.type, n ≤ reachBytes) → ∃ v, d.K w v (cs.drop o) ∧ V v
theorem opf_one {α : Type} {d : Kd α} {f : Field} {o : Nat} {V : α → Prop} (hfo : f.offset = o) (h : Op P w d f.type V) (hsz : P.cellsOf f.type = d.sz) : OpF P w d [f] o V := by
  subst hfo
  intro H enc base spare held n cs hl hf
  obtain ⟨y, hy, hz⟩ := hf f (by simp)
  rw [List.take_of_length_le (by rw [List.length_drop]; omega)] at hy
  exact h H enc base spare held n _ y hy hz
theorem opf_cons {α β : Type} {d : Kd α} {d' : Kd β} {f : Field} {fs : List Field} {o o' : Nat} {V : α → Prop} {V' : β → Prop} (hfo : f.offset = o) (h : Op P w d f.type V) (hsz : P.cellsOf f.type = d.sz) (ho : o' = o + d.sz) (hr : OpF P w d' fs o' V') : OpF P w (Kd.pair d d') (f :: fs) o (fun x => V x.1 ∧ V' x.2) := by
  subst hfo
  intro H enc base spare held n cs hl hf
  have hl' : cs.length = f.offset + (d.sz + d'.sz) := hl
  obtain ⟨y, hy, hz⟩ := hf f (by simp)
  obtain ⟨v, hK, hV⟩ := h H enc base spare held n _ y hy hz
  obtain ⟨v', hK', hV'⟩ := hr H enc base spare held n cs (by omega) (fun g hg => hf g (by simp [hg]))
  refine ⟨(v, v'), ⟨_, _, ?_, hK, hK'⟩, hV, hV'⟩
  rw [hsz, ho, ← List.drop_drop, List.take_append_drop]
theorem op_struct {α β : Type} {d : Kd α} {t : TypeId} {fs : Array Field} {V : α → Prop} {V' : β → Prop} (g : β → α) (gi : α → β) (hg : ∀ x, g (gi x) = x) (ht : P.underlying t = some (.struct fs)) (hsz : P.cellsOf t = d.sz) (h : OpF P w d fs.toList 0 V) (hV : ∀ x, V (g x) → V' x) : Op P w (Kd.iso d g) t V' := by
  intro H enc base spare held fuel cs x hx hz
  obtain ⟨xs, n, _, rfl, hl, hxl, hf⟩ := DataW.trod_struct ht hx
  simp only [DataW.weights, ht] at hz
  obtain ⟨v, hK, hv⟩ := h H enc base spare held n cs (by omega) (fun f hm => by
    obtain ⟨i, hi, rfl⟩ := List.getElem_of_mem hm
    have hi' : i < fs.size := by simpa using hi
    have := hf i fs[i] (Array.getElem?_eq_getElem hi')
    refine ⟨xs[i]'(by omega), ?_, fun m hm => hz m (DataW.weights_mem_each (j := i) (t := fs[i].type) (d := (xs[i]'(by omega)).1) (by simp [hi']) (by simp [List.getElem?_eq_getElem (show i < xs.length by omega)]) m (by simpa using hm))⟩
    rw [List.getElem?_eq_getElem (by omega)] at this
    simpa using this)
  exact ⟨gi v, by rw [show (Kd.iso d g).K = fun w x cs => d.K w (g x) cs from rfl]; simp only; rw [hg]; simpa using hK, hV _ (by rw [hg]; exact hv)⟩
theorem open_sl {H : Type} {enc : TypeId × Value → H} {base : Nat} {spare : Nat → Bool} {held : Bool} {α : Type} {d : Kd α} {t e : TypeId} {V : List α → Prop} (hop : Op P w (Kd.slice e d) t V) {a : Option Addr} {len cap : Nat} {dd : DataW H} {ps : List MemPlace}
    (h : DataW.Trod enc P w base spare held t (.slice a len cap) dd ps) (hz : ∀ n ∈ dd.weights P t, n ≤ reachBytes) : ∃ l, d.C w a len l ∧ len ≤ cap ∧ V l := by
  obtain ⟨fuel, hf⟩ := h
  obtain ⟨l, ⟨A', c', hcs, hle, hC⟩, hV⟩ := hop H enc base spare held fuel _ _ hf hz
  simp only [Value.cells, List.cons.injEq, Value.slice.injEq, and_true] at hcs
  obtain ⟨rfl, rfl, rfl⟩ := hcs
  exact ⟨l, hC, hle, hV⟩
theorem open_st {H : Type} {enc : TypeId × Value → H} {base : Nat} {spare : Nat → Bool} {held : Bool} {α : Type} {d : Kd α} {t : TypeId} {V : α → Prop} (hop : Op P w d t V) {cs : Array Value} {dd : DataW H} {ps : List MemPlace}
    (h : DataW.Trod enc P w base spare held t (.agg cs) dd ps) (hz : ∀ n ∈ dd.weights P t, n ≤ reachBytes) : ∃ y, d.K w y cs.toList ∧ V y := by
  obtain ⟨fuel, hf⟩ := h
  exact hop H enc base spare held fuel _ _ hf hz
end
end Go.Proofs.YtbgodajbdbgdfaaDoor.Open
/- KernRuns: for every set of ignored signals and every row of acts, the law returns true and leaves the acts as they were: the row, and its card. No condition. -/
namespace Go.Proofs.YtbgodajbdbgdfaaDoor
open Go.RowKit Go.Proofs.YtbgodajbdbgdfaaDoorW.PrintWords Go.Proofs.YtbgodajbdbgdfaaDoorW.PrintLast
set_option linter.unusedVariables false
theorem tabB_of_reads {W : World} (h : Lib.VarReads Tryd.prog W "math/bits.deBruijn32tab" Rows.laid_math_bits_deBruijn32tab) : Sig.TabB W := by
  obtain ⟨g, t, cs, fuel, p, hg, ht, hv, hd⟩ := h
  obtain rfl := Option.some.inj ((show Tryd.prog.globalNamed "math/bits.deBruijn32tab" = some 0 by kernel_rfl).symm.trans hg)
  obtain rfl := Option.some.inj ((show (Tryd.prog.globals[0]?).map (·.type) = some 100 by kernel_rfl).symm.trans ht)
  have key := Lib.cells_of_tab (zs := Lib.deBruijn32tab.map fun n : Nat => (n : Int)) Tryd.underlying100 Tryd.underlying5 (by kernel_rfl) (by kernel_rfl) (hd.trans (by rfl))
  intro j hj
  rw [World.var?_cell hg hv j]
  have e : cs.toList[j]? = some (.int .u8 ((Lib.deBruijn32tab.getD j 0 : Nat) : Int)) := by
    rw [key, List.getElem?_map, List.getElem?_map, List.getD_eq_getElem?_getD, List.getElem?_eq_getElem hj]
    rfl
  simpa using e
set_option maxRecDepth 100000 in
theorem op_ac (w : World) : Open.Op Tryd.prog w Kern.kAc 46 Kern.AcOk :=
  Open.op_struct (V := fun x => (Lit.int .i64 x.1).wf = true ∧ (Lit.int .i64 x.2.1).wf = true ∧ (Lit.int .i64 x.2.2.1).wf = true ∧ (Lit.int .i64 x.2.2.2.1).wf = true ∧ (Lit.int .i64 x.2.2.2.2.1).wf = true ∧ (Lit.int .i64 x.2.2.2.2.2).wf = true) (fun x : Kern.Ac => (x.f0, x.f1, x.f2, x.f3, x.f4, x.f5)) (fun x => ⟨x.1, x.2.1, x.2.2.1, x.2.2.2.1, x.2.2.2.2.1, x.2.2.2.2.2⟩) (fun _ => rfl) Tryd.underlying46 (by kernel_rfl)
    (Open.opf_cons (o' := 1) (V := fun x : Int => (Lit.int .i64 x).wf = true) (V' := fun x : Int × Int × Int × Int × Int => (Lit.int .i64 x.1).wf = true ∧ (Lit.int .i64 x.2.1).wf = true ∧ (Lit.int .i64 x.2.2.1).wf = true ∧ (Lit.int .i64 x.2.2.2.1).wf = true ∧ (Lit.int .i64 x.2.2.2.2).wf = true) rfl (Open.op_int Tryd.underlying3) (by kernel_rfl) rfl
      (Open.opf_cons (o' := 2) (V := fun x : Int => (Lit.int .i64 x).wf = true) (V' := fun x : Int × Int × Int × Int => (Lit.int .i64 x.1).wf = true ∧ (Lit.int .i64 x.2.1).wf = true ∧ (Lit.int .i64 x.2.2.1).wf = true ∧ (Lit.int .i64 x.2.2.2).wf = true) rfl (Open.op_int Tryd.underlying3) (by kernel_rfl) rfl
        (Open.opf_cons (o' := 3) (V := fun x : Int => (Lit.int .i64 x).wf = true) (V' := fun x : Int × Int × Int => (Lit.int .i64 x.1).wf = true ∧ (Lit.int .i64 x.2.1).wf = true ∧ (Lit.int .i64 x.2.2).wf = true) rfl (Open.op_int Tryd.underlying3) (by kernel_rfl) rfl
          (Open.opf_cons (o' := 4) (V := fun x : Int => (Lit.int .i64 x).wf = true) (V' := fun x : Int × Int => (Lit.int .i64 x.1).wf = true ∧ (Lit.int .i64 x.2).wf = true) rfl (Open.op_int Tryd.underlying3) (by kernel_rfl) rfl
            (Open.opf_cons (o' := 5) (V := fun x : Int => (Lit.int .i64 x).wf = true) (V' := fun x : Int => (Lit.int .i64 x).wf = true) rfl (Open.op_int Tryd.underlying3) (by kernel_rfl) rfl
              (Open.opf_one rfl (Open.op_int Tryd.underlying3) (by kernel_rfl))))))) (fun x h => ⟨h.2.1, h.2.2.1, h.2.2.2.1, h.2.2.2.2.1⟩)
theorem runs_lawI (x : Int) (A0 : Option Addr) (n c : Nat) (l : List Kern.Ac) (w : World) (hx : (Lit.int .u32 x).wf = true) (hC : Kd.C Kern.kAc w A0 n l) (hl : l.length * Tryd.prog.bytesOf 46 ≤ reachBytes ∧ ∀ x ∈ l, Kern.AcOk x) (ht : Sig.TabB w) :
    Calls Tryd.prog 4 #[.int .u32 x, .slice A0 n c] w fun e w' => e = .returned (.bool true) ∧ Below w.heap.size w w' := by
  simp only [Lit.wf, Bool.and_eq_true, decide_eq_true_eq] at hx
  have h3 : IntKind.u32.min = 0 := rfl
  have h4 : IntKind.u32.max = 4294967295 := rfl
  rw [h3, h4] at hx
  obtain ⟨m, rfl⟩ : ∃ m : Nat, x = (m : Int) := ⟨x.toNat, by omega⟩
  exact Kern.runs_law m (by omega) A0 n c l w hC hl.2 ht
theorem kernRuns_tb {W : World} (h : laidMetH Tryd.prog Rows.kernRunsRow.laid W) : Sig.TabB W := by
  rw [MakeChecks.laidMetH_plain _ _ _ (by kernel_rfl)] at h
  exact tabB_of_reads (Lib.laidMet.reads h (by simp [Rows.kernRunsRow]))
namespace RowKernRuns
open Go.ChangeShapes Go.WideShapes Go.ChangeAt Go.RowKit
open Go.ChangeMaps (open_string shut_string)
theorem own : ownKnob Tryd.prog.godebug = none := by kernel_rfl
theorem laidOut : laidOutB Tryd.prog = true := by kernel_rfl
set_option maxRecDepth 100000 in
theorem lifted (os : Os) (started : os.Started) (H : Type) (enc : TypeId × Value → H) :
    ReturnsInHanded {} Tryd.checked os 4 .any (fun w args => (Rows.kernRunsSpec.pre enc Tryd.prog Tryd.f4 Rows.kernRunsRow.domain false w args ∧ laidMetH Tryd.prog Rows.kernRunsRow.laid w) ∧ sizedMet enc Tryd.prog Tryd.f4 (OpenSpec.ofChange Rows.kernRunsSpec) false w args) (Rows.kernRunsSpec.post enc Tryd.prog Tryd.f4 false true false false) := by
  refine returnsInHanded_of_change_and (C := Tryd.checked) (X := (fun w _ => laidMetH Tryd.prog Rows.kernRunsRow.laid w)) (fun _ _ _ hh h => h.of_heap hh) own started (by kernel_rfl) Tryd.func4
    (ChangeSpec.witness_shaped (enc := enc) (C := Tryd.checked) (os := os) (X := (fun w _ => laidMetH Tryd.prog Rows.kernRunsRow.laid w)) false (World.laidAll Tryd.prog os Rows.kernRunsRow.laid) #[.int .u32 0, .slice none 0 0] 8 (World.laidAll_os _ _ _)
      (World.shaped_of_ZipB (by kernel_rfl) (by kernel_rfl)) (by kernel_rfl) (by kernel_rfl) (by kernel_rfl)
      (by rw [MakeChecks.laidMetH_plain _ _ _ (by kernel_rfl)]; exact laidMet_laidAll _ (by kernel_rfl) (by kernel_rfl))) ?_
  intro W base args ds gs before hval0 hW hcnd hsz0 hL _
  have hsz : (DataW.weightsEach Tryd.prog (Tryd.f4.params.toList ++ Rows.kernRunsSpec.plain.varTypes Tryd.prog) (ds ++ gs)).all (· ≤ reachBytes) = true := hsz0
  have hval : ∀ (j : Nat) t v, Tryd.f4.params[j]? = some t → args[j]? = some v → Value.okWide Tryd.prog W .any base t v := hval0
  have hW' := hW
  obtain ⟨p, q, hA0, hV, rfl, hfz, hnd⟩ := hW
  have hA : DataW.TrodAll enc Tryd.prog W 0 (fun _ => true) true Tryd.f4.params.toList args.toList ds p := hA0
  rw [Tryd.params4] at hA hval hsz
  obtain ⟨v0, vs0, d0, ds0, p0, q0, hargs, rfl, rfl, h0, r0⟩ := trodAll_cons hA
  obtain ⟨v1, vs1, d1, ds1, p1, q1, rfl, rfl, rfl, h1, r1⟩ := trodAll_cons r0
  obtain ⟨rfl, rfl, rfl⟩ := trodAll_nil r1
  obtain rfl : args = #[v0, v1] := by cases args; simp_all
  obtain ⟨rfl, rfl⟩ := trodVars_none hV
  obtain ⟨x0, rfl, rfl, rfl, V0⟩ := open_int Tryd.underlying26 (hval 0 26 v0 rfl rfl) h0
  obtain ⟨a1, n1, c1, rfl⟩ := okWide_slice Tryd.underlying39 (hval 1 39 v1 rfl rfl)
  have t1 := h1
  have lt1 : ∀ x ∈ p1, x.block < W.heap.size := by obtain ⟨m, hm⟩ := t1; exact DataW.trod_lt m _ _ _ hm
  have z1 : ∀ n ∈ d1.weights Tryd.prog 39, n ≤ reachBytes := fun n hn => by simpa using List.all_eq_true.1 hsz n (DataW.weights_mem_each (j := 1) rfl rfl n hn)
  obtain ⟨l1, C1, k1, V1⟩ := Open.open_sl (Open.op_slice Tryd.underlying39 (by kernel_rfl) (op_ac W)) h1 z1
  clear hA0 hval0 hsz0 hsz
  refine (runs_lawI x0 _ _ _ l1 W V0 C1 V1 (kernRuns_tb hL)).mono fun e W' ⟨he, bel⟩ => ?_
  subst he
  exact ⟨_, rfl, _, _, _, [], _, [], hW', trodAll_mk1 (shut_bool Tryd.underlying4 _), (trodAll_cons_mk (shut_int Tryd.underlying26 V0) (trodAll_cons_mk (Below.trod laidOut (by kernel_rfl) (of_decide_eq_true (by kernel_rfl)) t1 bel lt1) trodAll_mk0)), rfl, bel.frame _, fun h => by cases h⟩
theorem proved : Rows.KernRunsSaid :=
  OpenClaim.holds_of_wide 4 Tryd.f4 rfl rfl rfl rfl rfl rfl rfl ⟨rfl, rfl, rfl, rfl, rfl⟩ rfl rfl rfl rfl rfl (by kernel_rfl) Tryd.func4 (by kernel_rfl)
    (of_decide_eq_true (by kernel_rfl)) (by unfold Func.isWrapper; first | (rw [if_pos (by decide +kernel)]; kernel_rfl) | (rw [if_neg (by decide +kernel)]; exact ⟨rfl, rfl⟩))
    (fun os started H enc _ => lifted os started H enc)
end RowKernRuns
theorem kernRuns_holds : Rows.KernRunsSaid := RowKernRuns.proved
theorem kernRuns_card_holds : Rows.KernRunsCardSaid :=
  Claim7.holds_tied_plain_at .later [] [.data] true (true, "69a3011f5875e9b61bb6b2f5c8b06c9d8d73e50bc28d70af8cdb856027743404") false kernRuns_holds (fun _ h => by cases h) (by kernel_rfl) (fun _ h => by cases h) kernRuns_row_tie rfl ⟨rfl, rfl⟩ (by kernel_rfl) rfl
    (fun f fn hf hfn => by
      obtain rfl : f = 4 := Option.some.inj ((show Tryd.prog.funcNamed "deadfall/deadfalllaw12.KernRuns" = some 4 by kernel_rfl).symm.trans hf) |>.symm
      obtain rfl : fn = Tryd.f4 := (Option.some.inj (Tryd.func4.symm.trans hfn)).symm
      exact ⟨by kernel_rfl, fun j t ht => by
        rw [Tryd.params4] at ht
        have hm : t ∈ [26, 39] := by simpa using Array.mem_of_getElem? ht
        have hall : ([26, 39].all fun u => !Tryd.prog.wantsStandIn u) = true := by kernel_rfl
        exact (show Tryd.prog.wantsStandIn t = false by simpa using List.all_eq_true.1 hall t hm)⟩)
    (by kernel_rfl)
#print axioms kernRuns_card_holds
end Go.Proofs.YtbgodajbdbgdfaaDoor
