/- SigBack: for every list of numbers and every number the law returns true: the row, and its card. -/
import Derived.Test.YtdglcnchdhojnaaDoorRows
import Derived.Test.YtdglcnchdhojnaaDoorCards
import Derived.Test.YtdglcnchdhojnaaDoorTie
import Derived.Test.YtdglcnchdhojnaaDoorSigBackL
import Derived.Test.YtdglcnchdhojnaaDoorOpens
import Derived.ProofKit
import Derived.OpenShut
import Derived.ShutString
import Derived.ChangeOld
import Derived.SizedLaws
import Derived.LaidMore
import Derived.Lay
import Derived.Lib.LaidU8
import Derived.SevenTiedAt
import Derived.Stop.Joined
namespace Go.Proofs.YtdglcnchdhojnaaDoor
open Go.RowKit Go.Proofs.YtdglcnchdhojnaaDoorW.PrintWords Go.Proofs.YtdglcnchdhojnaaDoorW.PrintLast
set_option linter.unusedVariables false
theorem i64_rng3 {c : Int} (h : (Lit.int .i64 c).wf = true) : -9223372036854775808 ≤ c ∧ c ≤ 9223372036854775807 := by
  simp only [Lit.wf, Bool.and_eq_true, decide_eq_true_eq] at h
  have h1 : IntKind.i64.min = -9223372036854775808 := rfl
  have h2 : IntKind.i64.max = 9223372036854775807 := rfl
  rw [h1, h2] at h
  exact h
theorem tab_of_reads3 {W : World} (h : Lib.VarReads Tryd.prog W "internal/strconv.uint64pow10" Rows.laid_internal_strconv_uint64pow10) : Num.Tab W := by
  obtain ⟨g, t, cs, fuel, p, hg, ht, hv, hd⟩ := h
  obtain rfl := Option.some.inj ((show Tryd.prog.globalNamed "internal/strconv.uint64pow10" = some 4 by kernel_rfl).symm.trans hg)
  obtain rfl := Option.some.inj ((show (Tryd.prog.globals[4]?).map (·.type) = some 207 by kernel_rfl).symm.trans ht)
  show Lib.TabIs Tryd.prog W "internal/strconv.uint64pow10" .u64 Lib.pow10Tab
  unfold Lib.TabIs
  rw [hv]
  have := Lib.cells_of_tab (zs := Lib.pow10Tab) Tryd.underlying207 Tryd.underlying138 (by kernel_rfl) (by kernel_rfl) (hd.trans (by rfl))
  rw [← this]
theorem names_of_reads {W : World} (h : Lib.VarReads Tryd.prog W "deadfall/sig.names" Rows.laid_deadfall_sig_names) : ∀ j, j < Sig.NM.length → W.cell? ⟨0, j, none⟩ = some (.string (Sig.NM.getD j ByteArray.empty)) := by
  obtain ⟨g, t, cs, fuel, p, hg, ht, hv, hd⟩ := h
  obtain rfl := Option.some.inj ((show Tryd.prog.globalNamed "deadfall/sig.names" = some 0 by kernel_rfl).symm.trans hg)
  obtain rfl := Option.some.inj ((show (Tryd.prog.globals[0]?).map (·.type) = some 99 by kernel_rfl).symm.trans ht)
  intro j hj
  have hj' : j < 32 := hj
  obtain ⟨xs, m, _, ex, _, hl, hel⟩ := DataW.trod_array Tryd.underlying99 hd
  have c9 : Tryd.prog.cellsOf 9 = 1 := by kernel_rfl
  have hE := hel j hj'
  rw [c9, Nat.mul_one, List.getElem?_eq_getElem (by omega)] at hE
  obtain ⟨z, e1, e2, _⟩ := DataW.trod_string Tryd.underlying9 hE
  have e3 : xs.map (·.1) = Sig.NM.map fun n => (DataW.lit (.string n.data.toList) : DataW Unit) := (DataW.agg.inj (Prod.mk.inj ex).1).symm
  have e4 : (xs.map (·.1))[j]? = (Sig.NM.map fun n => (DataW.lit (.string n.data.toList) : DataW Unit))[j]? := by rw [e3]
  rw [List.getElem?_map, List.getElem?_map, List.getElem?_eq_getElem (by omega : j < xs.length), List.getElem?_eq_getElem hj, e2] at e4
  have hz : z = Sig.NM.getD j ByteArray.empty := by
    simp only [Option.map_some, Option.some.injEq, DataW.lit.injEq, Lit.string.injEq] at e4
    rw [List.getD_eq_getElem?_getD, List.getElem?_eq_getElem hj, Option.getD_some]
    apply ByteArray.ext
    exact Array.ext' e4
  rw [World.var?_cell hg hv j, ← hz]
  have : cs.toList[j]? = some (.string z) := by
    have h0 : ((cs.toList.drop j).take 1)[0]? = some (.string z) := by rw [e1]; rfl
    simpa using h0
  simpa using this
set_option maxRecDepth 100000 in
theorem err_of_reads {W : World} {nm : String} {g : Nat} {d : DataW Unit} (hg0 : Tryd.prog.globalNamed nm = some g) (ht0 : (Tryd.prog.globals[g]?).map (·.type) = some 101) (h : Lib.VarReads Tryd.prog W nm (.iface "*errors.errorString" d)) : ∃ te pe, W.cell? ⟨g, 0, none⟩ = some (.iface te pe) := by
  obtain ⟨g', t, cs, fuel, p, hg, ht, hv, hd⟩ := h
  obtain rfl := Option.some.inj (hg0.symm.trans hg)
  obtain rfl := Option.some.inj (ht0.symm.trans ht)
  obtain ⟨l0⟩ := cs
  have key : ∃ te pe, l0 = [.iface te pe] := by
    cases fuel with
    | zero => simp [DataW.trod] at hd
    | succ n =>
      unfold DataW.trod at hd
      rw [Tryd.underlying101] at hd
      split at hd <;> first
        | exact ⟨_, _, by assumption⟩
        | (rename_i he _; exact ⟨_, _, he⟩)
        | (rename_i _ he; exact ⟨_, _, he⟩)
        | (simp_all; done)
        | (simp_all)
  obtain ⟨te, pe, rfl⟩ := key
  exact ⟨te, pe, by simpa using World.var?_cell hg hv 0⟩
theorem tabB_of_reads {W : World} (h : Lib.VarReads Tryd.prog W "math/bits.deBruijn32tab" Rows.laid_math_bits_deBruijn32tab) : Sig.TabB W := by
  obtain ⟨g, t, cs, fuel, p, hg, ht, hv, hd⟩ := h
  obtain rfl := Option.some.inj ((show Tryd.prog.globalNamed "math/bits.deBruijn32tab" = some 1 by kernel_rfl).symm.trans hg)
  obtain rfl := Option.some.inj ((show (Tryd.prog.globals[1]?).map (·.type) = some 165 by kernel_rfl).symm.trans ht)
  have key := Lib.cells_of_tab (zs := Lib.deBruijn32tab.map fun n : Nat => (n : Int)) Tryd.underlying165 Tryd.underlying5 (by kernel_rfl) (by kernel_rfl) (hd.trans (by rfl))
  intro j hj
  rw [World.var?_cell hg hv j]
  have e : cs.toList[j]? = some (.int .u8 ((Lib.deBruijn32tab.getD j 0 : Nat) : Int)) := by
    rw [key, List.getElem?_map, List.getElem?_map, List.getD_eq_getElem?_getD, List.getElem?_eq_getElem hj]
    rfl
  simpa using e
theorem sigBack_gb {W : World} (h : laidMetH Tryd.prog Rows.sigBackRow.laid W) : Sig.Gb W := by
  rw [MakeChecks.laidMetH_plain _ _ _ (by kernel_rfl)] at h
  exact ⟨⟨tab_of_reads3 (Lib.laidMet.reads h (by simp [Rows.sigBackRow])), names_of_reads (Lib.laidMet.reads h (by simp [Rows.sigBackRow])),
    err_of_reads (by kernel_rfl) (by kernel_rfl) (Lib.laidMet.reads h (n := "strconv.ErrSyntax") (d := Rows.laid_strconv_ErrSyntax) (by simp [Rows.sigBackRow])), err_of_reads (by kernel_rfl) (by kernel_rfl) (Lib.laidMet.reads h (n := "strconv.ErrRange") (d := Rows.laid_strconv_ErrRange) (by simp [Rows.sigBackRow]))⟩,
    tabB_of_reads (Lib.laidMet.reads h (by simp [Rows.sigBackRow]))⟩
namespace RowSigBack
open Go.ChangeShapes Go.WideShapes Go.ChangeAt Go.RowKit
open Go.ChangeMaps (open_string shut_string)
theorem own : ownKnob Tryd.prog.godebug = none := by kernel_rfl
theorem laidOut : laidOutB Tryd.prog = true := by kernel_rfl
set_option maxRecDepth 100000 in
theorem lifted (os : Os) (started : os.Started) (H : Type) (enc : TypeId × Value → H) :
    ReturnsInHanded {} Tryd.checked os 6 .any (fun w args => (Rows.sigBackSpec.pre enc Tryd.prog Tryd.f6 Rows.sigBackRow.domain false w args ∧ laidMetH Tryd.prog Rows.sigBackRow.laid w) ∧ sizedMet enc Tryd.prog Tryd.f6 (OpenSpec.ofChange Rows.sigBackSpec) false w args) (Rows.sigBackSpec.post enc Tryd.prog Tryd.f6 false true false false) := by
  refine returnsInHanded_of_change_and (C := Tryd.checked) (X := (fun w _ => laidMetH Tryd.prog Rows.sigBackRow.laid w)) (fun _ _ _ hh h => h.of_heap hh) own started (by kernel_rfl) Tryd.func6
    (ChangeSpec.witness_shaped (enc := enc) (C := Tryd.checked) (os := os) (X := (fun w _ => laidMetH Tryd.prog Rows.sigBackRow.laid w)) false (World.laidAll Tryd.prog os Rows.sigBackRow.laid) #[.slice none 0 0, .int .i64 0] 8 (World.laidAll_os _ _ _)
      (World.shaped_of_ZipB (by kernel_rfl) (by kernel_rfl)) (by kernel_rfl) (by kernel_rfl) (by kernel_rfl)
      (by rw [MakeChecks.laidMetH_plain _ _ _ (by kernel_rfl)]; exact laidMet_laidAll _ (by kernel_rfl) (by kernel_rfl))) ?_
  intro W base args ds gs before hval0 hW hcnd hsz0 hL _
  have hsz : (DataW.weightsEach Tryd.prog (Tryd.f6.params.toList ++ Rows.sigBackSpec.plain.varTypes Tryd.prog) (ds ++ gs)).all (· ≤ reachBytes) = true := hsz0
  have hval : ∀ (j : Nat) t v, Tryd.f6.params[j]? = some t → args[j]? = some v → Value.okWide Tryd.prog W .any base t v := hval0
  have hW' := hW
  obtain ⟨p, q, hA0, hV, rfl, hfz, hnd⟩ := hW
  have hA : DataW.TrodAll enc Tryd.prog W 0 (fun _ => true) true Tryd.f6.params.toList args.toList ds p := hA0
  rw [Tryd.params6] at hA hval hsz
  obtain ⟨v0, vs0, d0, ds0, p0, q0, hargs, rfl, rfl, h0, r0⟩ := trodAll_cons hA
  obtain ⟨v1, vs1, d1, ds1, p1, q1, rfl, rfl, rfl, h1, r1⟩ := trodAll_cons r0
  obtain ⟨rfl, rfl, rfl⟩ := trodAll_nil r1
  obtain rfl : args = #[v0, v1] := by cases args; simp_all
  obtain ⟨rfl, rfl⟩ := trodVars_none hV
  obtain ⟨a0, n0, c0, rfl⟩ := okWide_slice Tryd.underlying46 (hval 0 46 v0 rfl rfl)
  have t0 := h0
  have lt0 : ∀ x ∈ p0, x.block < W.heap.size := by obtain ⟨m, hm⟩ := t0; exact DataW.trod_lt m _ _ _ hm
  have z0 : ∀ n ∈ d0.weights Tryd.prog 46, n ≤ reachBytes := fun n hn => by simpa using List.all_eq_true.1 hsz n (DataW.weights_mem_each (j := 0) rfl rfl n hn)
  obtain ⟨l0, C0, k0, V0⟩ := Open.open_sl (Open.op_slice Tryd.underlying46 (by kernel_rfl) (Open.op_int Tryd.underlying3)) h0 z0
  obtain ⟨x1, rfl, rfl, rfl, V1⟩ := open_int Tryd.underlying3 (hval 1 3 v1 rfl rfl) h1
  clear hA0 hval0 hsz0 hsz
  refine (Sig.back_law _ _ _ l0 x1 W C0 (sigBack_gb hL)).mono fun e W' ⟨he, bel⟩ => ?_
  subst he
  exact ⟨_, rfl, _, _, _, [], _, [], hW', trodAll_mk1 (shut_bool Tryd.underlying4 _), (trodAll_cons_mk (Below.trod laidOut (by kernel_rfl) (of_decide_eq_true (by kernel_rfl)) t0 bel lt0) (trodAll_cons_mk (shut_int Tryd.underlying3 V1) trodAll_mk0)), rfl, bel.frame _, fun h => by cases h⟩
theorem proved : Rows.SigBackSaid :=
  OpenClaim.holds_of_wide 6 Tryd.f6 rfl rfl rfl rfl rfl rfl rfl ⟨rfl, rfl, rfl, rfl, rfl⟩ rfl rfl rfl rfl rfl (by kernel_rfl) Tryd.func6 (by kernel_rfl)
    (of_decide_eq_true (by kernel_rfl)) (by unfold Func.isWrapper; first | (rw [if_pos (by decide +kernel)]; kernel_rfl) | (rw [if_neg (by decide +kernel)]; exact ⟨rfl, rfl⟩))
    (fun os started H enc _ => lifted os started H enc)
end RowSigBack
theorem sigBack_holds : Rows.SigBackSaid := RowSigBack.proved
theorem sigBack_card_holds : Rows.SigBackCardSaid :=
  Claim7.holds_tied_plain_at .later [] [.data, .data, .data, .sentinel, .sentinel, .widerDeep] true (true, "4728ae4a038ba6485bec36362c8422ce9025123079ae5e665cbec68a0ffb2858") true sigBack_holds (fun _ h => by cases h) (by kernel_rfl) (fun _ h => by cases h) sigBack_row_tie rfl ⟨rfl, rfl⟩ (by kernel_rfl) rfl
    (fun f fn hf hfn => by
      obtain rfl : f = 6 := Option.some.inj ((show Tryd.prog.funcNamed "deadfall/deadfalllaw01.SigBack" = some 6 by kernel_rfl).symm.trans hf) |>.symm
      obtain rfl : fn = Tryd.f6 := (Option.some.inj (Tryd.func6.symm.trans hfn)).symm
      exact ⟨by kernel_rfl, fun j t ht => by
        rw [Tryd.params6] at ht
        have hm : t ∈ [46, 3] := by simpa using Array.mem_of_getElem? ht
        have hall : ([46, 3].all fun u => !Tryd.prog.wantsStandIn u) = true := by kernel_rfl
        exact (show Tryd.prog.wantsStandIn t = false by simpa using List.all_eq_true.1 hall t hm)⟩)
    (by kernel_rfl)
#print axioms sigBack_card_holds
end Go.Proofs.YtdglcnchdhojnaaDoor
