/- KernSafe: for every set of signals, every number and every count of forks the law returns true: the row, and its card. -/
import Derived.Test.YtdglcnchdhojnaaDoorRows
import Derived.Test.YtdglcnchdhojnaaDoorCards
import Derived.Test.YtdglcnchdhojnaaDoorTie
import Derived.Test.YtdglcnchdhojnaaDoorProcLaw
import Derived.Test.YtdglcnchdhojnaaDoorOpens
import Derived.ProofKit
import Derived.OpenShut
import Derived.ShutString
import Derived.ChangeOld
import Derived.SizedLaws
import Derived.LaidMore
import Derived.Lay
import Derived.Lib.LaidU8
import Derived.SevenTiedAt
import Derived.Stop.Joined
namespace Go.Proofs.YtdglcnchdhojnaaDoor
open Go.RowKit Go.Proofs.YtdglcnchdhojnaaDoorW.PrintWords Go.Proofs.YtdglcnchdhojnaaDoorW.PrintLast
set_option linter.unusedVariables false
theorem tabB_of_reads {W : World} (h : Lib.VarReads Tryd.prog W "math/bits.deBruijn32tab" Rows.laid_math_bits_deBruijn32tab) : Sig.TabB W := by
  obtain ⟨g, t, cs, fuel, p, hg, ht, hv, hd⟩ := h
  obtain rfl := Option.some.inj ((show Tryd.prog.globalNamed "math/bits.deBruijn32tab" = some 1 by kernel_rfl).symm.trans hg)
  obtain rfl := Option.some.inj ((show (Tryd.prog.globals[1]?).map (·.type) = some 165 by kernel_rfl).symm.trans ht)
  have key := Lib.cells_of_tab (zs := Lib.deBruijn32tab.map fun n : Nat => (n : Int)) Tryd.underlying165 Tryd.underlying5 (by kernel_rfl) (by kernel_rfl) (hd.trans (by rfl))
  intro j hj
  rw [World.var?_cell hg hv j]
  have e : cs.toList[j]? = some (.int .u8 ((Lib.deBruijn32tab.getD j 0 : Nat) : Int)) := by
    rw [key, List.getElem?_map, List.getElem?_map, List.getD_eq_getElem?_getD, List.getElem?_eq_getElem hj]
    rfl
  simpa using e
theorem safe_lawI (x s k : Int) (w : World) (hx : (Lit.int .u32 x).wf = true) (hk : (Lit.int .u8 k).wf = true) (ht : Sig.TabB w) :
    Calls Tryd.prog 3 #[.int .u32 x, .int .i64 s, .int .u8 k] w fun e w' => e = .returned (.bool true) ∧ Below w.heap.size w w' := by
  simp only [Lit.wf, Bool.and_eq_true, decide_eq_true_eq] at hx hk
  have h1 : IntKind.u32.min = 0 := rfl
  have h2 : IntKind.u32.max = 4294967295 := rfl
  have h3 : IntKind.u8.min = 0 := rfl
  have h4 : IntKind.u8.max = 255 := rfl
  rw [h1, h2] at hx
  rw [h3, h4] at hk
  obtain ⟨n, rfl⟩ : ∃ n : Nat, x = (n : Int) := ⟨x.toNat, by omega⟩
  exact Kern.safe_law n s k w (by omega) hk.1 hk.2 ht
theorem kernSafe_tb {W : World} (h : laidMetH Tryd.prog Rows.kernSafeRow.laid W) : Sig.TabB W := by
  rw [MakeChecks.laidMetH_plain _ _ _ (by kernel_rfl)] at h
  exact tabB_of_reads (Lib.laidMet.reads h (by simp [Rows.kernSafeRow]))
namespace RowKernSafe
open Go.ChangeShapes Go.WideShapes Go.ChangeAt Go.RowKit
open Go.ChangeMaps (open_string shut_string)
theorem own : ownKnob Tryd.prog.godebug = none := by kernel_rfl
theorem laidOut : laidOutB Tryd.prog = true := by kernel_rfl
set_option maxRecDepth 100000 in
theorem lifted (os : Os) (started : os.Started) (H : Type) (enc : TypeId × Value → H) :
    ReturnsInHanded {} Tryd.checked os 3 .any (fun w args => (Rows.kernSafeSpec.pre enc Tryd.prog Tryd.f3 Rows.kernSafeRow.domain false w args ∧ laidMetH Tryd.prog Rows.kernSafeRow.laid w) ∧ sizedMet enc Tryd.prog Tryd.f3 (OpenSpec.ofChange Rows.kernSafeSpec) false w args) (Rows.kernSafeSpec.post enc Tryd.prog Tryd.f3 false true false false) := by
  refine returnsInHanded_of_change_and (C := Tryd.checked) (X := (fun w _ => laidMetH Tryd.prog Rows.kernSafeRow.laid w)) (fun _ _ _ hh h => h.of_heap hh) own started (by kernel_rfl) Tryd.func3
    (ChangeSpec.witness_shaped (enc := enc) (C := Tryd.checked) (os := os) (X := (fun w _ => laidMetH Tryd.prog Rows.kernSafeRow.laid w)) false (World.laidAll Tryd.prog os Rows.kernSafeRow.laid) #[.int .u32 0, .int .i64 0, .int .u8 0] 8 (World.laidAll_os _ _ _)
      (World.shaped_of_ZipB (by kernel_rfl) (by kernel_rfl)) (by kernel_rfl) (by kernel_rfl) (by kernel_rfl)
      (by rw [MakeChecks.laidMetH_plain _ _ _ (by kernel_rfl)]; exact laidMet_laidAll _ (by kernel_rfl) (by kernel_rfl))) ?_
  intro W base args ds gs before hval0 hW hcnd hsz0 hL _
  have hsz : (DataW.weightsEach Tryd.prog (Tryd.f3.params.toList ++ Rows.kernSafeSpec.plain.varTypes Tryd.prog) (ds ++ gs)).all (· ≤ reachBytes) = true := hsz0
  have hval : ∀ (j : Nat) t v, Tryd.f3.params[j]? = some t → args[j]? = some v → Value.okWide Tryd.prog W .any base t v := hval0
  have hW' := hW
  obtain ⟨p, q, hA0, hV, rfl, hfz, hnd⟩ := hW
  have hA : DataW.TrodAll enc Tryd.prog W 0 (fun _ => true) true Tryd.f3.params.toList args.toList ds p := hA0
  rw [Tryd.params3] at hA hval hsz
  obtain ⟨v0, vs0, d0, ds0, p0, q0, hargs, rfl, rfl, h0, r0⟩ := trodAll_cons hA
  obtain ⟨v1, vs1, d1, ds1, p1, q1, rfl, rfl, rfl, h1, r1⟩ := trodAll_cons r0
  obtain ⟨v2, vs2, d2, ds2, p2, q2, rfl, rfl, rfl, h2, r2⟩ := trodAll_cons r1
  obtain ⟨rfl, rfl, rfl⟩ := trodAll_nil r2
  obtain rfl : args = #[v0, v1, v2] := by cases args; simp_all
  obtain ⟨rfl, rfl⟩ := trodVars_none hV
  obtain ⟨x0, rfl, rfl, rfl, V0⟩ := open_int Tryd.underlying23 (hval 0 23 v0 rfl rfl) h0
  obtain ⟨x1, rfl, rfl, rfl, V1⟩ := open_int Tryd.underlying3 (hval 1 3 v1 rfl rfl) h1
  obtain ⟨x2, rfl, rfl, rfl, V2⟩ := open_int Tryd.underlying5 (hval 2 5 v2 rfl rfl) h2
  clear hA0 hval0 hsz0 hsz
  refine (safe_lawI x0 x1 x2 W V0 V2 (kernSafe_tb hL)).mono fun e W' ⟨he, bel⟩ => ?_
  subst he
  exact ⟨_, rfl, _, _, _, [], _, [], hW', trodAll_mk1 (shut_bool Tryd.underlying4 _), (trodAll_cons_mk (shut_int Tryd.underlying23 V0) (trodAll_cons_mk (shut_int Tryd.underlying3 V1) (trodAll_cons_mk (shut_int Tryd.underlying5 V2) trodAll_mk0))), rfl, bel.frame _, fun h => by cases h⟩
theorem proved : Rows.KernSafeSaid :=
  OpenClaim.holds_of_wide 3 Tryd.f3 rfl rfl rfl rfl rfl rfl rfl ⟨rfl, rfl, rfl, rfl, rfl⟩ rfl rfl rfl rfl rfl (by kernel_rfl) Tryd.func3 (by kernel_rfl)
    (of_decide_eq_true (by kernel_rfl)) (by unfold Func.isWrapper; first | (rw [if_pos (by decide +kernel)]; kernel_rfl) | (rw [if_neg (by decide +kernel)]; exact ⟨rfl, rfl⟩))
    (fun os started H enc _ => lifted os started H enc)
end RowKernSafe
theorem kernSafe_holds : Rows.KernSafeSaid := RowKernSafe.proved
theorem kernSafe_card_holds : Rows.KernSafeCardSaid :=
  Claim7.holds_tied_plain_at .later [] [.data] true (true, "4728ae4a038ba6485bec36362c8422ce9025123079ae5e665cbec68a0ffb2858") true kernSafe_holds (fun _ h => by cases h) (by kernel_rfl) (fun _ h => by cases h) kernSafe_row_tie rfl ⟨rfl, rfl⟩ (by kernel_rfl) rfl
    (fun f fn hf hfn => by
      obtain rfl : f = 3 := Option.some.inj ((show Tryd.prog.funcNamed "deadfall/deadfalllaw12.KernSafe" = some 3 by kernel_rfl).symm.trans hf) |>.symm
      obtain rfl : fn = Tryd.f3 := (Option.some.inj (Tryd.func3.symm.trans hfn)).symm
      exact ⟨by kernel_rfl, fun j t ht => by
        rw [Tryd.params3] at ht
        have hm : t ∈ [23, 3, 5] := by simpa using Array.mem_of_getElem? ht
        have hall : ([23, 3, 5].all fun u => !Tryd.prog.wantsStandIn u) = true := by kernel_rfl
        exact (show Tryd.prog.wantsStandIn t = false by simpa using List.all_eq_true.1 hall t hm)⟩)
    (by kernel_rfl)
#print axioms kernSafe_card_holds
end Go.Proofs.YtdglcnchdhojnaaDoor
