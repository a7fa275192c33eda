/- TellParts: for every row of events the law returns true. -/
import Derived.Test.YtkepmbkghmkodaaRows
import Derived.Test.YtkepmbkghmkodaaOpens
import Derived.Test.YtkepmbkghmkodaaTellLaw
import Derived.ProofKit
import Derived.OpenShut
import Derived.ShutString
import Derived.ChangeOld
import Derived.SizedLaws
namespace Go.Proofs.Ytkepmbkghmkodaa
open Go.RowKit Go.Proofs.YtkepmbkghmkodaaW.PrintWords Go.Proofs.YtkepmbkghmkodaaW.PrintLast Go.Proofs.Ytkepmbkghmkodaa.Tell
set_option linter.unusedVariables false
set_option maxRecDepth 100000 in
theorem op_ev (w : World) : Open.Op Try.prog w kEv 36 (fun e => W64 e.k ∧ W64 e.a ∧ W64 e.p ∧ W64 e.s) :=
  Open.op_struct (V := fun x => W64 x.1 ∧ W64 x.2.1 ∧ W64 x.2.2.1 ∧ W64 x.2.2.2) (fun e : Evt => (e.k, e.a, e.p, e.s)) (fun x => ⟨x.1, x.2.1, x.2.2.1, x.2.2.2⟩) (fun _ => rfl) Try.underlying36 (by kernel_rfl)
    (Open.opf_cons (o' := 1) rfl (Open.op_int Try.underlying3) (by kernel_rfl) rfl
    (Open.opf_cons (o' := 2) rfl (Open.op_int Try.underlying3) (by kernel_rfl) rfl
    (Open.opf_cons (o' := 3) rfl (Open.op_int Try.underlying3) (by kernel_rfl) rfl
    (Open.opf_one rfl (Open.op_int Try.underlying3) (by kernel_rfl))))) (fun x h => h)
namespace RowTellParts
open Go.ChangeShapes Go.WideShapes Go.ChangeAt Go.RowKit
open Go.ChangeMaps (open_string shut_string)
theorem own : ownKnob Try.prog.godebug = none := by kernel_rfl
theorem laidOut : laidOutB Try.prog = true := by kernel_rfl
set_option maxRecDepth 100000 in
theorem lifted (os : Os) (started : os.Started) (H : Type) (enc : TypeId × Value → H) :
    ReturnsInHanded {} Try.checked os 4 .any (Rows.tellPartsSpec.pre6 enc Try.prog Try.f4 Rows.tellPartsRow.domain false) (Rows.tellPartsSpec.post enc Try.prog Try.f4 false true false false) := by
  refine returnsInHanded_of_change_sized (C := Try.checked) own started (by kernel_rfl) Try.func4
    (ChangeSpec.witness6 (enc := enc) (C := Try.checked) false ⟨#[], #[.slice none 0 0], []⟩ 8 (by kernel_rfl) (by kernel_rfl) (by kernel_rfl) (by kernel_rfl)) ?_
  intro W base args ds gs before hval0 hW hcnd hsz0 _
  have hsz : (DataW.weightsEach Try.prog (Try.f4.params.toList ++ Rows.tellPartsSpec.plain.varTypes Try.prog) (ds ++ gs)).all (· ≤ reachBytes) = true := hsz0
  have hval : ∀ (j : Nat) t v, Try.f4.params[j]? = some t → args[j]? = some v → Value.okWide Try.prog W .any base t v := hval0
  have hW' := hW
  obtain ⟨p, q, hA0, hV, rfl, hfz, hnd⟩ := hW
  have hA : DataW.TrodAll enc Try.prog W 0 (fun _ => true) true Try.f4.params.toList args.toList ds p := hA0
  rw [Try.params4] at hA hval hsz
  obtain ⟨v0, vs0, d0, ds0, p0, q0, hargs, rfl, rfl, h0, r0⟩ := trodAll_cons hA
  obtain ⟨rfl, rfl, rfl⟩ := trodAll_nil r0
  obtain rfl : args = #[v0] := by cases args; simp_all
  obtain ⟨rfl, rfl⟩ := trodVars_none hV
  obtain ⟨a0, n0, c0, rfl⟩ := okWide_slice Try.underlying32 (hval 0 32 v0 rfl rfl)
  have t0 := h0
  have lt0 : ∀ x ∈ p0, x.block < W.heap.size := by obtain ⟨m, hm⟩ := t0; exact DataW.trod_lt m _ _ _ hm
  have z0 : ∀ n ∈ d0.weights Try.prog 32, n ≤ reachBytes := fun n hn => by simpa using List.all_eq_true.1 hsz n (DataW.weights_mem_each (j := 0) rfl rfl n hn)
  obtain ⟨l0, C0, k0, V0⟩ := Open.open_sl (Open.op_slice Try.underlying32 (by kernel_rfl) (op_ev W)) h0 z0
  clear hA0 hval0 hsz0 hsz
  refine (parts_law _ _ _ l0 W C0 (fun e he => ⟨(V0.2 e he).2.2.1, (V0.2 e he).2.2.2⟩)).mono fun e W' ⟨he, bel⟩ => ?_
  subst he
  exact ⟨_, rfl, _, _, _, [], _, [], hW', trodAll_mk1 (shut_bool Try.underlying4 _), (trodAll_cons_mk (Below.trod laidOut (by kernel_rfl) (of_decide_eq_true (by kernel_rfl)) t0 bel lt0) trodAll_mk0), rfl, bel.frame _, fun h => by cases h⟩
theorem proved : Rows.TellPartsSaid :=
  OpenClaim.holds_of_wide 4 Try.f4 rfl rfl rfl rfl rfl rfl rfl ⟨rfl, rfl, rfl, rfl, rfl⟩ rfl rfl rfl rfl rfl (by kernel_rfl) Try.func4 (by kernel_rfl)
    (of_decide_eq_true (by kernel_rfl)) (by unfold Func.isWrapper; first | (rw [if_pos (by decide +kernel)]; kernel_rfl) | (rw [if_neg (by decide +kernel)]; exact ⟨rfl, rfl⟩))
    (fun os started H enc _ => lifted os started H enc)
end RowTellParts
theorem tellParts_holds : Rows.TellPartsSaid := RowTellParts.proved
#print axioms tellParts_holds
end Go.Proofs.Ytkepmbkghmkodaa
