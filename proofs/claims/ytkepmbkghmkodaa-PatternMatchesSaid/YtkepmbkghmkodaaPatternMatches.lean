/- PatternMatches: for every slice of pieces and every text that can be read, the law returns true and leaves them as they were. No condition. -/
import Derived.Test.YtkepmbkghmkodaaRows
import Derived.Test.YtkepmbkghmkodaaPatLaw
import Derived.Test.YtkepmbkghmkodaaOpen
import Derived.ProofKit
import Derived.OpenShut
import Derived.ShutString
import Derived.ChangeOld
import Derived.SizedLaws
namespace Go.Proofs.Ytkepmbkghmkodaa
open Go.RowKit Go.Proofs.YtkepmbkghmkodaaW.PrintWords Go.Proofs.YtkepmbkghmkodaaW.PrintLast Go.Proofs.Ytkepmbkghmkodaa.Base Go.Proofs.Ytkepmbkghmkodaa.P Go.Proofs.Ytkepmbkghmkodaa.Pat
set_option linter.unusedVariables false
set_option maxRecDepth 100000 in
theorem op_pc (w : World) : Open.Op Try.prog w k26 26 (fun x => x.f0.size ≤ reachBytes) :=
  Open.op_struct (V := fun x => x.1.size ≤ reachBytes ∧ True ∧ True) (fun x : S26 => (x.f0, x.f1, x.f2)) (fun x => ⟨x.1, x.2.1, x.2.2⟩) (fun _ => rfl) Try.underlying26 (by kernel_rfl)
    (Open.opf_cons (o' := 1) (V := fun s : ByteArray => s.size ≤ reachBytes) (V' := fun _ : Bool × Bool => True ∧ True) rfl (Open.op_string Try.underlying9) (by kernel_rfl) rfl (Open.opf_cons (o' := 2) (V := fun _ : Bool => True) (V' := fun _ : Bool => True) rfl (Open.op_bool Try.underlying4) (by kernel_rfl) rfl (Open.opf_one rfl (Open.op_bool Try.underlying4) (by kernel_rfl)))) (fun x h => h.1)
theorem matches_any (A0 : Option Addr) (n c : Nat) (l : List S26) (s : ByteArray) (w : World) (hr : Kd.C k26 w A0 n l) (hc : n ≤ c) (hl : l.length * Try.prog.bytesOf 26 ≤ reachBytes ∧ ∀ x ∈ l, x.f0.size ≤ reachBytes) :
    Calls Try.prog 9 #[.slice A0 n c, .string s] w fun e w' => e = .returned (.bool true) ∧ Below w.heap.size w w' := by
  obtain rfl := hr.1
  have hb : Try.prog.bytesOf 26 = 24 := by kernel_rfl
  rw [hb] at hl
  have hre : reachBytes ≤ 140737488355328 := by decide
  obtain ⟨k, hk⟩ := matches_f alive_f l s (fun p hp => Nat.le_trans (hl.2 p hp) hre) (by have := hl.1; omega)
  exact deadfalllaw08_PatternMatches.calls k A0 c l s true w hr hc hk
namespace RowPatternMatches
open Go.ChangeShapes Go.WideShapes Go.ChangeAt Go.RowKit
open Go.ChangeMaps (open_string shut_string)
theorem own : ownKnob Try.prog.godebug = none := by kernel_rfl
theorem laidOut : laidOutB Try.prog = true := by kernel_rfl
set_option maxRecDepth 100000 in
theorem lifted (os : Os) (started : os.Started) (H : Type) (enc : TypeId × Value → H) :
    ReturnsInHanded {} Try.checked os 9 .any (Rows.patternMatchesSpec.pre6 enc Try.prog Try.f9 Rows.patternMatchesRow.domain false) (Rows.patternMatchesSpec.post enc Try.prog Try.f9 false true false false) := by
  refine returnsInHanded_of_change_sized (C := Try.checked) own started (by kernel_rfl) Try.func9
    (ChangeSpec.witness6 (enc := enc) (C := Try.checked) false ⟨#[], #[.slice none 0 0, .string ByteArray.empty], []⟩ 8 (by kernel_rfl) (by kernel_rfl) (by kernel_rfl) (by kernel_rfl)) ?_
  intro W base args ds gs before hval0 hW hcnd hsz0 _
  have hsz : (DataW.weightsEach Try.prog (Try.f9.params.toList ++ Rows.patternMatchesSpec.plain.varTypes Try.prog) (ds ++ gs)).all (· ≤ reachBytes) = true := hsz0
  have hval : ∀ (j : Nat) t v, Try.f9.params[j]? = some t → args[j]? = some v → Value.okWide Try.prog W .any base t v := hval0
  have hW' := hW
  obtain ⟨p, q, hA0, hV, rfl, hfz, hnd⟩ := hW
  have hA : DataW.TrodAll enc Try.prog W 0 (fun _ => true) true Try.f9.params.toList args.toList ds p := hA0
  rw [Try.params9] at hA hval hsz
  obtain ⟨v0, vs0, d0, ds0, p0, q0, hargs, rfl, rfl, h0, r0⟩ := trodAll_cons hA
  obtain ⟨v1, vs1, d1, ds1, p1, q1, rfl, rfl, rfl, h1, r1⟩ := trodAll_cons r0
  obtain ⟨rfl, rfl, rfl⟩ := trodAll_nil r1
  obtain rfl : args = #[v0, v1] := by cases args; simp_all
  obtain ⟨rfl, rfl⟩ := trodVars_none hV
  obtain ⟨a0, n0, c0, rfl⟩ := okWide_slice Try.underlying22 (hval 0 22 v0 rfl rfl)
  have t0 := h0
  have lt0 : ∀ x ∈ p0, x.block < W.heap.size := by obtain ⟨m, hm⟩ := t0; exact DataW.trod_lt m _ _ _ hm
  have z0 : ∀ n ∈ d0.weights Try.prog 22, n ≤ reachBytes := fun n hn => by simpa using List.all_eq_true.1 hsz n (DataW.weights_mem_each (j := 0) rfl rfl n hn)
  obtain ⟨l0, C0, k0, V0⟩ := Open.open_sl (Open.op_slice Try.underlying22 (by kernel_rfl) (op_pc W)) h0 z0
  obtain ⟨s1, rfl, rfl, rfl, y1⟩ := open_string Try.underlying9 (hval 1 9 v1 rfl rfl) h1
  have V1 : s1.size ≤ reachBytes := by
    have z := sized_string hsz (j := 1) (t := 9) rfl rfl
    rw [Array.length_toList] at z
    exact z
  clear hA0 hval0 hsz0 hsz
  refine (matches_any _ _ _ l0 s1 W C0 k0 V0).mono fun e W' ⟨he, bel⟩ => ?_
  subst he
  exact ⟨_, rfl, _, _, _, [], _, [], hW', trodAll_mk1 (shut_bool Try.underlying4 _), (trodAll_cons_mk (Below.trod laidOut (by kernel_rfl) (of_decide_eq_true (by kernel_rfl)) t0 bel lt0) (trodAll_cons_mk (shut_string Try.underlying9 y1) trodAll_mk0)), rfl, bel.frame _, fun h => by cases h⟩
theorem proved : Rows.PatternMatchesSaid :=
  OpenClaim.holds_of_wide 9 Try.f9 rfl rfl rfl rfl rfl rfl rfl ⟨rfl, rfl, rfl, rfl, rfl⟩ rfl rfl rfl rfl rfl (by kernel_rfl) Try.func9 (by kernel_rfl)
    (of_decide_eq_true (by kernel_rfl)) (by unfold Func.isWrapper; first | (rw [if_pos (by decide +kernel)]; kernel_rfl) | (rw [if_neg (by decide +kernel)]; exact ⟨rfl, rfl⟩))
    (fun os started H enc _ => lifted os started H enc)
end RowPatternMatches
theorem patternMatches_holds : Rows.PatternMatchesSaid := RowPatternMatches.proved
#print axioms patternMatches_holds
end Go.Proofs.Ytkepmbkghmkodaa
