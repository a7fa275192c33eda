/- FieldParts: the row. For every two slices of pieces that can be read, the law returns true and leaves them as they were. No condition. -/
import Derived.Test.YtkepmbkghmkodaaRows
import Derived.Test.YtkepmbkghmkodaaFieldParts
import Derived.Test.YtkepmbkghmkodaaOpen
import Derived.ProofKit
import Derived.OpenShut
import Derived.ShutString
import Derived.ChangeOld
import Derived.SizedLaws
namespace Go.Proofs.Ytkepmbkghmkodaa
open Go.RowKit Go.Proofs.YtkepmbkghmkodaaW.PrintWords Go.Proofs.YtkepmbkghmkodaaW.PrintLast Go.Proofs.Ytkepmbkghmkodaa.Base Go.Proofs.Ytkepmbkghmkodaa.Field
set_option linter.unusedVariables false
set_option maxHeartbeats 1000000 in
set_option maxRecDepth 100000 in
theorem parts_any (A : Option Addr) (na ca : Nat) (a : List Piece) (B : Option Addr) (nb cb : Nat) (b : List Piece) (w : World) (hra : Kd.C kPiece w A na a) (hca : na ≤ ca) (hrb : Kd.C kPiece w B nb b) (hcb : nb ≤ cb)
    (hsa : ∀ p ∈ a, p.text.size ≤ reachBytes) (hsb : ∀ p ∈ b, p.text.size ≤ reachBytes) :
    Calls Try.prog 3 #[.slice A na ca, .slice B nb cb] w fun e w' => e = .returned (.bool true) ∧ Below w.heap.size w w' := by
  obtain rfl := hra.1
  obtain rfl := hrb.1
  by_cases ha5 : psize a ≤ 5000
  · by_cases hb5 : psize b ≤ 5000
    · exact parts_main A ca a B cb b w hra hca hrb hcb hsa hsb ha5 hb5
    · have ea : (heavyI a == 1) = false := by simp [heavyI, ha5]
      have eb : (heavyI b == 1) = true := by simp [heavyI, hb5]
      have HRB := Aside0.mk hrb
      clear hrb
      go_enter Try.func3, Try.ntmps3
      go_wp2_with fail
      refine (alive_any _).mono ?_
      rintro e w1 ⟨rfl, hB⟩
      have HB1 := Aside0.mk hB
      clear hB
      go_wp2_with fail
      refine (heavy_any _ _ _ a _ (Kd.C_below hra HB1.out) hca hsa).mono ?_
      rintro e w2 ⟨rfl, hB⟩
      have HB2 := Aside0.mk (below_trans HB1.out (below_sub hB HB1.out.size))
      clear hB HB1
      go_wp2_with fail
      refine (heavy_any _ _ _ b _ (Kd.C_below HRB.out HB2.out) hcb hsb).mono ?_
      rintro e w3 ⟨rfl, hB⟩
      have HB3 := Aside0.mk (below_trans HB2.out (below_sub hB HB2.out.size))
      clear hB HB2
      go_wp2
      go_ret
      exact ⟨rfl, HB3.out⟩
  · have ea : (heavyI a == 1) = true := by simp [heavyI, ha5]
    go_enter Try.func3, Try.ntmps3
    go_wp2_with fail
    refine (alive_any _).mono ?_
    rintro e w1 ⟨rfl, hB⟩
    have HB1 := Aside0.mk hB
    clear hB
    go_wp2_with fail
    refine (heavy_any _ _ _ a _ (Kd.C_below hra HB1.out) hca hsa).mono ?_
    rintro e w2 ⟨rfl, hB⟩
    have HB2 := Aside0.mk (below_trans HB1.out (below_sub hB HB1.out.size))
    clear hB HB1
    go_wp2
    go_ret
    exact ⟨rfl, HB2.out⟩
namespace RowFieldParts
open Go.ChangeShapes Go.WideShapes Go.ChangeAt Go.RowKit
open Go.ChangeMaps (open_string shut_string)
theorem own : ownKnob Try.prog.godebug = none := by kernel_rfl
theorem laidOut : laidOutB Try.prog = true := by kernel_rfl
set_option maxRecDepth 100000 in
theorem lifted (os : Os) (started : os.Started) (H : Type) (enc : TypeId × Value → H) :
    ReturnsInHanded {} Try.checked os 3 .any (Rows.fieldPartsSpec.pre6 enc Try.prog Try.f3 Rows.fieldPartsRow.domain false) (Rows.fieldPartsSpec.post enc Try.prog Try.f3 false true false false) := by
  refine returnsInHanded_of_change_sized (C := Try.checked) own started (by kernel_rfl) Try.func3
    (ChangeSpec.witness6 (enc := enc) (C := Try.checked) false ⟨#[], #[.slice none 0 0, .slice none 0 0], []⟩ 8 (by kernel_rfl) (by kernel_rfl) (by kernel_rfl) (by kernel_rfl)) ?_
  intro W base args ds gs before hval0 hW hcnd hsz0 _
  have hsz : (DataW.weightsEach Try.prog (Try.f3.params.toList ++ Rows.fieldPartsSpec.plain.varTypes Try.prog) (ds ++ gs)).all (· ≤ reachBytes) = true := hsz0
  have hval : ∀ (j : Nat) t v, Try.f3.params[j]? = some t → args[j]? = some v → Value.okWide Try.prog W .any base t v := hval0
  have hW' := hW
  obtain ⟨p, q, hA0, hV, rfl, hfz, hnd⟩ := hW
  have hA : DataW.TrodAll enc Try.prog W 0 (fun _ => true) true Try.f3.params.toList args.toList ds p := hA0
  rw [Try.params3] at hA hval hsz
  obtain ⟨v0, vs0, d0, ds0, p0, q0, hargs, rfl, rfl, h0, r0⟩ := trodAll_cons hA
  obtain ⟨v1, vs1, d1, ds1, p1, q1, rfl, rfl, rfl, h1, r1⟩ := trodAll_cons r0
  obtain ⟨rfl, rfl, rfl⟩ := trodAll_nil r1
  obtain rfl : args = #[v0, v1] := by cases args; simp_all
  obtain ⟨rfl, rfl⟩ := trodVars_none hV
  obtain ⟨a0, n0, c0, rfl⟩ := okWide_slice Try.underlying22 (hval 0 22 v0 rfl rfl)
  have t0 := h0
  have lt0 : ∀ x ∈ p0, x.block < W.heap.size := by obtain ⟨m, hm⟩ := t0; exact DataW.trod_lt m _ _ _ hm
  have z0 : ∀ n ∈ d0.weights Try.prog 22, n ≤ reachBytes := fun n hn => by simpa using List.all_eq_true.1 hsz n (DataW.weights_mem_each (j := 0) rfl rfl n hn)
  obtain ⟨l0, C0, k0, V0⟩ := Open.open_sl (Open.op_slice Try.underlying22 (by kernel_rfl) (Open.op_piece W)) h0 z0
  obtain ⟨a1, n1, c1, rfl⟩ := okWide_slice Try.underlying22 (hval 1 22 v1 rfl rfl)
  have t1 := h1
  have lt1 : ∀ x ∈ p1, x.block < W.heap.size := by obtain ⟨m, hm⟩ := t1; exact DataW.trod_lt m _ _ _ hm
  have z1 : ∀ n ∈ d1.weights Try.prog 22, n ≤ reachBytes := fun n hn => by simpa using List.all_eq_true.1 hsz n (DataW.weights_mem_each (j := 1) rfl rfl n hn)
  obtain ⟨l1, C1, k1, V1⟩ := Open.open_sl (Open.op_slice Try.underlying22 (by kernel_rfl) (Open.op_piece W)) h1 z1
  clear hA0 hval0 hsz0 hsz
  refine (parts_any _ _ _ l0 _ _ _ l1 W C0 k0 C1 k1 V0.2 V1.2).mono fun e W' ⟨he, bel⟩ => ?_
  subst he
  exact ⟨_, rfl, _, _, _, [], _, [], hW', trodAll_mk1 (shut_bool Try.underlying4 _), (trodAll_cons_mk (Below.trod laidOut (by kernel_rfl) (of_decide_eq_true (by kernel_rfl)) t0 bel lt0) (trodAll_cons_mk (Below.trod laidOut (by kernel_rfl) (of_decide_eq_true (by kernel_rfl)) t1 bel lt1) trodAll_mk0)), rfl, bel.frame _, fun h => by cases h⟩
theorem proved : Rows.FieldPartsSaid :=
  OpenClaim.holds_of_wide 3 Try.f3 rfl rfl rfl rfl rfl rfl rfl ⟨rfl, rfl, rfl, rfl, rfl⟩ rfl rfl rfl rfl rfl (by kernel_rfl) Try.func3 (by kernel_rfl)
    (of_decide_eq_true (by kernel_rfl)) (by unfold Func.isWrapper; first | (rw [if_pos (by decide +kernel)]; kernel_rfl) | (rw [if_neg (by decide +kernel)]; exact ⟨rfl, rfl⟩))
    (fun os started H enc _ => lifted os started H enc)
end RowFieldParts
theorem fieldParts_holds : Rows.FieldPartsSaid := RowFieldParts.proved
#print axioms fieldParts_holds
end Go.Proofs.Ytkepmbkghmkodaa
