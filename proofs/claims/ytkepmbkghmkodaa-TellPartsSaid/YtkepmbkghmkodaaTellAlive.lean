/- tell: tellAlive. -/
import Derived.Test.YtkepmbkghmkodaaTellSlow
import Derived.Test.YtkepmbkghmkodaaWEqStruct
namespace Go.Proofs.Ytkepmbkghmkodaa.Tell
open Go.RowKit Go.Proofs.YtkepmbkghmkodaaW.PrintWords Go.Proofs.YtkepmbkghmkodaaW.PrintLast Go.Proofs.Ytkepmbkghmkodaa.Base Go.Proofs.Ytkepmbkghmkodaa.Seq Go.Proofs.Ytkepmbkghmkodaa.MapSum Go.Maps
set_option linter.unusedVariables false
set_option linter.unusedSimpArgs false
theorem eq_acc (d : Nat) (w : World) (x1 y1 x2 y2 x3 y3 x4 y4 x5 y5 x6 y6 : Int) :
    (Op.equalIn (d + 2) 39 (.agg #[.int .i64 x1, .int .i64 x2, .int .i64 x3, .int .i64 x4, .int .i64 x5, .int .i64 x6]) (.agg #[.int .i64 y1, .int .i64 y2, .int .i64 y3, .int .i64 y4, .int .i64 y5, .int .i64 y6])).run Try.prog w = .ok (x1 == y1 && (x2 == y2 && (x3 == y3 && (x4 == y4 && (x5 == y5 && (x6 == y6)))))) w := by
  refine eqA_of Try.underlying39 (by kernel_rfl) ?_
  refine eqf_cons (by rfl) (by go_simp; rfl) (by go_simp; rfl) (by go_simp) ?_
  refine eqf_cons (by rfl) (by go_simp; rfl) (by go_simp; rfl) (by go_simp) ?_
  refine eqf_cons (by rfl) (by go_simp; rfl) (by go_simp; rfl) (by go_simp) ?_
  refine eqf_cons (by rfl) (by go_simp; rfl) (by go_simp; rfl) (by go_simp) ?_
  refine eqf_cons (by rfl) (by go_simp; rfl) (by go_simp; rfl) (by go_simp) ?_
  exact eqf_last (by rfl) (by go_simp; rfl) (by go_simp; rfl) (by go_simp)
theorem eq_same (w : World) (x1 x2 x3 x4 x5 x6 : Int) :
    (Op.equalIn 10000 39 (.agg #[.int .i64 x1, .int .i64 x2, .int .i64 x3, .int .i64 x4, .int .i64 x5, .int .i64 x6]) (.agg #[.int .i64 x1, .int .i64 x2, .int .i64 x3, .int .i64 x4, .int .i64 x5, .int .i64 x6])).run Try.prog w = .ok true w := by
  have h := eq_acc 9998 w x1 x1 x2 x2 x3 x3 x4 x4 x5 x5 x6 x6
  simpa using h
def ecl (e : Evt) : List Value := [.int .i64 e.k, .int .i64 e.a, .int .i64 e.p, .int .i64 e.s]
theorem evs_get : ∀ (ys : List Evt) (j i : Nat) (p : Evt) (u : Value), ys[j]? = some p → (ecl p)[i]? = some u → (ys.flatMap ecl)[j * 4 + i]? = some u
  | [], j, i, p, u, h, _ => by simp at h
  | y :: ys, 0, i, p, u, h, hu => by
    have : y = p := by simpa using h
    subst this
    rw [List.flatMap_cons, Nat.zero_mul, Nat.zero_add, List.getElem?_append_left (List.getElem?_eq_some_iff.1 hu).1]
    exact hu
  | y :: ys, j + 1, i, p, u, h, hu => by
    rw [List.flatMap_cons, List.getElem?_append_right (show (ecl y).length ≤ (j + 1) * 4 + i by show 4 ≤ _; omega), show (j + 1) * 4 + i - (ecl y).length = j * 4 + i by show (j + 1) * 4 + i - 4 = _; omega]
    exact evs_get ys j i p u (by simpa using h) hu
theorem evs_rows {w : World} {g t : Nat} {ys : List Evt} {cs : Array Value} (hg : w.heap[g]? = some (.cells cs t (0, 0))) (e : cs = (ys.flatMap ecl).toArray) (o : Nat) (hl : ys.length ≤ 1000) (ho : o ≤ ys.length) : kEv.C w (some ⟨g, o * 4, none⟩) (ys.length - o) (ys.drop o) := by
  subst e
  refine ⟨by rw [List.length_drop], by omega, fun _ => ⟨_, rfl, fun j p hp => ⟨ecl p, rfl, ⟨[.int .i64 p.k], [.int .i64 p.a, .int .i64 p.p, .int .i64 p.s], rfl, rfl, [.int .i64 p.a], [.int .i64 p.p, .int .i64 p.s], rfl, rfl, [.int .i64 p.p], [.int .i64 p.s], rfl, rfl, rfl⟩, fun i u hu => ?_⟩⟩⟩
  have h1 : ys[o + j]? = some p := by rw [← List.getElem?_drop]; exact hp
  have h2 := evs_get ys (o + j) i p u h1 hu
  have h3 : (⟨g, o * 4, none⟩ : Addr).add (j * 4 + i) = ⟨g, (o + j) * 4 + i, none⟩ := by
    rw [show (⟨g, o * 4, none⟩ : Addr) = (⟨g, 0, none⟩ : Addr).add (o * 4) by rw [add_plain], Go.Proofs.YtkepmbkghmkodaaW.PrintWords.add_add, add_plain]
    congr 1
    omega
  show w.cell? ((⟨g, o * 4, none⟩ : Addr).add (j * 4 + i)) = some u
  rw [h3, blk_cell hg]
  exact (List.getElem?_toArray).trans h2
def L3 : List Evt := [⟨1, 1, 1, 2⟩, ⟨2, 1, 1, 2⟩, ⟨3, 4, 1, 2⟩]
theorem L3_wf : ∀ e ∈ L3, W64 e.p ∧ W64 e.s ∧ W64 e.a := by
  intro e he
  simp only [L3, List.mem_cons, List.not_mem_nil, or_false] at he
  rcases he with rfl | rfl | rfl <;> exact ⟨rfl, rfl, rfl⟩
theorem L3_slow : slw (.map []) 0 L3 = 3 := by
  have h1 : Maps.has (DataW.put (.map [] : Dm) (ky 1 2) (.lit (.int .i64 1))) (ky 1 2) = true := has_put_same isMap_empty (by trivial) _
  have h2 : DataW.atKey (DataW.put (.map [] : Dm) (ky 1 2) (.lit (.int .i64 1))) (ky 1 2) (.lit (.int .i64 0)) = .lit (.int .i64 1) := atKey_put_same isMap_empty (by trivial) _ _
  have a1 := slw_came (D := (.map [] : Dm)) (m := 0) (e := ⟨1, 1, 1, 2⟩) (l := [⟨2, 1, 1, 2⟩, ⟨3, 4, 1, 2⟩]) rfl
  have a2 := slw_else (D := DataW.put (.map [] : Dm) (ky 1 2) (.lit (.int .i64 1))) (m := 0) (e := ⟨2, 1, 1, 2⟩) (l := [⟨3, 4, 1, 2⟩]) (by decide) (by decide)
  have a3 := slw_has (D := DataW.put (.map [] : Dm) (ky 1 2) (.lit (.int .i64 1))) (m := 0) (e := ⟨3, 4, 1, 2⟩) (l := []) rfl h1
  have a4 : numD (DataW.put (.map [] : Dm) (ky 1 2) (.lit (.int .i64 1))) ⟨3, 4, 1, 2⟩ = 1 := by
    show (match DataW.atKey (DataW.put (.map [] : Dm) (ky 1 2) (.lit (.int .i64 1))) (ky 1 2) (.lit (.int .i64 0)) with | .lit (.int _ x) => x | _ => 0) = 1
    rw [h2]
  rw [a4] at a3
  have a5 : slw (DataW.put (.map [] : Dm) (ky 1 2) (.lit (.int .i64 1))) (max 0 (wrap64 ((⟨3, 4, 1, 2⟩ : Evt).a - 1))) [] = 3 := by
    rw [slw]
    show max 0 (wrap64 (4 - 1)) = 3
    rw [wrap64]; decide +kernel
  exact a1.trans (a2.trans (a3.trans a5))
set_option maxHeartbeats 8000000 in
set_option maxRecDepth 100000 in
theorem talive_any (w : World) : Calls Try.prog 19 #[] w fun r w' => r = .returned (.bool true) ∧ Below w.heap.size w w' := by
  have HG := Aside0.mk (blk_new w (.cells #[.int .i64 1, .int .i64 1, .int .i64 1, .int .i64 2, .int .i64 2, .int .i64 1, .int .i64 1, .int .i64 2, .int .i64 3, .int .i64 4, .int .i64 1, .int .i64 2] 37))
  have HB := Aside0.mk (below_alloc (Below.refl w.heap.size w) (.cells #[.int .i64 1, .int .i64 1, .int .i64 1, .int .i64 2, .int .i64 2, .int .i64 1, .int .i64 1, .int .i64 2, .int .i64 3, .int .i64 4, .int .i64 1, .int .i64 2] 37))
  have HC := Aside0.mk (evs_rows (ys := L3) HG.out rfl 0 (by decide) (by decide))
  have HD := Aside0.mk (evs_rows (ys := L3) HG.out rfl 1 (by decide) (by decide))
  have E1 := Aside0.mk (show add (gk 1) L3.reverse 0 = 1 by decide)
  have E2 := Aside0.mk (show add (gk 2) L3.reverse 0 = 1 by decide)
  have E3 := Aside0.mk (show add (gk 3) L3.reverse 0 = 1 by decide)
  have E4 := Aside0.mk (show add (gk 4) L3.reverse 0 = 0 by decide)
  have E5 := Aside0.mk (show add (gk 5) L3.reverse 0 = 0 by decide)
  have E6 := Aside0.mk (show add go L3.reverse 0 = 0 by decide)
  have R1 := Aside0.mk (show rgt [] L3 = true by decide)
  have R2 := Aside0.mk (show rgt [] (L3.drop 1) = false by decide)
  have HW2 := Aside0.mk (show ∀ e ∈ L3, W64 e.p ∧ W64 e.s from fun e he => ⟨(L3_wf e he).1, (L3_wf e he).2.1⟩)
  have HW3 := Aside0.mk (show ∀ e ∈ L3.drop 1, W64 e.p ∧ W64 e.s from fun e he => HW2.out e (List.mem_of_mem_drop he))
  have heq := fun w_ => eq_same w_ 1 1 1 0 0 0
  clear HG
  go_enter Try.func19, Try.ntmps19
  go_upto_region 2 with (fail)
  generalize w.alloc (.cells #[.int .i64 1, .int .i64 1, .int .i64 1, .int .i64 2, .int .i64 2, .int .i64 1, .int .i64 1, .int .i64 2, .int .i64 3, .int .i64 4, .int .i64 1, .int .i64 2] 37) = w1 at *
  go_wp2_with (first
    | (go_at_call 71; (with_reducible refine (right_any (some ⟨w.heap.size, 0, none⟩) 3 3 L3 _ HC.out HW2.out (by decide)).mono ?_); rintro r w2 ⟨rfl, hB⟩; rw [R1.out]; have n0 := Aside0.mk (HB.out.trans (below_sub hB HB.out.size)); have n1 := Aside0.mk (Kd.C_below HC.out hB); have n2 := Aside0.mk (Kd.C_below HD.out hB); clear hB HB HC HD; have HB := n0; have HC := n1; have HD := n2; clear n0 n1 n2)
    | (go_at_call 20; (with_reducible refine (count_first (some ⟨w.heap.size, 0, none⟩) 3 3 L3 0 _ HC.out HW2.out (by decide)).mono ?_); rintro r w2 ⟨rfl, hB⟩; rw [E1.out, E2.out, E3.out, E4.out, E5.out, E6.out]; have n0 := Aside0.mk (HB.out.trans (below_sub hB HB.out.size)); have n1 := Aside0.mk (Kd.C_below HC.out hB); have n2 := Aside0.mk (Kd.C_below HD.out hB); clear hB HB HC HD; have HB := n0; have HC := n1; have HD := n2; clear n0 n1 n2)
    | (go_at_call 72; (with_reducible refine (slow_any (some ⟨w.heap.size, 0, none⟩) 3 3 L3 _ HC.out L3_wf (by decide)).mono ?_); rintro r w2 ⟨rfl, hB⟩; rw [L3_slow]; have n0 := Aside0.mk (HB.out.trans (below_sub hB HB.out.size)); have n1 := Aside0.mk (Kd.C_below HC.out hB); have n2 := Aside0.mk (Kd.C_below HD.out hB); clear hB HB HC HD; have HB := n0; have HC := n1; have HD := n2; clear n0 n1 n2)
    | (go_at_call 71; (with_reducible refine (right_any (some ⟨w.heap.size, 4, none⟩) 2 2 (L3.drop 1) _ HD.out HW3.out (by decide)).mono ?_); rintro r w2 ⟨rfl, hB⟩; rw [R2.out]; have n0 := Aside0.mk (HB.out.trans (below_sub hB HB.out.size)); clear hB HB; have HB := n0; clear n0))
  go_ret
  exact ⟨rfl, HB.out⟩
end Go.Proofs.Ytkepmbkghmkodaa.Tell
