/- frame: the law's plain part; frameAlive. -/
import Derived.Test.YtkepmbkghmkodaaFrameCon
namespace Go.Proofs.Ytkepmbkghmkodaa.Frame
open Go.RowKit Go.Proofs.YtkepmbkghmkodaaW.PrintWords Go.Proofs.YtkepmbkghmkodaaW.PrintLast Go.Proofs.Ytkepmbkghmkodaa.Base
set_option linter.unusedVariables false
set_option linter.unusedSimpArgs false
/-- A Back with status 7, and things above it that are no walls. -/
def Good : List It → Prop
  | [] => False
  | x :: r => (r = [] ∧ x.kind = 9 ∧ x.status = 7) ∨ (isWall x.kind = false ∧ Good r)
theorem good_push {x : It} {r : List It} (h : Good r) (hx : isWall x.kind = false) : Good (x :: r) := .inr ⟨hx, h⟩
theorem good_cut : ∀ {r : List It} {n : Nat} {x : It} {r' : List It}, Good r → cut isLoop r n = some (x, r') → Good r'
  | [], n, x, r', h, _ => h.elim
  | y :: r, n, x, r', h, hc => by
    unfold cut at hc
    rcases h with ⟨rfl, hk, _⟩ | ⟨hw, hg⟩
    · rw [hk] at hc
      have hc' : (none : Option (It × List It)) = some (x, r') := hc
      cases hc'
    · by_cases hl : isLoop y.kind = true
      · rw [if_pos hl] at hc
        cases n with
        | zero =>
          simp only [Option.some.injEq, Prod.mk.injEq] at hc
          obtain ⟨_, rfl⟩ := hc
          exact hg
        | succ m => exact good_cut hg hc
      · rw [if_neg hl, if_neg (by rw [hw]; decide)] at hc
        exact good_cut hg hc
theorem good_ret : ∀ {r : List It}, Good r → ∃ x, cut isBack r 0 = some (x, []) ∧ x.status = 7
  | [], h => h.elim
  | y :: r, h => by
    rcases h with ⟨rfl, hk, hs⟩ | ⟨hw, hg⟩
    · refine ⟨y, ?_, hs⟩
      unfold cut
      rw [hk]
      rfl
    · obtain ⟨x, hx, hs⟩ := good_ret hg
      refine ⟨x, ?_, hs⟩
      have hb : isBack y.kind = false := by
        unfold isWall at hw
        simp only [Bool.or_eq_false_iff] at hw
        exact hw.1
      unfold cut
      rw [if_neg (by rw [hb]; decide), if_neg (by rw [hw]; decide)]
      exact hx
theorem good_brk {r : List It} {n : Int} (h : Good r) (hb : brkB r n = true) : Good (brkR r n) ∧ (cntR (brkR r n) : Int) = cntR r - n := by
  obtain ⟨x, r', pre, hc, hs, hf, e1, e2⟩ := brk_cut hb
  rw [e1]
  refine ⟨good_cut h hc, ?_⟩
  have := (cut_some hc).2
  unfold brkB at hb
  simp only [Bool.and_eq_true, Bool.not_eq_true', decide_eq_false_iff_not] at hb
  omega
theorem again_loop (x : It) : isLoop (again x).kind = true := by
  unfold again
  split
  · next h => rw [h]; rfl
  · rfl
theorem good_con {r : List It} {n : Int} (h : Good r) (hb : brkB r n = true) (hn : n = cntR r) : Good (conR r n) ∧ cntR (conR r n) = 1 := by
  obtain ⟨x, r', pre, hc, hs, hf, e1, e2⟩ := brk_cut hb
  rw [e2]
  refine ⟨good_push (good_cut h hc) (loop_wall (again_loop x)), ?_⟩
  have := (cut_some hc).2
  unfold brkB at hb
  simp only [Bool.and_eq_true, Bool.not_eq_true', decide_eq_false_iff_not] at hb
  rw [cntR_cons, if_pos (again_loop x)]
  omega
theorem good_len {r : List It} (h : Good r) : 1 ≤ r.length := by
  cases r with
  | nil => exact h.elim
  | cons x r => simp
theorem brkR_len (r : List It) (n : Int) : (brkR r n).length ≤ r.length := by
  cases hb : brkB r n with
  | false => rw [(brk_off hb).1]; exact Nat.le_refl _
  | true =>
    obtain ⟨x, r', pre, hc, hs, hf, e1, e2⟩ := brk_cut hb
    rw [e1, hs]
    simp; omega
theorem conR_len (r : List It) (n : Int) : (conR r n).length ≤ r.length := by
  cases hb : brkB r n with
  | false => rw [(brk_off hb).2]; exact Nat.le_refl _
  | true =>
    obtain ⟨x, r', pre, hc, hs, hf, e1, e2⟩ := brk_cut hb
    rw [e2, hs]
    simp
theorem brkB_iff (r : List It) (n : Int) : brkB r n = (decide (1 ≤ n) && decide (n ≤ (cntR r : Int))) := by
  unfold brkB
  congr 1
  · rw [Bool.eq_iff_iff]; simp
  · rw [Bool.eq_iff_iff]; simp
/-- A block of items is a row of them. -/
theorem flat_get : ∀ (ys : List It) (j i : Nat) (p : It) (u : Value), ys[j]? = some p → p.cells[i]? = some u → (ys.flatMap It.cells)[j * 14 + i]? = some u
  | [], j, i, p, u, h, _ => by simp at h
  | y :: ys, 0, i, p, u, h, hu => by
    have : y = p := by simpa using h
    subst this
    rw [List.flatMap_cons, Nat.zero_mul, Nat.zero_add, List.getElem?_append_left (List.getElem?_eq_some_iff.1 hu).1]
    exact hu
  | y :: ys, j + 1, i, p, u, h, hu => by
    rw [List.flatMap_cons, List.getElem?_append_right (show y.cells.length ≤ (j + 1) * 14 + i by show 14 ≤ _; omega), show (j + 1) * 14 + i - y.cells.length = j * 14 + i by show (j + 1) * 14 + i - 14 = _; omega]
    exact flat_get ys j i p u (by simpa using h) hu
theorem it_rows {w : World} {g t : Nat} {ys : List It} {cs : Array Value} (hg : w.heap[g]? = some (.cells cs t (0, 0))) (e : cs = (ys.flatMap It.cells).toArray) (hl : ys.length ≤ 1000) : kIt.C w (some ⟨g, 0, none⟩) ys.length ys := by
  subst e
  refine ⟨rfl, by omega, fun _ => ⟨_, rfl, fun j p hp => ⟨p.cells, rfl, rfl, fun i u hu => ?_⟩⟩⟩
  rw [add_plain, blk_cell hg]
  exact (List.getElem?_toArray).trans (flat_get ys j i p u hp hu)
def iK (k : Int) : It := { (default : It) with kind := k }
set_option maxHeartbeats 4000000 in
set_option maxRecDepth 100000 in
theorem alive_any (w : World) : Calls Try.prog 23 #[] w fun e w' => e = .returned (.bool true) ∧ Below w.heap.size w w' := by
  have HS := Aside0.mk (show StR (w.alloc (.cells #[.slice none 0 0] 56)) w.heap.size w.heap.size [] from ⟨_, blk_new w _, Nat.le_refl _, Kd.R_nil _ _ _ _ _⟩)
  have HB := Aside0.mk (below_alloc (Below.refl w.heap.size w) (.cells #[.slice none 0 0] 56))
  go_enter Try.func23, Try.ntmps23
  go_upto_region 2 with (fail)
  generalize w.alloc (.cells #[.slice none 0 0] 56) = w1 at *
  have HC := Aside0.mk (it_rows (ys := [iK 8, iK 9, iK 6]) (blk_new w1 (.cells #[Value.int .i64 8, .int .i64 0, .string ⟨#[]⟩, .bool false, .slice none 0 0, .slice none 0 0, .slice none 0 0, .slice none 0 0, .slice none 0 0, .int .i64 0, .int .i64 0, .bool false, .slice none 0 0, .slice none 0 0, .int .i64 9, .int .i64 0, .string ⟨#[]⟩, .bool false, .slice none 0 0, .slice none 0 0, .slice none 0 0, .slice none 0 0, .slice none 0 0, .int .i64 0, .int .i64 0, .bool false, .slice none 0 0, .slice none 0 0, .int .i64 6, .int .i64 0, .string ⟨#[]⟩, .bool false, .slice none 0 0, .slice none 0 0, .slice none 0 0, .slice none 0 0, .slice none 0 0, .int .i64 0, .int .i64 0, .bool false, .slice none 0 0, .slice none 0 0] 60)) rfl (by decide))
  have HX := Aside0.mk (below_alloc (Below.refl w1.heap.size w1) (.cells #[Value.int .i64 8, .int .i64 0, .string ⟨#[]⟩, .bool false, .slice none 0 0, .slice none 0 0, .slice none 0 0, .slice none 0 0, .slice none 0 0, .int .i64 0, .int .i64 0, .bool false, .slice none 0 0, .slice none 0 0, .int .i64 9, .int .i64 0, .string ⟨#[]⟩, .bool false, .slice none 0 0, .slice none 0 0, .slice none 0 0, .slice none 0 0, .slice none 0 0, .int .i64 0, .int .i64 0, .bool false, .slice none 0 0, .slice none 0 0, .int .i64 6, .int .i64 0, .string ⟨#[]⟩, .bool false, .slice none 0 0, .slice none 0 0, .slice none 0 0, .slice none 0 0, .slice none 0 0, .int .i64 0, .int .i64 0, .bool false, .slice none 0 0, .slice none 0 0] 60))
  have HSX := Aside0.mk (StR_below HS.out HX.out)
  have HBX := Aside0.mk (below_trans HB.out (below_sub HX.out HB.out.size))
  clear HS HX HB
  go_upto_region 3 with (first
    | (go_at_call 25; (with_reducible refine (push_any w.heap.size w.heap.size [] [iK 8, iK 9, iK 6] _ 3 3 _ HSX.out HC.out (by decide)).mono ?_); rintro e w2 ⟨rfl, hS, hB, _⟩; have HS := Aside0.mk (show StR w2 w.heap.size w.heap.size [iK 6, iK 9, iK 8] from hS); have HB := Aside0.mk (below_trans HBX.out hB); clear hS hB HSX HBX HC))
  go_wp2_with (first
    | (go_at_call 32; (with_reducible refine (len_any _ _ _ _ HS.out).mono ?_); rintro e w' ⟨rfl, rfl⟩; first | rw [show (([iK 6, iK 9, iK 8] : List It).length : Int) = 3 from rfl] | rw [show (([iK 9, iK 8] : List It).length : Int) = 2 from rfl])
    | (go_at_call 26; (with_reducible refine (loops_any _ _ _ _ HS.out (by decide)).mono ?_); rintro e w3 ⟨rfl, hB⟩; rw [show ((cntR [iK 6, iK 9, iK 8] : Nat) : Int) = 1 from rfl]; have n0 := Aside0.mk (StR_below HS.out hB); have n1 := Aside0.mk (below_trans HB.out (below_sub hB HB.out.size)); clear HS HB hB; have HS := n0; have HB := n1; clear n0 n1)
    | (go_at_call 27; (with_reducible refine (brk_any _ _ _ 2 _ HS.out (by decide) (by decide) (by decide)).mono ?_); rintro e w4 ⟨rfl, hS, hB, _⟩; rw [show brkB [iK 6, iK 9, iK 8] 2 = false from rfl]; have n0 := Aside0.mk (show StR w4 w.heap.size w.heap.size [iK 6, iK 9, iK 8] from hS); have n1 := Aside0.mk (below_trans HB.out hB); clear HS HB hB hS; have HS := n0; have HB := n1; clear n0 n1)
    | (go_at_call 27; (with_reducible refine (brk_any _ _ _ 1 _ HS.out (by decide) (by decide) (by decide)).mono ?_); rintro e w5 ⟨rfl, hS, hB, _⟩; rw [show brkB [iK 6, iK 9, iK 8] 1 = true from rfl]; have n0 := Aside0.mk (show StR w5 w.heap.size w.heap.size [iK 9, iK 8] from hS); have n1 := Aside0.mk (below_trans HB.out hB); clear HS HB hB hS; have HS := n0; have HB := n1; clear n0 n1))
  go_ret
  exact ⟨rfl, HB.out⟩
end Go.Proofs.Ytkepmbkghmkodaa.Frame
