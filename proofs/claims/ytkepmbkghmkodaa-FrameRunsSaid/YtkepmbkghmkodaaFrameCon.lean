/- frame: Continue, Saved: their contracts. -/
import Derived.Test.YtkepmbkghmkodaaFrameMore
namespace Go.Proofs.Ytkepmbkghmkodaa.Frame
open Go.RowKit Go.Proofs.YtkepmbkghmkodaaW.PrintWords Go.Proofs.YtkepmbkghmkodaaW.PrintLast Go.Proofs.Ytkepmbkghmkodaa.Base Go.Proofs.Ytkepmbkghmkodaa.Seq
set_option linter.unusedVariables false
set_option linter.unusedSimpArgs false
theorem it_one {w : World} {g : Nat} {X : It} (hg : w.heap[g]? = some (.cells #[Value.int .i64 X.kind, .int .i64 X.nk, .string X.nname, .bool X.ngiven, .slice X.s1.a X.s1.n X.s1.c, .slice X.s2.a X.s2.n X.s2.c, .slice X.s3.a X.s3.n X.s3.c, .slice X.s4.a X.s4.n X.s4.c, .slice X.s5.a X.s5.n X.s5.c, .int .i64 X.at_, .int .i64 X.status, .bool X.free, .slice X.s6.a X.s6.n X.s6.c, .slice X.s7.a X.s7.n X.s7.c] 60 (0, 0))) : kIt.C w (some ⟨g, 0, none⟩) 1 [X] := C_one hg rfl
theorem act_lit (x : It) (w : World) : Calls Try.prog 83 #[.agg #[Value.int .i64 x.kind, .int .i64 x.nk, .string x.nname, .bool x.ngiven, .slice x.s1.a x.s1.n x.s1.c, .slice x.s2.a x.s2.n x.s2.c, .slice x.s3.a x.s3.n x.s3.c, .slice x.s4.a x.s4.n x.s4.c, .slice x.s5.a x.s5.n x.s5.c, .int .i64 x.at_, .int .i64 x.status, .bool x.free, .slice x.s6.a x.s6.n x.s6.c, .slice x.s7.a x.s7.n x.s7.c]] w fun e w' => e = .returned (.bool (isAct x.kind)) ∧ Below w.heap.size w w' := act_any x w
set_option maxHeartbeats 4000000 in
set_option maxRecDepth 100000 in
theorem con_any (base g : Nat) (r : List It) (n : Int) (w : World) (h : StR w base g r) (h0 : -9223372036854775808 ≤ n) (h1 : n ≤ 9223372036854775807) (hl : r.length ≤ 4294967295) :
    Calls Try.prog 28 #[.pointer (some ⟨g, 0, none⟩), .int .i64 n] w fun e w' => e = .returned (.bool (brkB r n)) ∧ StR w' base g (conR r n) ∧ Below base w w' ∧ Keeps w w' := by
  have HS := Aside0.mk h
  obtain ⟨A0, cp, hg0, hbg, hR0, hlc, hbl⟩ := StR_open h
  have hglt := blk_lt hg0
  have HG0 := Aside0.mk hg0
  have HR0 := Aside0.mk hR0
  clear h hg0 hR0
  have hcl := cntR_le r
  cases hb : brkB r n with
  | false =>
    rw [(brk_off hb).2]
    have hb' := hb
    unfold brkB at hb'
    by_cases hn : n < 1
    · have c1 : decide (n < 1) = true := decide_eq_true hn
      clear hb hb' hn
      go_enter Try.func28, Try.ntmps28
      go_wp2
      go_ret
      exact ⟨rfl, HS.out, Below.refl _ _, keeps_refl _⟩
    · have c1 : decide (n < 1) = false := decide_eq_false hn
      have c2 : decide ((cntR r : Int) < n) = true := by rw [c1] at hb'; simpa using hb'
      clear hb hb'
      go_enter Try.func28, Try.ntmps28
      go_wp2_with (go_at_call 26; (with_reducible refine (loops_any base g r _ HS.out (by omega)).mono ?_); rintro e w1 ⟨rfl, hB⟩; have HB := Aside0.mk hB; clear hB)
      go_ret
      exact ⟨rfl, StR_below HS.out HB.out, below_sub HB.out hbl, keeps_below HB.out⟩
  | true =>
    obtain ⟨x, r', pre, hc, hs, hf, _, e1⟩ := brk_cut hb
    rw [e1]
    have hb' := hb
    unfold brkB at hb'
    simp only [Bool.and_eq_true, Bool.not_eq_true'] at hb'
    obtain ⟨c1, c2⟩ := hb'
    have hn : 1 ≤ n := by have := of_decide_eq_false c1; omega
    have HF := Aside0.mk hf
    have HE := Aside0.mk hs
    have hlr : r'.length < r.length := by rw [hs]; simp; omega
    have hw1 : wrap64 (n - 1) = n - 1 := by unfold wrap64; omega
    have hi0 : (0 : Int) ≤ (r'.length : Int) := by omega
    have hi1 : (r'.length : Int) < (r.length : Int) := by omega
    have hi2 : (r'.length : Int) ≤ (cp : Int) := by omega
    have HM0 := Aside0.mk (StR_take HG0.out hbg HR0.out HE.out rfl)
    clear hb hc hs hf e1
    go_enter Try.func28, Try.ntmps28
    go_upto_region 3 with (go_at_call 26; (with_reducible refine (loops_any base g r _ HS.out (by omega)).mono ?_); rintro e w1 ⟨rfl, hB⟩; have HB := Aside0.mk hB; clear hB)
    go_upto_region 4 with (go_at_call 80; (with_reducible refine (find_loop base g r.reverse (n - 1) _ (StR_below HS.out HB.out) (by omega) (by omega) (by rw [List.length_reverse]; omega)).mono ?_); rintro e w2 ⟨rfl, hB⟩; rw [List.reverse_reverse, HF.out]; have n0 := Aside0.mk (below_trans HB.out (below_sub hB HB.out.size)); clear hB HB; have HB := n0; clear n0)
    have hg := blk_below HG0.out HB.out
    obtain ⟨ad, rfl, k⟩ := StR_item (Kd.R_below HR0.out HB.out) HE.out
    obtain ⟨k0, k1, k2, k3, k4, k5, k6, k7, k8, k9, k10, k11, k12, k13⟩ := k
    have c0 : w2.cell? ⟨g, 0, none⟩ = some (.slice (some ad) r.length cp) := (blk_cell hg 0).trans rfl
    have n2 := Aside0.mk (blk_new w2 (.cells #[Value.int .i64 x.kind, .int .i64 x.nk, .string x.nname, .bool x.ngiven, .slice x.s1.a x.s1.n x.s1.c, .slice x.s2.a x.s2.n x.s2.c, .slice x.s3.a x.s3.n x.s3.c, .slice x.s4.a x.s4.n x.s4.c, .slice x.s5.a x.s5.n x.s5.c, .int .i64 x.at_, .int .i64 x.status, .bool x.free, .slice x.s6.a x.s6.n x.s6.c, .slice x.s7.a x.s7.n x.s7.c] 60))
    have n3 := Aside0.mk (below_alloc (Below.refl w2.heap.size w2) (.cells #[Value.int .i64 x.kind, .int .i64 x.nk, .string x.nname, .bool x.ngiven, .slice x.s1.a x.s1.n x.s1.c, .slice x.s2.a x.s2.n x.s2.c, .slice x.s3.a x.s3.n x.s3.c, .slice x.s4.a x.s4.n x.s4.c, .slice x.s5.a x.s5.n x.s5.c, .int .i64 x.at_, .int .i64 x.status, .bool x.free, .slice x.s6.a x.s6.n x.s6.c, .slice x.s7.a x.s7.n x.s7.c] 60))
    have HW2 := Aside0.mk HB.out.size
    clear hg
    go_upto_region 5 with (fail)
    generalize w2.alloc (.cells #[Value.int .i64 x.kind, .int .i64 x.nk, .string x.nname, .bool x.ngiven, .slice x.s1.a x.s1.n x.s1.c, .slice x.s2.a x.s2.n x.s2.c, .slice x.s3.a x.s3.n x.s3.c, .slice x.s4.a x.s4.n x.s4.c, .slice x.s5.a x.s5.n x.s5.c, .int .i64 x.at_, .int .i64 x.status, .bool x.free, .slice x.s6.a x.s6.n x.s6.c, .slice x.s7.a x.s7.n x.s7.c] 60) = w3 at *
    have n5 := Aside0.mk (below_trans HB.out (below_sub n3.out HB.out.size))
    have hg2 := blk_below HG0.out n5.out
    have c0' : w3.cell? ⟨g, 0, none⟩ = some (.slice (some ad) r.length cp) := (blk_cell hg2 0).trans rfl
    have f0 := blk_frozen hg2 0
    clear hg2 c0 k0 k1 k2 k3 k4 k5 k6 k7 k8 k9 k10 k11 k12 k13
    go_upto_region 6 with (fail)
    have m2 := Aside0.mk (blk_far n2.out (show w2.heap.size ≠ (⟨g, 0, none⟩ : Addr).block by have := HW2.out; show w2.heap.size ≠ g; omega) (.slice (some ad) r'.length cp))
    have m4 := Aside0.mk (below_both (i := 0) (u := .slice (some ad) r'.length cp) n5.out HG0.out hglt)
    have m3 := Aside0.mk ((below_sub n5.out hbl).setCell (p := ⟨g, 0, none⟩) hbg (.slice (some ad) r'.length cp))
    have m6 := Aside0.mk (keeps_trans (keeps_below n5.out) (keeps_set (i := 0) (blk_below HG0.out n5.out) (.slice (some ad) r'.length cp)))
    clear c0' f0 n2 n3 n5 HB
    generalize w3.setCell ⟨g, 0, none⟩ (.slice (some ad) r'.length cp) = w4 at *
    have k0 : w4.cell? ⟨w2.heap.size, 0, none⟩ = some (.int .i64 x.kind) := (blk_cell m2.out 0).trans rfl
    cases h8 : (x.kind == 8) with
    | true =>
      have ha : again x = x := by unfold again; rw [if_pos (beq_iff_eq.1 h8)]
      have HH := Aside0.mk ha
      clear ha
      have hS4 := Aside0.mk (StR_below HM0.out (by rw [size_set]; exact m4.out))
      go_wp2_with (first
        | ((with_reducible refine gate_loadT 60 6 rfl ?_); refine it_load rfl 6 rfl w2.heap.size x rfl m2.out ?_; have n6 := Aside0.mk (below_alloc (Below.refl w4.heap.size w4) (.cells #[Value.int .i64 x.kind, .int .i64 x.nk, .string x.nname, .bool x.ngiven, .slice x.s1.a x.s1.n x.s1.c, .slice x.s2.a x.s2.n x.s2.c, .slice x.s3.a x.s3.n x.s3.c, .slice x.s4.a x.s4.n x.s4.c, .slice x.s5.a x.s5.n x.s5.c, .int .i64 x.at_, .int .i64 x.status, .bool x.free, .slice x.s6.a x.s6.n x.s6.c, .slice x.s7.a x.s7.n x.s7.c] 60)); have n7 := Aside0.mk (blk_new w4 (.cells #[Value.int .i64 x.kind, .int .i64 x.nk, .string x.nname, .bool x.ngiven, .slice x.s1.a x.s1.n x.s1.c, .slice x.s2.a x.s2.n x.s2.c, .slice x.s3.a x.s3.n x.s3.c, .slice x.s4.a x.s4.n x.s4.c, .slice x.s5.a x.s5.n x.s5.c, .int .i64 x.at_, .int .i64 x.status, .bool x.free, .slice x.s6.a x.s6.n x.s6.c, .slice x.s7.a x.s7.n x.s7.c] 60)))
        | (go_at_call 25; (with_reducible refine (push_any base g r' [x] _ 1 1 _ (StR_below hS4.out n6.out) (it_one n7.out) (by omega)).mono ?_); rintro e w5 ⟨rfl, hS5, hB5, hK5⟩; have HS5 := Aside0.mk hS5; have HB5 := Aside0.mk (below_trans (below_trans m3.out (below_sub n6.out (by have := m3.out.size; omega))) hB5); have HK5 := Aside0.mk (keeps_trans (keeps_trans m6.out (keeps_below n6.out)) hK5); clear hS5 hB5 hK5))
      go_ret
      exact ⟨rfl, by rw [HH.out]; exact HS5.out, HB5.out, HK5.out⟩
    | false =>
      obtain ⟨Y, hY⟩ : ∃ Y : It, Y = { (default : It) with kind := 7, nk := x.nk, nname := x.nname, ngiven := x.ngiven, s1 := x.s1, s2 := x.s2, s3 := x.s3, s4 := x.s4, s5 := x.s5, free := x.free } := ⟨_, rfl⟩
      have ha : again x = Y := by unfold again; rw [if_neg (by simpa using h8), hY]
      have HH := Aside0.mk ha
      have HY := Aside0.mk hY
      clear ha hY
      have k1 : w4.cell? ⟨w2.heap.size, 1, none⟩ = some (.int .i64 x.nk) := (blk_cell m2.out 1).trans rfl
      have k2 : w4.cell? ⟨w2.heap.size, 2, none⟩ = some (.string x.nname) := (blk_cell m2.out 2).trans rfl
      have k3 : w4.cell? ⟨w2.heap.size, 3, none⟩ = some (.bool x.ngiven) := (blk_cell m2.out 3).trans rfl
      have k4 : w4.cell? ⟨w2.heap.size, 4, none⟩ = some (.slice x.s1.a x.s1.n x.s1.c) := (blk_cell m2.out 4).trans rfl
      have k5 : w4.cell? ⟨w2.heap.size, 5, none⟩ = some (.slice x.s2.a x.s2.n x.s2.c) := (blk_cell m2.out 5).trans rfl
      have k6 : w4.cell? ⟨w2.heap.size, 6, none⟩ = some (.slice x.s3.a x.s3.n x.s3.c) := (blk_cell m2.out 6).trans rfl
      have k7 : w4.cell? ⟨w2.heap.size, 7, none⟩ = some (.slice x.s4.a x.s4.n x.s4.c) := (blk_cell m2.out 7).trans rfl
      have k8 : w4.cell? ⟨w2.heap.size, 8, none⟩ = some (.slice x.s5.a x.s5.n x.s5.c) := (blk_cell m2.out 8).trans rfl
      have k11 : w4.cell? ⟨w2.heap.size, 11, none⟩ = some (.bool x.free) := (blk_cell m2.out 11).trans rfl
      go_upto_region 8 with (first
        | ((with_reducible refine gate_storeT 60 6 42 rfl ?_); go_loud (refine it_put rfl 6 42 rfl w2.heap.size _ Y rfl rfl (by rw [HY.out]; rfl) m2.out ?_); intro w5 hg hbx; have n0 := Aside0.mk (below_trans m4.out (hbx _ HW2.out)); have n1 := Aside0.mk (below_trans m3.out (hbx _ (by have := HW2.out; omega))); have n8 := Aside0.mk (keeps_over m6.out (hbx _ (Nat.le_refl _)) HW2.out); have HX := Aside0.mk hg; clear hbx hg k0 k1 k2 k3 k4 k5 k6 k7 k8 k11 m2 m3 m4))
      have hS4 := Aside0.mk (StR_below HM0.out (by rw [size_set]; exact n0.out))
      go_wp2_with (first
        | ((with_reducible refine gate_loadT 60 6 rfl ?_); refine it_load rfl 6 rfl w2.heap.size Y rfl HX.out ?_; have n6 := Aside0.mk (below_alloc (Below.refl w5.heap.size w5) (.cells #[Value.int .i64 Y.kind, .int .i64 Y.nk, .string Y.nname, .bool Y.ngiven, .slice Y.s1.a Y.s1.n Y.s1.c, .slice Y.s2.a Y.s2.n Y.s2.c, .slice Y.s3.a Y.s3.n Y.s3.c, .slice Y.s4.a Y.s4.n Y.s4.c, .slice Y.s5.a Y.s5.n Y.s5.c, .int .i64 Y.at_, .int .i64 Y.status, .bool Y.free, .slice Y.s6.a Y.s6.n Y.s6.c, .slice Y.s7.a Y.s7.n Y.s7.c] 60)); have n7 := Aside0.mk (blk_new w5 (.cells #[Value.int .i64 Y.kind, .int .i64 Y.nk, .string Y.nname, .bool Y.ngiven, .slice Y.s1.a Y.s1.n Y.s1.c, .slice Y.s2.a Y.s2.n Y.s2.c, .slice Y.s3.a Y.s3.n Y.s3.c, .slice Y.s4.a Y.s4.n Y.s4.c, .slice Y.s5.a Y.s5.n Y.s5.c, .int .i64 Y.at_, .int .i64 Y.status, .bool Y.free, .slice Y.s6.a Y.s6.n Y.s6.c, .slice Y.s7.a Y.s7.n Y.s7.c] 60)))
        | (go_at_call 25; (with_reducible refine (push_any base g r' [Y] _ 1 1 _ (StR_below hS4.out n6.out) (it_one n7.out) (by omega)).mono ?_); rintro e w6 ⟨rfl, hS5, hB5, hK5⟩; have HS5 := Aside0.mk hS5; have HB5 := Aside0.mk (below_trans (below_trans n1.out (below_sub n6.out (by have := n1.out.size; omega))) hB5); have HK5 := Aside0.mk (keeps_trans (keeps_trans n8.out (keeps_below n6.out)) hK5); clear hS5 hB5 hK5))
      go_ret
      exact ⟨rfl, by rw [HH.out]; exact HS5.out, HB5.out, HK5.out⟩
set_option maxHeartbeats 1000000 in
set_option maxRecDepth 100000 in
theorem sav_any (base g : Nat) (r : List It) (w : World) (h : StR w base g r) (hl : r.length ≤ 4294967296) :
    Calls Try.prog 30 #[.pointer (some ⟨g, 0, none⟩)] w fun e w' => e = .returned (.tuple #[.int .i64 (savN r), .bool (savB r)]) ∧ Below w.heap.size w w' := by
  obtain ⟨A, cp, hg0, hbg, hR0, hlc, hbl⟩ := StR_open h
  have c0 : w.cell? ⟨g, 0, none⟩ = some (.slice A r.length cp) := (blk_cell hg0 0).trans rfl
  have HC := Aside0.mk (R_C hR0)
  have hrl : r.reverse.length = r.length := List.length_reverse
  clear hg0 h hR0
  have hw0 : wrap64 ((r.length : Int) - 1) = (r.length : Int) - 1 := by unfold wrap64; omega
  have C0 := Aside0.mk c0
  go_enter Try.func30, Try.ntmps30
  go_wp2
  clear hw0
  go_loopw [4] (fun v4 w' => ∃ (k : Nat), k ≤ r.length ∧ v4 = .int .i64 ((k : Int) - 1) ∧ Aside0 (savN r = savN (r.reverse.take k).reverse ∧ savB r = savB (r.reverse.take k).reverse) ∧ Aside0 (Below w.heap.size w w')) (fun v4 _ => (intOf v4 + 1).toNat)
  case atStart => exact ⟨r.length, Nat.le_refl _, rfl, ⟨by rw [← hrl, List.take_length, List.reverse_reverse]; exact ⟨rfl, rfl⟩⟩, ⟨Below.refl _ _⟩⟩
  case round =>
    obtain ⟨k, hk, rfl, HF, HB⟩ := hrel
    have cs := pw_cell_below HB.out C0.out
    clear c0
    rcases k with _ | j
    · have ht : decide ((0 : Int) ≤ ((0 : Nat) : Int) - 1) = false := rfl
      go_wp2
      go_ret2
      exact ⟨by rw [HF.out.1, HF.out.2]; rfl, HB.out⟩
    · have ej : ((j + 1 : Nat) : Int) - 1 = (j : Int) := by omega
      rw [ej]
      have hlt : j < r.length := hk
      have hi0 : (0 : Int) ≤ (j : Int) := by omega
      have hi1 : (j : Int) < (r.length : Int) := by omega
      have htr := take_rev (l := r.reverse) (k := j) (by rw [hrl]; omega)
      obtain ⟨ad, rfl, k⟩ := at_it HC.out j (by rw [hrl]; omega)
      obtain ⟨k0, k1, k2, k3, k4, k5, k6, k7, k8, k9, k10, k11, k12, k13⟩ := Cells_below k HB.out
      generalize r.reverse[j]'(by rw [hrl]; omega) = x at *
      rw [htr] at HF
      have HBX := it_cells (X := x) (blk_new wr (.cells #[Value.int .i64 x.kind, .int .i64 x.nk, .string x.nname, .bool x.ngiven, .slice x.s1.a x.s1.n x.s1.c, .slice x.s2.a x.s2.n x.s2.c, .slice x.s3.a x.s3.n x.s3.c, .slice x.s4.a x.s4.n x.s4.c, .slice x.s5.a x.s5.n x.s5.c, .int .i64 x.at_, .int .i64 x.status, .bool x.free, .slice x.s6.a x.s6.n x.s6.c, .slice x.s7.a x.s7.n x.s7.c] 60))
      have HBB := Aside0.mk (below_alloc HB.out (.cells #[Value.int .i64 x.kind, .int .i64 x.nk, .string x.nname, .bool x.ngiven, .slice x.s1.a x.s1.n x.s1.c, .slice x.s2.a x.s2.n x.s2.c, .slice x.s3.a x.s3.n x.s3.c, .slice x.s4.a x.s4.n x.s4.c, .slice x.s5.a x.s5.n x.s5.c, .int .i64 x.at_, .int .i64 x.status, .bool x.free, .slice x.s6.a x.s6.n x.s6.c, .slice x.s7.a x.s7.n x.s7.c] 60))
      clear k htr
      go_upto_region 5 with (fail)
      generalize wr.alloc (.cells #[Value.int .i64 x.kind, .int .i64 x.nk, .string x.nname, .bool x.ngiven, .slice x.s1.a x.s1.n x.s1.c, .slice x.s2.a x.s2.n x.s2.c, .slice x.s3.a x.s3.n x.s3.c, .slice x.s4.a x.s4.n x.s4.c, .slice x.s5.a x.s5.n x.s5.c, .int .i64 x.at_, .int .i64 x.status, .bool x.free, .slice x.s6.a x.s6.n x.s6.c, .slice x.s7.a x.s7.n x.s7.c] 60) = wb at *
      obtain ⟨c0', c1, c2, c3, c4, c5, c6, c7, c8, c9, c10, c11, c12, c13⟩ := HBX
      clear k0 k1 k2 k3 k4 k5 k6 k7 k8 k9 k10 k11 k12 k13 cs HB ej
      have HT := Aside0.mk c10
      cases hA : isAct x.kind with
      | true =>
        go_wp2_with (go_at_call 83; (with_reducible refine (act_lit x _).mono ?_); rintro e w1 ⟨rfl, hB⟩; have n0 := Aside0.mk (below_trans HBB.out (below_sub hB HBB.out.size)); clear HBB c0' c1 c2 c3 c4 c5 c6 c7 c8 c9 c11 c12 c13; have c10' := pw_cell_below hB HT.out; have HBB := n0; clear hB n0; rw [hA])
        go_ret2
        exact ⟨by rw [HF.out.1, HF.out.2]; simp [savN, savB, hA], HBB.out⟩
      | false =>
        go_wp2_with (go_at_call 83; (with_reducible refine (act_lit x _).mono ?_); rintro e w1 ⟨rfl, hB⟩; have n0 := Aside0.mk (below_trans HBB.out (below_sub hB HBB.out.size)); clear HBB c0' c1 c2 c3 c4 c5 c6 c7 c8 c9 c11 c12 c13; have HBB := n0; clear hB n0; rw [hA])
        go_roundw
        case measure => simp [intOf]
        case rel => exact ⟨j, by omega, by go_num, ⟨by rw [HF.out.1, HF.out.2]; simp [savN, savB, hA]⟩, ⟨HBB.out⟩⟩
end Go.Proofs.Ytkepmbkghmkodaa.Frame
