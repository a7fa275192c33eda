/- frame: a find of the uppermost back. -/
import Derived.Test.YtkepmbkghmkodaaFrame
namespace Go.Proofs.Ytkepmbkghmkodaa.Frame
open Go.RowKit Go.Proofs.YtkepmbkghmkodaaW.PrintWords Go.Proofs.YtkepmbkghmkodaaW.PrintLast Go.Proofs.Ytkepmbkghmkodaa.Base
set_option linter.unusedVariables false
set_option linter.unusedSimpArgs false
set_option maxHeartbeats 1000000 in
set_option maxRecDepth 100000 in
theorem find_back (base g : Nat) (l : List It) (n : Int) (w : World) (h : St w base g l) (h0 : 0 ≤ n) (h1 : n ≤ 9223372036854775807) (hl : l.length ≤ 4294967296) :
    Calls Try.prog 80 #[.pointer (some ⟨g, 0, none⟩), .func (.func 82) #[] #[], .int .i64 n] w fun e w' => e = .returned (.int .i64 (findR isBack l.reverse n)) ∧ Below w.heap.size w w' := by
  obtain ⟨v, hg, hb, hR⟩ := h
  obtain ⟨A, c, rfl, hlc, hC⟩ := Kd.R_reads hR
  have c0 : w.cell? ⟨g, 0, none⟩ = some (.slice A l.length c) := (blk_cell hg 0).trans rfl
  have HG := Aside0.mk hg
  have HC := Aside0.mk hC
  clear hg hC hR
  go_enter Try.func80, Try.ntmps80
  go_wp2
  go_loopw [7, 2] (fun v7 v2 w' => ∃ (k : Nat) (m : Int), k ≤ l.length ∧ v7 = .int .i64 ((k : Int) - 1) ∧ v2 = .int .i64 m ∧ 0 ≤ m ∧ m ≤ n ∧ Aside0 (findR isBack l.reverse n = findR isBack (l.take k).reverse m) ∧ Aside0 (Below w.heap.size w w')) (fun v7 _ _ => (intOf v7 + 1).toNat)
  case atStart => exact ⟨l.length, n, Nat.le_refl _, rfl, rfl, h0, Int.le_refl _, ⟨by rw [List.take_length]⟩, ⟨Below.refl _ _⟩⟩
  case round =>
    obtain ⟨k, m, hk, rfl, rfl, hm0, hm1, HF, HB⟩ := hrel
    have cs := pw_cell_below HB.out c0
    rcases k with _ | j
    · have ht : decide ((0 : Int) ≤ ((0 : Nat) : Int) - 1) = false := rfl
      go_wp2
      go_ret
      exact ⟨by rw [HF.out]; rfl, HB.out⟩
    · have ej : ((j + 1 : Nat) : Int) - 1 = (j : Int) := by omega
      rw [ej]
      have hlt : j < l.length := hk
      have hi0 : (0 : Int) ≤ (j : Int) := by omega
      have hi1 : (j : Int) < (l.length : Int) := by omega
      have htr := take_rev hlt
      obtain ⟨ad, rfl, k0, k1, k2, k3, k4, k5, k6, k7, k8, k9, k10, k11, k12, k13⟩ := at_it HC.out j hlt
      replace k0 := pw_cell_below HB.out k0
      replace k1 := pw_cell_below HB.out k1
      replace k2 := pw_cell_below HB.out k2
      replace k3 := pw_cell_below HB.out k3
      replace k4 := pw_cell_below HB.out k4
      replace k5 := pw_cell_below HB.out k5
      replace k6 := pw_cell_below HB.out k6
      replace k7 := pw_cell_below HB.out k7
      replace k8 := pw_cell_below HB.out k8
      replace k9 := pw_cell_below HB.out k9
      replace k10 := pw_cell_below HB.out k10
      replace k11 := pw_cell_below HB.out k11
      replace k12 := pw_cell_below HB.out k12
      replace k13 := pw_cell_below HB.out k13
      generalize l[j] = x at *
      rw [htr] at HF
      have HBX := cells_box (blk_new wr (.cells x.cells.toArray 60))
      have HBB := Aside0.mk (below_alloc HB.out (.cells x.cells.toArray 60))
      go_upto_region 5 with (fail)
      rw [show x.cells.toArray = #[.int .i64 x.kind, .int .i64 x.nk, .string x.nname, .bool x.ngiven, .slice x.s1.a x.s1.n x.s1.c, .slice x.s2.a x.s2.n x.s2.c, .slice x.s3.a x.s3.n x.s3.c, .slice x.s4.a x.s4.n x.s4.c, .slice x.s5.a x.s5.n x.s5.c, .int .i64 x.at_, .int .i64 x.status, .bool x.free, .slice x.s6.a x.s6.n x.s6.c, .slice x.s7.a x.s7.n x.s7.c] from rfl] at HBX HBB
      generalize wr.alloc (.cells #[.int .i64 x.kind, .int .i64 x.nk, .string x.nname, .bool x.ngiven, .slice x.s1.a x.s1.n x.s1.c, .slice x.s2.a x.s2.n x.s2.c, .slice x.s3.a x.s3.n x.s3.c, .slice x.s4.a x.s4.n x.s4.c, .slice x.s5.a x.s5.n x.s5.c, .int .i64 x.at_, .int .i64 x.status, .bool x.free, .slice x.s6.a x.s6.n x.s6.c, .slice x.s7.a x.s7.n x.s7.c] 60) = wb at *
      obtain ⟨c0', c1, c2, c3, c4, c5, c6, c7, c8, c9, c10, c11, c12, c13⟩ := HBX
      clear k0 k1 k2 k3 k4 k5 k6 k7 k8 k9 k10 k11 k12 k13 cs HB ej htr
      have hlen : ((l.take j).reverse).length = j := by rw [List.length_reverse, List.length_take]; omega
      have HLEN := Aside0.mk hlen
      clear hlen
      cases hL : isBack x.kind with
      | true =>
        by_cases hm : m = 0
        · subst hm
          have e0 : ((0 : Int) == 0) = true := rfl
          go_wp2_with (go_at_call 82; refine (back_any x _).mono ?_; rintro e w1 ⟨rfl, hB⟩; have n0 := Aside0.mk (below_trans HBB.out (below_sub hB HBB.out.size)); clear HBB; replace c0' := pw_cell_below hB c0'; replace c1 := pw_cell_below hB c1; replace c2 := pw_cell_below hB c2; replace c3 := pw_cell_below hB c3; replace c4 := pw_cell_below hB c4; replace c5 := pw_cell_below hB c5; replace c6 := pw_cell_below hB c6; replace c7 := pw_cell_below hB c7; replace c8 := pw_cell_below hB c8; replace c9 := pw_cell_below hB c9; replace c10 := pw_cell_below hB c10; replace c11 := pw_cell_below hB c11; replace c12 := pw_cell_below hB c12; replace c13 := pw_cell_below hB c13; have HBB := n0; clear hB n0; rw [hL])
          go_ret
          exact ⟨by rw [HF.out]; unfold findR; rw [if_pos hL, if_pos rfl, HLEN.out]; rfl, HBB.out⟩
        · have e0 : (m == 0) = false := beq_eq_false_iff_ne.2 hm
          go_wp2_with (go_at_call 82; refine (back_any x _).mono ?_; rintro e w1 ⟨rfl, hB⟩; have n0 := Aside0.mk (below_trans HBB.out (below_sub hB HBB.out.size)); clear HBB; replace c0' := pw_cell_below hB c0'; replace c1 := pw_cell_below hB c1; replace c2 := pw_cell_below hB c2; replace c3 := pw_cell_below hB c3; replace c4 := pw_cell_below hB c4; replace c5 := pw_cell_below hB c5; replace c6 := pw_cell_below hB c6; replace c7 := pw_cell_below hB c7; replace c8 := pw_cell_below hB c8; replace c9 := pw_cell_below hB c9; replace c10 := pw_cell_below hB c10; replace c11 := pw_cell_below hB c11; replace c12 := pw_cell_below hB c12; replace c13 := pw_cell_below hB c13; have HBB := n0; clear hB n0; rw [hL])
          go_roundw
          case measure => simp [intOf]
          case rel => exact ⟨j, m - 1, by omega, by go_num, by go_num, by omega, by omega, ⟨HF.out.trans (findR_skip _ hL hm)⟩, ⟨HBB.out⟩⟩
      | false =>
        cases hW : isWall x.kind with
        | true =>
          go_wp2_with (first
            | (go_at_call 82; refine (back_any x _).mono ?_; rintro e w1 ⟨rfl, hB⟩; have n0 := Aside0.mk (below_trans HBB.out (below_sub hB HBB.out.size)); clear HBB; replace c0' := pw_cell_below hB c0'; replace c1 := pw_cell_below hB c1; replace c2 := pw_cell_below hB c2; replace c3 := pw_cell_below hB c3; replace c4 := pw_cell_below hB c4; replace c5 := pw_cell_below hB c5; replace c6 := pw_cell_below hB c6; replace c7 := pw_cell_below hB c7; replace c8 := pw_cell_below hB c8; replace c9 := pw_cell_below hB c9; replace c10 := pw_cell_below hB c10; replace c11 := pw_cell_below hB c11; replace c12 := pw_cell_below hB c12; replace c13 := pw_cell_below hB c13; have HBB := n0; clear hB n0; rw [hL])
            | (go_at_call 111; refine (wall_any x _).mono ?_; rintro e w1 ⟨rfl, hB⟩; have n0 := Aside0.mk (below_trans HBB.out (below_sub hB HBB.out.size)); clear HBB; replace c0' := pw_cell_below hB c0'; replace c1 := pw_cell_below hB c1; replace c2 := pw_cell_below hB c2; replace c3 := pw_cell_below hB c3; replace c4 := pw_cell_below hB c4; replace c5 := pw_cell_below hB c5; replace c6 := pw_cell_below hB c6; replace c7 := pw_cell_below hB c7; replace c8 := pw_cell_below hB c8; replace c9 := pw_cell_below hB c9; replace c10 := pw_cell_below hB c10; replace c11 := pw_cell_below hB c11; replace c12 := pw_cell_below hB c12; replace c13 := pw_cell_below hB c13; have HBB := n0; clear hB n0; rw [hW]))
          all_goals
            go_ret
            exact ⟨by rw [HF.out, findR_wall _ hL hW]; rfl, HBB.out⟩
        | false =>
          go_wp2_with (first
            | (go_at_call 82; refine (back_any x _).mono ?_; rintro e w1 ⟨rfl, hB⟩; have n0 := Aside0.mk (below_trans HBB.out (below_sub hB HBB.out.size)); clear HBB; replace c0' := pw_cell_below hB c0'; replace c1 := pw_cell_below hB c1; replace c2 := pw_cell_below hB c2; replace c3 := pw_cell_below hB c3; replace c4 := pw_cell_below hB c4; replace c5 := pw_cell_below hB c5; replace c6 := pw_cell_below hB c6; replace c7 := pw_cell_below hB c7; replace c8 := pw_cell_below hB c8; replace c9 := pw_cell_below hB c9; replace c10 := pw_cell_below hB c10; replace c11 := pw_cell_below hB c11; replace c12 := pw_cell_below hB c12; replace c13 := pw_cell_below hB c13; have HBB := n0; clear hB n0; rw [hL])
            | (go_at_call 111; refine (wall_any x _).mono ?_; rintro e w1 ⟨rfl, hB⟩; have n0 := Aside0.mk (below_trans HBB.out (below_sub hB HBB.out.size)); clear HBB; replace c0' := pw_cell_below hB c0'; replace c1 := pw_cell_below hB c1; replace c2 := pw_cell_below hB c2; replace c3 := pw_cell_below hB c3; replace c4 := pw_cell_below hB c4; replace c5 := pw_cell_below hB c5; replace c6 := pw_cell_below hB c6; replace c7 := pw_cell_below hB c7; replace c8 := pw_cell_below hB c8; replace c9 := pw_cell_below hB c9; replace c10 := pw_cell_below hB c10; replace c11 := pw_cell_below hB c11; replace c12 := pw_cell_below hB c12; replace c13 := pw_cell_below hB c13; have HBB := n0; clear hB n0; rw [hW]))
          go_roundw
          case measure => simp [intOf]
          case rel => exact ⟨j, m, by omega, by go_num, by go_num, by omega, by omega, ⟨HF.out.trans (findR_go _ hL hW)⟩, ⟨HBB.out⟩⟩
end Go.Proofs.Ytkepmbkghmkodaa.Frame
