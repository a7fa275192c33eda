/- texts of this claim, one behind the other: L8 WordBoth WordText WordEqL WordRec2 I7 WordSame2 -/
import Derived.Test.YtkecpfjmdokieaaDoorH3
namespace Go.Proofs.YtkecpfjmdokieaaDoor.P
noncomputable section
open Go.RowKit Go.Proofs.YtkecpfjmdokieaaDoorW.PrintWords Go.Proofs.YtkecpfjmdokieaaDoorW.PrintLast Go.Proofs.YtkecpfjmdokieaaDoorW.PrintMore
attribute [local go_sem] max2_int min2_int max_two min_two max_three min_three max_four min_four   -- for this text's walks alone
set_option linter.unusedVariables false
set_option linter.unusedSimpArgs false
def word_partsR.l0 : Nat → List (S33) → Int → Int → List (S33) → Int → Int → Option (Bool)
  | 0, _, _, _, _, _, _ => none
  | k + 1, x0, x1, x2, x9, x10, x11 => if x11 < x10 then (if 0 ≤ x11 then (if x11 < (x9.length : Int) then (if ((rd_T33 x9 x11).f0) = 1 then ((word_literal.f k ((rd_T33 x9 x11).f0) ((rd_T33 x9 x11).f1) ((rd_T33 x9 x11).f2) ((rd_T33 x9 x11).f3) ((rd_T33 x9 x11).f4) x1).bind fun t108 => (if t108 = true then (if x11 > 0 then (if 0 ≤ (wrap64 (x11 - 1)) then (if (wrap64 (x11 - 1)) < (x0.length : Int) then (if ((rd_T33 x0 (wrap64 (x11 - 1))).f0) = 1 then (if (((rd_T33 x0 (wrap64 (x11 - 1))).f1) == ((rd_T33 x9 x11).f1)) = true then (some false) else (word_partsR.l0 k x0 x1 x2 x9 x10 (wrap64 (x11 + 1)))) else (word_partsR.l0 k x0 x1 x2 x9 x10 (wrap64 (x11 + 1)))) else (none)) else (none)) else (word_partsR.l0 k x0 x1 x2 x9 x10 (wrap64 (x11 + 1)))) else (some false))) else (if ((rd_T33 x9 x11).f0) = 2 then ((word_param.f k ((rd_T33 x9 x11).f0) ((rd_T33 x9 x11).f1) ((rd_T33 x9 x11).f2) ((rd_T33 x9 x11).f3) ((rd_T33 x9 x11).f4) x1 x2).bind fun t111 => (if t111 = true then (word_partsR.l0 k x0 x1 x2 x9 x10 (wrap64 (x11 + 1))) else (some false))) else (some false))) else (none)) else (none)) else (some true)
def word_partsR.f (k : Nat) (l0 : List (S33)) (a1 : Int) (a2 : Int) : Option (Bool) := word_partsR.l0 k l0 a1 a2 l0 (l0.length : Int) 0
def word_partsR.T7 : Bool × List (List Nat × List Nat) := (true, [([], []), ([], []), ([0, 1], [0, 1]), ([2], [2]), ([3, 2], [3]), ([4], [4]), ([5, 4], [4, 5]), ([6, 4, 4], [4, 6]), ([7], [7]), ([7], [7]), ([9, 7], [7, 9]), ([8, 10, 7], [7, 8, 10]), ([11, 7], [7, 11]), ([12, 7], [7, 12]), ([13, 7], [7, 13]), ([7, 14, 4], [4, 7, 14]), ([15, 7, 4], [4, 15]), ([16], [16]), ([16], [16]), ([18, 16], [16, 18]), ([17, 19, 16], [16, 17, 19]), ([20, 16], [16, 20]), ([21, 16], [16, 21]), ([16], [16]), ([23, 16], [16, 23]), ([22, 24, 16], [16, 22, 24]), ([16, 25, 4], [4, 16, 25]), ([4, 26], [4, 26])])
def word_partsR.B7 : List Nat := [0, 0, 3, 7, 15, 31, 63, 127, 255, 255, 767, 2047, 4095, 8191, 16383, 32767, 65535, 131071, 131071, 393215, 1048575, 2097151, 4194303, 131071, 8519679, 33554431, 67108863, 134217727]
theorem word_partsR.tab7 : rtab .any (opsOf Tryd.f23 7) = word_partsR.T7 := by kernel_rfl
theorem word_partsR.bits7 : waitsOk word_partsR.T7.2 word_partsR.B7 = true := by kernel_rfl
set_option maxHeartbeats 8000000 in
set_option maxRecDepth 100000 in
theorem word_partsR.calls (k : Nat) (A0 : Option Addr) (c0 : Nat) (l0 : List (S33)) (a1 : Int) (a2 : Int) (r : Bool) (w : World) (hr0 : Kd.C k33 w A0 l0.length l0) (hc0 : l0.length ≤ c0) (h : word_partsR.f k l0 a1 a2 = some r) :
    Calls Tryd.prog 23 #[.slice A0 l0.length c0, .int .i64 a1, .int .i64 a2] w fun e w' => e = .returned (.bool r) ∧ Below w.heap.size w w' := by
  have hu33 := Tryd.underlying33
  have HR0 := Aside0.mk hr0
  have HC0 := Aside0.mk hc0
  clear hr0 hc0
  have HB := Aside0.mk (Below.refl w.heap.size w)
  have H : (word_partsR.l0 k l0 a1 a2 l0 (l0.length : Int) 0) = some r := h
  clear h
  have H' := Aside0.mk H
  clear H
  go_enter Tryd.func23, Tryd.ntmps23
  go_wp2
  go_loopg [11] k (fun kq v11 w' => ∃ (x11_1 : Int), v11 = .int .i64 x11_1 ∧ Aside0 (word_partsR.l0 kq l0 a1 a2 l0 (l0.length : Int) x11_1 = some r) ∧ Aside0 (kq ≤ k) ∧ Aside0 (Below w.heap.size w w'))
  case atStart => exact ⟨(0), (by first | rfl | (simp; done) | (simp [*]; done)), H', ⟨Nat.le_refl _⟩, ⟨by repeat (first | (with_reducible first | exact HB.out | apply below_alloc | apply pw_below_drewN | apply below_drew1) | exact HB.out)⟩⟩
  case round =>
    clear H'
    try clear c2
    try clear p2
    obtain ⟨x11_1, rfl, HA, HK1, HB⟩ := hrel
    cases gk with
    | zero => exact absurd HA.out (by simp [word_partsR.l0])
    | succ k1 =>
      have H := HA.out
      clear HA
      simp only [word_partsR.l0] at H
      by_cases c4 : x11_1 < (l0.length : Int)
      · rw [if_pos c4] at H
        have c4b0 : decide (x11_1 < (l0.length : Int)) = true := decide_eq_true c4
        clear c4
        by_cases c5 : 0 ≤ x11_1
        · rw [if_pos c5] at H
          have c5b0 : decide (0 ≤ x11_1) = true := decide_eq_true c5
          clear c5
          by_cases c6 : x11_1 < (l0.length : Int)
          · rw [if_pos c6] at H
            have c6b0 : decide (x11_1 < (l0.length : Int)) = true := decide_eq_true c6
            clear c6
            by_cases c7 : ((rd_T33 l0 x11_1).f0) = 1
            · rw [if_pos c7] at H
              have c7b0 : (((rd_T33 l0 x11_1).f0) == 1) = true := beq_iff_eq.mpr c7
              have c7b1 : (((rd_T33 l0 x11_1).f0) != 1) = false := bne_eq_false_iff_eq.mpr c7
              clear c7
              replace H := Option.bind_eq_some_iff.mp H
              obtain ⟨t108, A80, H⟩ := H
              replace H : (if t108 = true then (if x11_1 > 0 then (if 0 ≤ (wrap64 (x11_1 - 1)) then (if (wrap64 (x11_1 - 1)) < (l0.length : Int) then (if ((rd_T33 l0 (wrap64 (x11_1 - 1))).f0) = 1 then (if (((rd_T33 l0 (wrap64 (x11_1 - 1))).f1) == ((rd_T33 l0 x11_1).f1)) = true then (some false) else (word_partsR.l0 k1 l0 a1 a2 l0 (l0.length : Int) (wrap64 (x11_1 + 1)))) else (word_partsR.l0 k1 l0 a1 a2 l0 (l0.length : Int) (wrap64 (x11_1 + 1)))) else (none)) else (none)) else (word_partsR.l0 k1 l0 a1 a2 l0 (l0.length : Int) (wrap64 (x11_1 + 1)))) else (some false)) = some r := H
              have A8 := Aside0.mk A80
              clear A80
              by_cases c9 : t108 = true
              · subst c9
                have H1 : (if x11_1 > 0 then (if 0 ≤ (wrap64 (x11_1 - 1)) then (if (wrap64 (x11_1 - 1)) < (l0.length : Int) then (if ((rd_T33 l0 (wrap64 (x11_1 - 1))).f0) = 1 then (if (((rd_T33 l0 (wrap64 (x11_1 - 1))).f1) == ((rd_T33 l0 x11_1).f1)) = true then (some false) else (word_partsR.l0 k1 l0 a1 a2 l0 (l0.length : Int) (wrap64 (x11_1 + 1)))) else (word_partsR.l0 k1 l0 a1 a2 l0 (l0.length : Int) (wrap64 (x11_1 + 1)))) else (none)) else (none)) else (word_partsR.l0 k1 l0 a1 a2 l0 (l0.length : Int) (wrap64 (x11_1 + 1)))) = some r := by rw [if_pos rfl] at H; exact H
                clear H
                have H := H1
                clear H1
                by_cases c10 : x11_1 > 0
                · rw [if_pos c10] at H
                  have c10b0 : decide (0 < x11_1) = true := decide_eq_true c10
                  clear c10
                  obtain ⟨ji11, hji11⟩ : ∃ j_ : Int, (wrap64 (x11_1 - 1)) = j_ := ⟨_, rfl⟩
                  replace H : (if 0 ≤ (ji11) then (if (ji11) < (l0.length : Int) then (if ((rd_T33 l0 (ji11)).f0) = 1 then (if (((rd_T33 l0 (ji11)).f1) == ((rd_T33 l0 x11_1).f1)) = true then (some false) else (word_partsR.l0 k1 l0 a1 a2 l0 (l0.length : Int) (wrap64 (x11_1 + 1)))) else (word_partsR.l0 k1 l0 a1 a2 l0 (l0.length : Int) (wrap64 (x11_1 + 1)))) else (none)) else (none)) = some r := by first | (rw [hji11] at H; exact H) | (simp only [hji11] at H ⊢; exact H)
                  (try rw [hji11] at A8)
                  have hji11w : (IntKind.i64.wrap (x11_1 - 1)) = ji11 := (i64_w _).trans hji11
                  by_cases c12 : 0 ≤ (ji11)
                  · rw [if_pos c12] at H
                    have c12b0 : decide (0 ≤ (ji11)) = true := decide_eq_true c12
                    clear c12
                    by_cases c13 : (ji11) < (l0.length : Int)
                    · rw [if_pos c13] at H
                      have c13b0 : decide ((ji11) < (l0.length : Int)) = true := decide_eq_true c13
                      clear c13
                      by_cases c14 : ((rd_T33 l0 (ji11)).f0) = 1
                      · rw [if_pos c14] at H
                        have c14b0 : (((rd_T33 l0 (ji11)).f0) == 1) = true := beq_iff_eq.mpr c14
                        have c14b1 : (((rd_T33 l0 (ji11)).f0) != 1) = false := bne_eq_false_iff_eq.mpr c14
                        clear c14
                        by_cases c15 : (((rd_T33 l0 (ji11)).f1) == ((rd_T33 l0 x11_1).f1)) = true
                        · rw [if_pos c15] at H
                          have c15b0 : (((rd_T33 l0 (ji11)).f1) == ((rd_T33 l0 x11_1).f1)) = true := c15
                          (try (have c15b1 : decide (((rd_T33 l0 (ji11)).f1) = ((rd_T33 l0 x11_1).f1)) = true := by simpa using c15))
                          (try (have c15b2 : (((rd_T33 l0 (ji11)).f1) == ((rd_T33 l0 x11_1).f1)) = true := by simpa using c15))
                          clear c15
                          obtain rfl := Option.some.inj H
                          have p106 : 0 ≤ (x11_1 : Int) := of_decide_eq_true (by first | (with_reducible assumption) | assumption)
                          have q106 : x11_1 < (l0.length : Int) := of_decide_eq_true (by first | (with_reducible assumption) | assumption)
                          obtain ⟨ad106, A106_4, c106_4, e106, hx106_0, hx106_1, hx106_2, hx106_3, hx106_4, hl106_4, hi106_4⟩ := at_T33 HR0.out x11_1 p106 q106
                          cases e106
                          replace hx106_0 := (HB.out.cell (World.block_lt_of_cell? w _ hx106_0)).trans hx106_0
                          replace hx106_1 := (HB.out.cell (World.block_lt_of_cell? w _ hx106_1)).trans hx106_1
                          replace hx106_2 := (HB.out.cell (World.block_lt_of_cell? w _ hx106_2)).trans hx106_2
                          replace hx106_3 := (HB.out.cell (World.block_lt_of_cell? w _ hx106_3)).trans hx106_3
                          replace hx106_4 := (HB.out.cell (World.block_lt_of_cell? w _ hx106_4)).trans hx106_4
                          have HR106_4 := Aside0.mk hi106_4
                          have HC106_4 := Aside0.mk hl106_4
                          clear hi106_4 hl106_4
                          replace p106 := eq_true p106
                          replace q106 := eq_true q106
                          try go_wp2_with (first | ((with_reducible refine gate_dst (N := 8) rfl ?_); refine box_event ?hg (N := 8) ?hd (cs := #[.int .i64 0, .bool false, .string (⟨#[]⟩ : ByteArray), .string (⟨#[]⟩ : ByteArray), .slice none 0 0]) (t := 33) ?hr ?_; (case hd => rfl); (case hg => rfl); (case hr => first | (go_simp; done) | (go_simp; rfl)); intro gb107 hg w16 hbox hb; have n0_ := Aside0.mk (below_step (by repeat (first | (with_reducible first | exact HB.out | apply below_alloc | apply pw_below_drewN | apply below_drew1) | exact HB.out)) hb); have n1_ := Aside0.mk (hbox); have n2_ := Aside0.mk ((by rw [hg]; exact (below_size (by repeat (first | (with_reducible first | exact HB.out | apply below_alloc | apply pw_below_drewN | apply below_drew1) | exact HB.out))) : w.heap.size ≤ gb107)); have n3_ := Aside0.mk ((by rw [hg]; exact (below_size (by repeat (first | (with_reducible first | exact HB.out | apply below_alloc | apply pw_below_drewN | apply below_drew1) | exact HB.out))) : w.heap.size ≤ gb107)); clear HB; have HB := n0_; have BK107 := n1_; have GW107 := n2_; have GE107 := n3_; clear n0_ n1_ n2_ n3_; clear hb hbox hg; have hcz17_0 : w16.cell? ⟨gb107, 0, none⟩ = some (.int .i64 0) := (blk_cell BK107.out 0).trans rfl; have hcz17_1 : w16.cell? ⟨gb107, 1, none⟩ = some (.bool false) := (blk_cell BK107.out 1).trans rfl; have hcz17_2 : w16.cell? ⟨gb107, 2, none⟩ = some (.string (⟨#[]⟩ : ByteArray)) := (blk_cell BK107.out 2).trans rfl; have hcz17_3 : w16.cell? ⟨gb107, 3, none⟩ = some (.string (⟨#[]⟩ : ByteArray)) := (blk_cell BK107.out 3).trans rfl; have hcz17_4 : w16.cell? ⟨gb107, 4, none⟩ = some (.slice none 0 0) := (blk_cell BK107.out 4).trans rfl; have hfz17_0 := blk_frozen BK107.out 0; have hfz17_1 := blk_frozen BK107.out 1; have hfz17_2 := blk_frozen BK107.out 2; have hfz17_3 := blk_frozen BK107.out 3; have hfz17_4 := blk_frozen BK107.out 4))
                          have n0_ : Aside0 ((((((w16.setCell ⟨gb107, 0, none⟩ (.int .i64 ((rd_T33 l0 x11_1).f0))).setCell ⟨gb107, 1, none⟩ (.bool ((rd_T33 l0 x11_1).f1))).setCell ⟨gb107, 2, none⟩ (.string ((rd_T33 l0 x11_1).f2))).setCell ⟨gb107, 3, none⟩ (.string ((rd_T33 l0 x11_1).f3))).setCell ⟨gb107, 4, none⟩ (.slice A106_4 ((rd_T33 l0 x11_1).f4).length c106_4)).heap[gb107]? = some (.cells #[.int .i64 ((rd_T33 l0 x11_1).f0), .bool ((rd_T33 l0 x11_1).f1), .string ((rd_T33 l0 x11_1).f2), .string ((rd_T33 l0 x11_1).f3), .slice A106_4 ((rd_T33 l0 x11_1).f4).length c106_4] 33 (0, 0))) := ⟨by (with_reducible repeat (first | refine blk_drewN ?_ _ | refine blk_drew ?_ | refine blk_alloc ?_ _)); refine blk_put (cs := #[.int .i64 ((rd_T33 l0 x11_1).f0), .bool ((rd_T33 l0 x11_1).f1), .string ((rd_T33 l0 x11_1).f2), .string ((rd_T33 l0 x11_1).f3), .slice none 0 0]) ?_ 4 _ rfl; (with_reducible repeat (first | refine blk_drewN ?_ _ | refine blk_drew ?_ | refine blk_alloc ?_ _)); refine blk_put (cs := #[.int .i64 ((rd_T33 l0 x11_1).f0), .bool ((rd_T33 l0 x11_1).f1), .string ((rd_T33 l0 x11_1).f2), .string (⟨#[]⟩ : ByteArray), .slice none 0 0]) ?_ 3 _ rfl; (with_reducible repeat (first | refine blk_drewN ?_ _ | refine blk_drew ?_ | refine blk_alloc ?_ _)); refine blk_put (cs := #[.int .i64 ((rd_T33 l0 x11_1).f0), .bool ((rd_T33 l0 x11_1).f1), .string (⟨#[]⟩ : ByteArray), .string (⟨#[]⟩ : ByteArray), .slice none 0 0]) ?_ 2 _ rfl; (with_reducible repeat (first | refine blk_drewN ?_ _ | refine blk_drew ?_ | refine blk_alloc ?_ _)); refine blk_put (cs := #[.int .i64 ((rd_T33 l0 x11_1).f0), .bool false, .string (⟨#[]⟩ : ByteArray), .string (⟨#[]⟩ : ByteArray), .slice none 0 0]) ?_ 1 _ rfl; (with_reducible repeat (first | refine blk_drewN ?_ _ | refine blk_drew ?_ | refine blk_alloc ?_ _)); refine blk_put (cs := #[.int .i64 0, .bool false, .string (⟨#[]⟩ : ByteArray), .string (⟨#[]⟩ : ByteArray), .slice none 0 0]) ?_ 0 _ rfl; (with_reducible repeat (first | refine blk_drewN ?_ _ | refine blk_drew ?_ | refine blk_alloc ?_ _)); exact BK107.out⟩
                          have n1_ : Aside0 (Below w.heap.size w (((((w16.setCell ⟨gb107, 0, none⟩ (.int .i64 ((rd_T33 l0 x11_1).f0))).setCell ⟨gb107, 1, none⟩ (.bool ((rd_T33 l0 x11_1).f1))).setCell ⟨gb107, 2, none⟩ (.string ((rd_T33 l0 x11_1).f2))).setCell ⟨gb107, 3, none⟩ (.string ((rd_T33 l0 x11_1).f3))).setCell ⟨gb107, 4, none⟩ (.slice A106_4 ((rd_T33 l0 x11_1).f4).length c106_4))) := ⟨by repeat (first | (with_reducible first | exact HB.out | apply below_alloc | apply pw_below_drewN | apply below_drew1 | refine below_set ?_ GE107.out) | exact HB.out)⟩
                          (try clear BK107)
                          (try clear HB)
                          generalize (((((w16.setCell ⟨gb107, 0, none⟩ (.int .i64 ((rd_T33 l0 x11_1).f0))).setCell ⟨gb107, 1, none⟩ (.bool ((rd_T33 l0 x11_1).f1))).setCell ⟨gb107, 2, none⟩ (.string ((rd_T33 l0 x11_1).f2))).setCell ⟨gb107, 3, none⟩ (.string ((rd_T33 l0 x11_1).f3))).setCell ⟨gb107, 4, none⟩ (.slice A106_4 ((rd_T33 l0 x11_1).f4).length c106_4)) = w18 at n0_ n1_ ⊢
                          have BK107 := n0_
                          have HB := n1_
                          clear n0_ n1_
                          have n0_ := Aside0.mk (blk_drew BK107.out)
                          have n1_ := Aside0.mk (below_drew1 HB.out)
                          clear BK107
                          clear HB
                          have BK107 := n0_
                          have HB := n1_
                          clear n0_ n1_
                          have p109 : 0 ≤ ((ji11) : Int) := of_decide_eq_true (by first | (with_reducible assumption) | assumption)
                          have q109 : (ji11) < (l0.length : Int) := of_decide_eq_true (by first | (with_reducible assumption) | assumption)
                          obtain ⟨ad109, A109_4, c109_4, e109, hx109_0, hx109_1, hx109_2, hx109_3, hx109_4, hl109_4, hi109_4⟩ := at_T33 HR0.out (ji11) p109 q109
                          have hw109_4 := hx109_4
                          have hw109_3 := hx109_3
                          have hw109_2 := hx109_2
                          have hw109_1 := hx109_1
                          have hw109_0 := hx109_0
                          obtain rfl : ad106 = ad109 := (by injection e109)
                          replace hx109_0 := (HB.out.cell (World.block_lt_of_cell? w _ hx109_0)).trans hx109_0
                          replace hx109_1 := (HB.out.cell (World.block_lt_of_cell? w _ hx109_1)).trans hx109_1
                          replace hx109_2 := (HB.out.cell (World.block_lt_of_cell? w _ hx109_2)).trans hx109_2
                          replace hx109_3 := (HB.out.cell (World.block_lt_of_cell? w _ hx109_3)).trans hx109_3
                          replace hx109_4 := (HB.out.cell (World.block_lt_of_cell? w _ hx109_4)).trans hx109_4
                          have HR109_4 := Aside0.mk hi109_4
                          have HC109_4 := Aside0.mk hl109_4
                          clear hi109_4 hl109_4
                          replace p109 := eq_true p109
                          replace q109 := eq_true q109
                          have p110 : 0 ≤ ((ji11) : Int) := of_decide_eq_true (by first | (with_reducible assumption) | assumption)
                          have q110 : (ji11) < (l0.length : Int) := of_decide_eq_true (by first | (with_reducible assumption) | assumption)
                          obtain ⟨ad110, A110_4, c110_4, e110, hx110_0, hx110_1, hx110_2, hx110_3, hx110_4, hl110_4, hi110_4⟩ := at_T33 HR0.out (ji11) p110 q110
                          have hw110_4 := hx110_4
                          have hw110_3 := hx110_3
                          have hw110_2 := hx110_2
                          have hw110_1 := hx110_1
                          have hw110_0 := hx110_0
                          obtain rfl : ad106 = ad110 := (by injection e110)
                          replace hx110_0 := (HB.out.cell (World.block_lt_of_cell? w _ hx110_0)).trans hx110_0
                          replace hx110_1 := (HB.out.cell (World.block_lt_of_cell? w _ hx110_1)).trans hx110_1
                          replace hx110_2 := (HB.out.cell (World.block_lt_of_cell? w _ hx110_2)).trans hx110_2
                          replace hx110_3 := (HB.out.cell (World.block_lt_of_cell? w _ hx110_3)).trans hx110_3
                          replace hx110_4 := (HB.out.cell (World.block_lt_of_cell? w _ hx110_4)).trans hx110_4
                          have HR110_4 := Aside0.mk hi110_4
                          have HC110_4 := Aside0.mk hl110_4
                          clear hi110_4 hl110_4
                          replace p110 := eq_true p110
                          replace q110 := eq_true q110
                          have ea_ := Option.some.inj (hx109_4.symm.trans hx110_4)
                          injection ea_ with ea_ en_ ec_
                          subst ea_
                          subst ec_
                          clear en_
                          refine start_ (n := 28) (S := fun w' => w'.cell? ⟨gb107, 0, none⟩ = some (.int .i64 ((rd_T33 l0 x11_1).f0)) ∧ w'.cell? ⟨gb107, 1, none⟩ = some (.bool ((rd_T33 l0 x11_1).f1)) ∧ w'.cell? ⟨gb107, 2, none⟩ = some (.string ((rd_T33 l0 x11_1).f2)) ∧ w'.cell? ⟨gb107, 3, none⟩ = some (.string ((rd_T33 l0 x11_1).f3)) ∧ w'.cell? ⟨gb107, 4, none⟩ = some (.slice A106_4 ((rd_T33 l0 x11_1).f4).length c106_4) ∧ w'.cell? (ad106.add (((ji11)).toNat * 5)) = some (.int .i64 ((rd_T33 l0 (ji11)).f0)) ∧ w'.cell? ⟨(ad106.add (((ji11)).toNat * 5)).block, (ad106.add (((ji11)).toNat * 5)).off + 1, none⟩ = some (.bool ((rd_T33 l0 (ji11)).f1)) ∧ w'.cell? ⟨(ad106.add (((ji11)).toNat * 5)).block, (ad106.add (((ji11)).toNat * 5)).off + 2, none⟩ = some (.string ((rd_T33 l0 (ji11)).f2)) ∧ w'.cell? ⟨(ad106.add (((ji11)).toNat * 5)).block, (ad106.add (((ji11)).toNat * 5)).off + 3, none⟩ = some (.string ((rd_T33 l0 (ji11)).f3)) ∧ w'.cell? ⟨(ad106.add (((ji11)).toNat * 5)).block, (ad106.add (((ji11)).toNat * 5)).off + 4, none⟩ = some (.slice A109_4 ((rd_T33 l0 (ji11)).f4).length c109_4) ∧ w'.cell? (ad106.add (((ji11)).toNat * 5)) = some (.int .i64 ((rd_T33 l0 (ji11)).f0)) ∧ w'.cell? ⟨(ad106.add (((ji11)).toNat * 5)).block, (ad106.add (((ji11)).toNat * 5)).off + 1, none⟩ = some (.bool ((rd_T33 l0 (ji11)).f1)) ∧ w'.cell? ⟨(ad106.add (((ji11)).toNat * 5)).block, (ad106.add (((ji11)).toNat * 5)).off + 2, none⟩ = some (.string ((rd_T33 l0 (ji11)).f2)) ∧ w'.cell? ⟨(ad106.add (((ji11)).toNat * 5)).block, (ad106.add (((ji11)).toNat * 5)).off + 3, none⟩ = some (.string ((rd_T33 l0 (ji11)).f3)) ∧ w'.cell? ⟨(ad106.add (((ji11)).toNat * 5)).block, (ad106.add (((ji11)).toNat * 5)).off + 4, none⟩ = some (.slice A109_4 ((rd_T33 l0 (ji11)).f4).length c109_4)) (ds := []) #[false, false, false, false, false, false, false, false, false, false, false, false, false, false, false, false, false, false, false, false, false, false, false, false, false, false, false, false] (by kernel_rfl) rfl rfl ⟨(blk_cell BK107.out 0).trans rfl, (blk_cell BK107.out 1).trans rfl, (blk_cell BK107.out 2).trans rfl, (blk_cell BK107.out 3).trans rfl, (blk_cell BK107.out 4).trans rfl, ((HB.out.cell (World.block_lt_of_cell? w _ hw109_0)).trans hw109_0), ((HB.out.cell (World.block_lt_of_cell? w _ hw109_1)).trans hw109_1), ((HB.out.cell (World.block_lt_of_cell? w _ hw109_2)).trans hw109_2), ((HB.out.cell (World.block_lt_of_cell? w _ hw109_3)).trans hw109_3), ((HB.out.cell (World.block_lt_of_cell? w _ hw109_4)).trans hw109_4), ((HB.out.cell (World.block_lt_of_cell? w _ hw110_0)).trans hw110_0), ((HB.out.cell (World.block_lt_of_cell? w _ hw110_1)).trans hw110_1), ((HB.out.cell (World.block_lt_of_cell? w _ hw110_2)).trans hw110_2), ((HB.out.cell (World.block_lt_of_cell? w _ hw110_3)).trans hw110_3), ((HB.out.cell (World.block_lt_of_cell? w _ hw110_4)).trans hw110_4)⟩ (fun hHeld => ?_); refine with_tabW word_partsR.tab7 word_partsR.bits7 (fun HT_ HW_ => ?_)
                          generalize w18.drew = w19 at BK107 HB HR109_4 HR110_4 hx109_0 hx109_1 hx109_2 hx109_3 hx109_4 hx110_0 hx110_1 hx110_2 hx110_3 hx110_4 hHeld ⊢
                          refine pure_ (i := 1) (N := some 21) (v := ?_) (a' := ?_) #[false, true, false, false, false, false, false, false, false, false, false, false, false, false, false, false, false, false, false, false, false, false, false, false, false, false, false, false] rfl rfl (any_of HT_.out (by kernel_rfl)) (fun _ _ _ h => h) (Or.inl ⟨by rfl, ?_⟩) ?_ ?_
                          rotate_left
                          · intro w'
                            go_simp
                            with_reducible rfl
                          rotate_left
                          · simp only [Act.put, List.setIfInBounds_toArray, List.set_cons_zero, List.set_cons_succ, i64_w, i32_w]
                            rfl
                          refine take_ (i := 0) (N := some 20) (v := ?_) (a' := ?_) #[true, true, false, false, false, false, false, false, false, false, false, false, false, false, false, false, false, false, false, false, false, false, false, false, false, false, false, false] rfl rfl (take_ofW HT_.out HW_.out (by kernel_rfl)) (fun _ _ _ h => h) (Or.inl ⟨by rfl, ?_⟩) hHeld ?_ ?_
                          rotate_left
                          · rintro w' ⟨s0, s1, s2, s3, s4, s5, s6, s7, s8, s9, s10, s11, s12, s13, s14⟩
                            go_simp
                            with_reducible rfl
                          rotate_left
                          · simp only [Act.put, List.setIfInBounds_toArray, List.set_cons_zero, List.set_cons_succ, i64_w, i32_w]
                            rfl
                          refine one_ (i := 2) (N := some 22) #[true, true, true, false, false, false, false, false, false, false, false, false, false, false, false, false, false, false, false, false, false, false, false, false, false, false, false, false] rfl rfl (one_of HT_.out (by kernel_rfl)) (by decide) (fun K hK => ?_)
                          refine goes_ Tryd.func35 (by kernel_rfl) rfl #[.agg #[.int .i64 ((rd_T33 l0 x11_1).f0), .bool ((rd_T33 l0 x11_1).f1), .string ((rd_T33 l0 x11_1).f2), .string ((rd_T33 l0 x11_1).f3), .slice A106_4 ((rd_T33 l0 x11_1).f4).length c106_4], .int .i64 a1] (by rfl) rfl rfl (by (try simp only [List.map_toArray, List.map_cons, List.map_nil]); first | done | rfl | (simp only [List.length_drop, List.length_take]; rfl)) ?_
                          with_reducible refine (word_literal.calls k1 ((rd_T33 l0 x11_1).f0) ((rd_T33 l0 x11_1).f1) ((rd_T33 l0 x11_1).f2) ((rd_T33 l0 x11_1).f3) _ _ ((rd_T33 l0 x11_1).f4) a1 true _ ?side1 ?side2 A8.out).mono ?_
                          (case side1 => repeat (first | exact (Kd.C_below HR106_4.out HB.out) | (with_reducible refine Kd.C_alloc ?_ _) | (with_reducible refine Kd.C_drewN ?_ _) | (with_reducible refine Kd.C_drew ?_)))
                          (case side2 => exact HC106_4.out)
                          rintro e w20 ⟨rfl, hb⟩
                          refine ⟨_, rfl, ?_⟩
                          have n0_ := Aside0.mk (blk_below (g := gb107) (o := .cells #[.int .i64 ((rd_T33 l0 x11_1).f0), .bool ((rd_T33 l0 x11_1).f1), .string ((rd_T33 l0 x11_1).f2), .string ((rd_T33 l0 x11_1).f3), .slice A106_4 ((rd_T33 l0 x11_1).f4).length c106_4] 33 (0, 0)) (by (with_reducible repeat (first | refine blk_drewN ?_ _ | refine blk_drew ?_ | refine blk_alloc ?_ _)); exact BK107.out) hb)
                          have n1_ := Aside0.mk (below_step (by repeat (first | (with_reducible first | exact HB.out | apply below_alloc | apply pw_below_drewN | apply below_drew1 | refine below_set ?_ GE107.out) | exact HB.out)) hb)
                          clear BK107
                          clear HB
                          have BK107 := n0_
                          have HB := n1_
                          clear n0_ n1_
                          (try clear hb)
                          (try clear hb2)
                          (try clear hk)
                          (try clear hi)
                          refine hK.out _ _ ⟨(blk_cell BK107.out 0).trans rfl, (blk_cell BK107.out 1).trans rfl, (blk_cell BK107.out 2).trans rfl, (blk_cell BK107.out 3).trans rfl, (blk_cell BK107.out 4).trans rfl, ((HB.out.cell (World.block_lt_of_cell? w _ hw109_0)).trans hw109_0), ((HB.out.cell (World.block_lt_of_cell? w _ hw109_1)).trans hw109_1), ((HB.out.cell (World.block_lt_of_cell? w _ hw109_2)).trans hw109_2), ((HB.out.cell (World.block_lt_of_cell? w _ hw109_3)).trans hw109_3), ((HB.out.cell (World.block_lt_of_cell? w _ hw109_4)).trans hw109_4), ((HB.out.cell (World.block_lt_of_cell? w _ hw110_0)).trans hw110_0), ((HB.out.cell (World.block_lt_of_cell? w _ hw110_1)).trans hw110_1), ((HB.out.cell (World.block_lt_of_cell? w _ hw110_2)).trans hw110_2), ((HB.out.cell (World.block_lt_of_cell? w _ hw110_3)).trans hw110_3), ((HB.out.cell (World.block_lt_of_cell? w _ hw110_4)).trans hw110_4)⟩ (fun hHeld => ?_)
                          clear hK K
                          refine norm_ (a' := ?_) ?_ ?_
                          rotate_left
                          · show Act.put _ (some 22) _ = _
                            simp only [Act.put, List.setIfInBounds_toArray, List.set_cons_zero, List.set_cons_succ, i64_w, i32_w]
                            rfl
                          refine pure_ (i := 3) (N := some 23) (v := ?_) (a' := ?_) #[true, true, true, true, false, false, false, false, false, false, false, false, false, false, false, false, false, false, false, false, false, false, false, false, false, false, false, false] rfl rfl (any_of HT_.out (by kernel_rfl)) (fun _ _ _ h => h) (Or.inl ⟨by rfl, ?_⟩) ?_ ?_
                          rotate_left
                          · intro w'
                            go_simp
                            with_reducible rfl
                          rotate_left
                          · simp only [Act.put, List.setIfInBounds_toArray, List.set_cons_zero, List.set_cons_succ, i64_w, i32_w]
                            rfl
                          refine pure_ (i := 4) (N := some 24) (v := ?_) (a' := ?_) #[true, true, true, true, true, false, false, false, false, false, false, false, false, false, false, false, false, false, false, false, false, false, false, false, false, false, false, false] rfl rfl (any_of HT_.out (by kernel_rfl)) (fun _ _ _ h => h) (Or.inl ⟨by rfl, ?_⟩) ?_ ?_
                          rotate_left
                          · intro w'
                            go_simp
                            with_reducible rfl
                          rotate_left
                          · simp only [Act.put, List.setIfInBounds_toArray, List.set_cons_zero, List.set_cons_succ, i64_w, i32_w]
                            rfl
                          refine pure_ (i := 5) (N := some 25) (v := ?_) (a' := ?_) #[true, true, true, true, true, true, false, false, false, false, false, false, false, false, false, false, false, false, false, false, false, false, false, false, false, false, false, false] rfl rfl (any_of HT_.out (by kernel_rfl)) (fun _ _ _ h => h) (Or.inl ⟨by rfl, ?_⟩) ?_ ?_
                          rotate_left
                          · intro w'
                            go_simp
                            with_reducible rfl
                          rotate_left
                          · simp only [Act.put, List.setIfInBounds_toArray, List.set_cons_zero, List.set_cons_succ, i64_w, i32_w]
                            rfl
                          refine pure_ (i := 6) (N := some 26) (v := ?_) (a' := ?_) #[true, true, true, true, true, true, true, false, false, false, false, false, false, false, false, false, false, false, false, false, false, false, false, false, false, false, false, false] rfl rfl (any_of HT_.out (by kernel_rfl)) (fun _ _ _ h => h) (Or.inl ⟨by rfl, ?_⟩) ?_ ?_
                          rotate_left
                          · intro w'
                            go_simp
                            with_reducible rfl
                          rotate_left
                          · simp only [Act.put, List.setIfInBounds_toArray, List.set_cons_zero, List.set_cons_succ, i64_w, i32_w]
                            rfl
                          refine pure_ (i := 7) (N := some 27) (v := ?_) (a' := ?_) #[true, true, true, true, true, true, true, true, false, false, false, false, false, false, false, false, false, false, false, false, false, false, false, false, false, false, false, false] rfl rfl (any_of HT_.out (by kernel_rfl)) (fun _ _ _ h => h) (Or.inl ⟨by rfl, ?_⟩) ?_ ?_
                          rotate_left
                          · intro w'
                            go_simp
                            with_reducible rfl
                          rotate_left
                          · simp only [Act.put, List.setIfInBounds_toArray, List.set_cons_zero, List.set_cons_succ, i64_w, i32_w]
                            rfl
                          refine pure_ (i := 8) (N := some 28) (v := ?_) (a' := ?_) #[true, true, true, true, true, true, true, true, true, false, false, false, false, false, false, false, false, false, false, false, false, false, false, false, false, false, false, false] rfl rfl (any_of HT_.out (by kernel_rfl)) (fun _ _ _ h => h) (Or.inl ⟨by rfl, ?_⟩) ?_ ?_
                          rotate_left
                          · intro w'
                            go_simp
                            with_reducible rfl
                          rotate_left
                          · simp only [Act.put, List.setIfInBounds_toArray, List.set_cons_zero, List.set_cons_succ, i64_w, i32_w]
                            rfl
                          refine pure_ (i := 9) (N := some 29) (v := ?_) (a' := ?_) #[true, true, true, true, true, true, true, true, true, true, false, false, false, false, false, false, false, false, false, false, false, false, false, false, false, false, false, false] rfl rfl (any_of HT_.out (by kernel_rfl)) (fun _ _ _ h => h) (Or.inl ⟨by rfl, ?_⟩) ?_ ?_
                          rotate_left
                          · intro w'
                            go_simp
                            with_reducible rfl
                          rotate_left
                          · simp only [Act.put, List.setIfInBounds_toArray, List.set_cons_zero, List.set_cons_succ, i64_w, i32_w]
                            rfl
                          refine pure_ (i := 10) (N := some 30) (v := ?_) (a' := ?_) #[true, true, true, true, true, true, true, true, true, true, true, false, false, false, false, false, false, false, false, false, false, false, false, false, false, false, false, false] rfl rfl (any_of HT_.out (by kernel_rfl)) (fun _ _ _ h => h) (Or.inl ⟨by rfl, ?_⟩) ?_ ?_
                          rotate_left
                          · intro w'
                            go_simp
                            with_reducible rfl
                          rotate_left
                          · simp only [Act.put, List.setIfInBounds_toArray, List.set_cons_zero, List.set_cons_succ, i64_w, i32_w]
                            rfl
                          refine pure_ (i := 11) (N := some 31) (v := ?_) (a' := ?_) #[true, true, true, true, true, true, true, true, true, true, true, true, false, false, false, false, false, false, false, false, false, false, false, false, false, false, false, false] rfl rfl (any_of HT_.out (by kernel_rfl)) (fun _ _ _ h => h) (Or.inl ⟨by rfl, ?_⟩) ?_ ?_
                          rotate_left
                          · intro w'
                            go_simp
                            with_reducible rfl
                          rotate_left
                          · simp only [Act.put, List.setIfInBounds_toArray, List.set_cons_zero, List.set_cons_succ, i64_w, i32_w]
                            rfl
                          refine pure_ (i := 12) (N := some 32) (v := ?_) (a' := ?_) #[true, true, true, true, true, true, true, true, true, true, true, true, true, false, false, false, false, false, false, false, false, false, false, false, false, false, false, false] rfl rfl (any_of HT_.out (by kernel_rfl)) (fun _ _ _ h => h) (Or.inl ⟨by rfl, ?_⟩) ?_ ?_
                          rotate_left
                          · intro w'
                            go_simp
                            with_reducible rfl
                          rotate_left
                          · simp only [Act.put, List.setIfInBounds_toArray, List.set_cons_zero, List.set_cons_succ, i64_w, i32_w]
                            rfl
                          refine take_ (i := 13) (N := some 33) (v := ?_) (a' := ?_) #[true, true, true, true, true, true, true, true, true, true, true, true, true, true, false, false, false, false, false, false, false, false, false, false, false, false, false, false] rfl rfl (take_ofW HT_.out HW_.out (by kernel_rfl)) (fun _ _ _ h => h) (Or.inl ⟨by rfl, ?_⟩) hHeld ?_ ?_
                          rotate_left
                          · rintro w' ⟨s0, s1, s2, s3, s4, s5, s6, s7, s8, s9, s10, s11, s12, s13, s14⟩
                            go_simp
                            with_reducible rfl
                          rotate_left
                          · simp only [Act.put, List.setIfInBounds_toArray, List.set_cons_zero, List.set_cons_succ, i64_w, i32_w]
                            rfl
                          refine pure_ (i := 14) (N := some 34) (v := ?_) (a' := ?_) #[true, true, true, true, true, true, true, true, true, true, true, true, true, true, true, false, false, false, false, false, false, false, false, false, false, false, false, false] rfl rfl (any_of HT_.out (by kernel_rfl)) (fun _ _ _ h => h) (Or.inl ⟨by rfl, ?_⟩) ?_ ?_
                          rotate_left
                          · intro w'
                            go_simp
                            with_reducible rfl
                          rotate_left
                          · simp only [Act.put, List.setIfInBounds_toArray, List.set_cons_zero, List.set_cons_succ, i64_w, i32_w]
                            rfl
                          refine pure_ (i := 15) (N := some 35) (v := ?_) (a' := ?_) #[true, true, true, true, true, true, true, true, true, true, true, true, true, true, true, true, false, false, false, false, false, false, false, false, false, false, false, false] rfl rfl (any_of HT_.out (by kernel_rfl)) (fun _ _ _ h => h) (Or.inl ⟨by rfl, ?_⟩) ?_ ?_
                          rotate_left
                          · intro w'
                            go_simp
                            with_reducible rfl
                          rotate_left
                          · simp only [Act.put, List.setIfInBounds_toArray, List.set_cons_zero, List.set_cons_succ, i64_w, i32_w]
                            rfl
                          refine pure_ (i := 16) (N := some 36) (v := ?_) (a' := ?_) #[true, true, true, true, true, true, true, true, true, true, true, true, true, true, true, true, true, false, false, false, false, false, false, false, false, false, false, false] rfl rfl (any_of HT_.out (by kernel_rfl)) (fun _ _ _ h => h) (Or.inl ⟨by rfl, ?_⟩) ?_ ?_
                          rotate_left
                          · intro w'
                            go_simp
                            with_reducible rfl
                          rotate_left
                          · simp only [Act.put, List.setIfInBounds_toArray, List.set_cons_zero, List.set_cons_succ, i64_w, i32_w]
                            rfl
                          refine pure_ (i := 17) (N := some 37) (v := ?_) (a' := ?_) #[true, true, true, true, true, true, true, true, true, true, true, true, true, true, true, true, true, true, false, false, false, false, false, false, false, false, false, false] rfl rfl (any_of HT_.out (by kernel_rfl)) (fun _ _ _ h => h) (Or.inl ⟨by rfl, ?_⟩) ?_ ?_
                          rotate_left
                          · intro w'
                            go_simp
                            with_reducible rfl
                          rotate_left
                          · simp only [Act.put, List.setIfInBounds_toArray, List.set_cons_zero, List.set_cons_succ, i64_w, i32_w]
                            rfl
                          refine pure_ (i := 18) (N := some 38) (v := ?_) (a' := ?_) #[true, true, true, true, true, true, true, true, true, true, true, true, true, true, true, true, true, true, true, false, false, false, false, false, false, false, false, false] rfl rfl (any_of HT_.out (by kernel_rfl)) (fun _ _ _ h => h) (Or.inl ⟨by rfl, ?_⟩) ?_ ?_
                          rotate_left
                          · intro w'
                            go_simp
                            with_reducible rfl
                          rotate_left
                          · simp only [Act.put, List.setIfInBounds_toArray, List.set_cons_zero, List.set_cons_succ, i64_w, i32_w]
                            rfl
                          refine pure_ (i := 19) (N := some 39) (v := ?_) (a' := ?_) #[true, true, true, true, true, true, true, true, true, true, true, true, true, true, true, true, true, true, true, true, false, false, false, false, false, false, false, false] rfl rfl (any_of HT_.out (by kernel_rfl)) (fun _ _ _ h => h) (Or.inl ⟨by rfl, ?_⟩) ?_ ?_
                          rotate_left
                          · intro w'
                            go_simp
                            with_reducible rfl
                          rotate_left
                          · simp only [Act.put, List.setIfInBounds_toArray, List.set_cons_zero, List.set_cons_succ, i64_w, i32_w]
                            rfl
                          refine pure_ (i := 20) (N := some 40) (v := ?_) (a' := ?_) #[true, true, true, true, true, true, true, true, true, true, true, true, true, true, true, true, true, true, true, true, true, false, false, false, false, false, false, false] rfl rfl (any_of HT_.out (by kernel_rfl)) (fun _ _ _ h => h) (Or.inl ⟨by rfl, ?_⟩) ?_ ?_
                          rotate_left
                          · intro w'
                            go_simp
                            with_reducible rfl
                          rotate_left
                          · simp only [Act.put, List.setIfInBounds_toArray, List.set_cons_zero, List.set_cons_succ, i64_w, i32_w]
                            rfl
                          refine pure_ (i := 21) (N := some 41) (v := ?_) (a' := ?_) #[true, true, true, true, true, true, true, true, true, true, true, true, true, true, true, true, true, true, true, true, true, true, false, false, false, false, false, false] rfl rfl (any_of HT_.out (by kernel_rfl)) (fun _ _ _ h => h) (Or.inl ⟨by rfl, ?_⟩) ?_ ?_
                          rotate_left
                          · intro w'
                            go_simp
                            with_reducible rfl
                          rotate_left
                          · simp only [Act.put, List.setIfInBounds_toArray, List.set_cons_zero, List.set_cons_succ, i64_w, i32_w]
                            rfl
                          refine pure_ (i := 23) (N := some 43) (v := ?_) (a' := ?_) #[true, true, true, true, true, true, true, true, true, true, true, true, true, true, true, true, true, true, true, true, true, true, false, true, false, false, false, false] rfl rfl (any_of HT_.out (by kernel_rfl)) (fun _ _ _ h => h) (Or.inl ⟨by rfl, ?_⟩) ?_ ?_
                          rotate_left
                          · intro w'
                            go_simp
                            with_reducible rfl
                          rotate_left
                          · simp only [Act.put, List.setIfInBounds_toArray, List.set_cons_zero, List.set_cons_succ, i64_w, i32_w]
                            rfl
                          refine take_ (i := 22) (N := some 42) (v := ?_) (a' := ?_) #[true, true, true, true, true, true, true, true, true, true, true, true, true, true, true, true, true, true, true, true, true, true, true, true, false, false, false, false] rfl rfl (take_ofW HT_.out HW_.out (by kernel_rfl)) (fun _ _ _ h => h) (Or.inl ⟨by rfl, ?_⟩) hHeld ?_ ?_
                          rotate_left
                          · rintro w' ⟨s0, s1, s2, s3, s4, s5, s6, s7, s8, s9, s10, s11, s12, s13, s14⟩
                            go_simp
                            with_reducible rfl
                          rotate_left
                          · simp only [Act.put, List.setIfInBounds_toArray, List.set_cons_zero, List.set_cons_succ, i64_w, i32_w]
                            rfl
                          refine take_ (i := 24) (N := some 44) (v := ?_) (a' := ?_) #[true, true, true, true, true, true, true, true, true, true, true, true, true, true, true, true, true, true, true, true, true, true, true, true, true, false, false, false] rfl rfl (take_ofW HT_.out HW_.out (by kernel_rfl)) (fun _ _ _ h => h) (Or.inl ⟨by rfl, ?_⟩) hHeld ?_ ?_
                          rotate_left
                          · rintro w' ⟨s0, s1, s2, s3, s4, s5, s6, s7, s8, s9, s10, s11, s12, s13, s14⟩
                            go_simp
                            with_reducible rfl
                          rotate_left
                          · simp only [Act.put, List.setIfInBounds_toArray, List.set_cons_zero, List.set_cons_succ, i64_w, i32_w]
                            rfl
                          refine pure_ (i := 25) (N := some 45) (v := ?_) (a' := ?_) #[true, true, true, true, true, true, true, true, true, true, true, true, true, true, true, true, true, true, true, true, true, true, true, true, true, true, false, false] rfl rfl (any_of HT_.out (by kernel_rfl)) (fun _ _ _ h => h) (Or.inl ⟨by rfl, ?_⟩) ?_ ?_
                          rotate_left
                          · intro w'
                            go_simp
                            with_reducible rfl
                          rotate_left
                          · simp only [Act.put, List.setIfInBounds_toArray, List.set_cons_zero, List.set_cons_succ, i64_w, i32_w]
                            rfl
                          refine pure_ (i := 26) (N := some 46) (v := ?_) (a' := ?_) #[true, true, true, true, true, true, true, true, true, true, true, true, true, true, true, true, true, true, true, true, true, true, true, true, true, true, true, false] rfl rfl (any_of HT_.out (by kernel_rfl)) (fun _ _ _ h => h) (Or.inl ⟨by rfl, ?_⟩) ?_ ?_
                          rotate_left
                          · intro w'
                            go_simp
                            with_reducible rfl
                          rotate_left
                          · simp only [Act.put, List.setIfInBounds_toArray, List.set_cons_zero, List.set_cons_succ, i64_w, i32_w]
                            rfl
                          refine pure_ (i := 27) (N := some 47) (v := ?_) (a' := ?_) #[true, true, true, true, true, true, true, true, true, true, true, true, true, true, true, true, true, true, true, true, true, true, true, true, true, true, true, true] rfl rfl (any_of HT_.out (by kernel_rfl)) (fun _ _ _ h => h) (Or.inl ⟨by rfl, ?_⟩) ?_ ?_
                          rotate_left
                          · intro w'
                            go_simp
                            with_reducible rfl
                          rotate_left
                          · simp only [Act.put, List.setIfInBounds_toArray, List.set_cons_zero, List.set_cons_succ, i64_w, i32_w]
                            rfl
                          refine done_ (done_of HT_.out (by kernel_rfl)) ?_
                          try go_wp2
                          go_ret
                          exact ⟨by first | rfl | (simp [errW_none, errW_some] <;> rfl) | (simp only [← hji11]; first | rfl | (simp [errW_none, errW_some] <;> rfl)) | (simp [*, errW_none, errW_some] <;> rfl), by repeat (first | (with_reducible first | exact HB.out | apply below_alloc | apply pw_below_drewN | apply below_drew1 | refine below_set ?_ GE107.out) | exact HB.out)⟩
                        · rw [if_neg c15] at H
                          have c15b0 : (((rd_T33 l0 (ji11)).f1) == ((rd_T33 l0 x11_1).f1)) = false := by simpa using c15
                          (try (have c15b1 : decide (((rd_T33 l0 (ji11)).f1) = ((rd_T33 l0 x11_1).f1)) = false := by simpa using c15))
                          (try (have c15b2 : (((rd_T33 l0 (ji11)).f1) == ((rd_T33 l0 x11_1).f1)) = false := by simpa using c15))
                          (try (have c15b3 : ¬ (((rd_T33 l0 (ji11)).f1) = ((rd_T33 l0 x11_1).f1)) := by simpa using c15))
                          clear c15
                          have H' := Aside0.mk H
                          clear H
                          have p106 : 0 ≤ (x11_1 : Int) := of_decide_eq_true (by first | (with_reducible assumption) | assumption)
                          have q106 : x11_1 < (l0.length : Int) := of_decide_eq_true (by first | (with_reducible assumption) | assumption)
                          obtain ⟨ad106, A106_4, c106_4, e106, hx106_0, hx106_1, hx106_2, hx106_3, hx106_4, hl106_4, hi106_4⟩ := at_T33 HR0.out x11_1 p106 q106
                          cases e106
                          replace hx106_0 := (HB.out.cell (World.block_lt_of_cell? w _ hx106_0)).trans hx106_0
                          replace hx106_1 := (HB.out.cell (World.block_lt_of_cell? w _ hx106_1)).trans hx106_1
                          replace hx106_2 := (HB.out.cell (World.block_lt_of_cell? w _ hx106_2)).trans hx106_2
                          replace hx106_3 := (HB.out.cell (World.block_lt_of_cell? w _ hx106_3)).trans hx106_3
                          replace hx106_4 := (HB.out.cell (World.block_lt_of_cell? w _ hx106_4)).trans hx106_4
                          have HR106_4 := Aside0.mk hi106_4
                          have HC106_4 := Aside0.mk hl106_4
                          clear hi106_4 hl106_4
                          replace p106 := eq_true p106
                          replace q106 := eq_true q106
                          try go_wp2_with (first | ((with_reducible refine gate_dst (N := 8) rfl ?_); refine box_event ?hg (N := 8) ?hd (cs := #[.int .i64 0, .bool false, .string (⟨#[]⟩ : ByteArray), .string (⟨#[]⟩ : ByteArray), .slice none 0 0]) (t := 33) ?hr ?_; (case hd => rfl); (case hg => rfl); (case hr => first | (go_simp; done) | (go_simp; rfl)); intro gb107 hg w21 hbox hb; have n0_ := Aside0.mk (below_step (by repeat (first | (with_reducible first | exact HB.out | apply below_alloc | apply pw_below_drewN | apply below_drew1) | exact HB.out)) hb); have n1_ := Aside0.mk (hbox); have n2_ := Aside0.mk ((by rw [hg]; exact (below_size (by repeat (first | (with_reducible first | exact HB.out | apply below_alloc | apply pw_below_drewN | apply below_drew1) | exact HB.out))) : w.heap.size ≤ gb107)); have n3_ := Aside0.mk ((by rw [hg]; exact (below_size (by repeat (first | (with_reducible first | exact HB.out | apply below_alloc | apply pw_below_drewN | apply below_drew1) | exact HB.out))) : w.heap.size ≤ gb107)); clear HB; have HB := n0_; have BK107 := n1_; have GW107 := n2_; have GE107 := n3_; clear n0_ n1_ n2_ n3_; clear hb hbox hg; have hcz22_0 : w21.cell? ⟨gb107, 0, none⟩ = some (.int .i64 0) := (blk_cell BK107.out 0).trans rfl; have hcz22_1 : w21.cell? ⟨gb107, 1, none⟩ = some (.bool false) := (blk_cell BK107.out 1).trans rfl; have hcz22_2 : w21.cell? ⟨gb107, 2, none⟩ = some (.string (⟨#[]⟩ : ByteArray)) := (blk_cell BK107.out 2).trans rfl; have hcz22_3 : w21.cell? ⟨gb107, 3, none⟩ = some (.string (⟨#[]⟩ : ByteArray)) := (blk_cell BK107.out 3).trans rfl; have hcz22_4 : w21.cell? ⟨gb107, 4, none⟩ = some (.slice none 0 0) := (blk_cell BK107.out 4).trans rfl; have hfz22_0 := blk_frozen BK107.out 0; have hfz22_1 := blk_frozen BK107.out 1; have hfz22_2 := blk_frozen BK107.out 2; have hfz22_3 := blk_frozen BK107.out 3; have hfz22_4 := blk_frozen BK107.out 4))
                          have n0_ : Aside0 ((((((w21.setCell ⟨gb107, 0, none⟩ (.int .i64 ((rd_T33 l0 x11_1).f0))).setCell ⟨gb107, 1, none⟩ (.bool ((rd_T33 l0 x11_1).f1))).setCell ⟨gb107, 2, none⟩ (.string ((rd_T33 l0 x11_1).f2))).setCell ⟨gb107, 3, none⟩ (.string ((rd_T33 l0 x11_1).f3))).setCell ⟨gb107, 4, none⟩ (.slice A106_4 ((rd_T33 l0 x11_1).f4).length c106_4)).heap[gb107]? = some (.cells #[.int .i64 ((rd_T33 l0 x11_1).f0), .bool ((rd_T33 l0 x11_1).f1), .string ((rd_T33 l0 x11_1).f2), .string ((rd_T33 l0 x11_1).f3), .slice A106_4 ((rd_T33 l0 x11_1).f4).length c106_4] 33 (0, 0))) := ⟨by (with_reducible repeat (first | refine blk_drewN ?_ _ | refine blk_drew ?_ | refine blk_alloc ?_ _)); refine blk_put (cs := #[.int .i64 ((rd_T33 l0 x11_1).f0), .bool ((rd_T33 l0 x11_1).f1), .string ((rd_T33 l0 x11_1).f2), .string ((rd_T33 l0 x11_1).f3), .slice none 0 0]) ?_ 4 _ rfl; (with_reducible repeat (first | refine blk_drewN ?_ _ | refine blk_drew ?_ | refine blk_alloc ?_ _)); refine blk_put (cs := #[.int .i64 ((rd_T33 l0 x11_1).f0), .bool ((rd_T33 l0 x11_1).f1), .string ((rd_T33 l0 x11_1).f2), .string (⟨#[]⟩ : ByteArray), .slice none 0 0]) ?_ 3 _ rfl; (with_reducible repeat (first | refine blk_drewN ?_ _ | refine blk_drew ?_ | refine blk_alloc ?_ _)); refine blk_put (cs := #[.int .i64 ((rd_T33 l0 x11_1).f0), .bool ((rd_T33 l0 x11_1).f1), .string (⟨#[]⟩ : ByteArray), .string (⟨#[]⟩ : ByteArray), .slice none 0 0]) ?_ 2 _ rfl; (with_reducible repeat (first | refine blk_drewN ?_ _ | refine blk_drew ?_ | refine blk_alloc ?_ _)); refine blk_put (cs := #[.int .i64 ((rd_T33 l0 x11_1).f0), .bool false, .string (⟨#[]⟩ : ByteArray), .string (⟨#[]⟩ : ByteArray), .slice none 0 0]) ?_ 1 _ rfl; (with_reducible repeat (first | refine blk_drewN ?_ _ | refine blk_drew ?_ | refine blk_alloc ?_ _)); refine blk_put (cs := #[.int .i64 0, .bool false, .string (⟨#[]⟩ : ByteArray), .string (⟨#[]⟩ : ByteArray), .slice none 0 0]) ?_ 0 _ rfl; (with_reducible repeat (first | refine blk_drewN ?_ _ | refine blk_drew ?_ | refine blk_alloc ?_ _)); exact BK107.out⟩
                          have n1_ : Aside0 (Below w.heap.size w (((((w21.setCell ⟨gb107, 0, none⟩ (.int .i64 ((rd_T33 l0 x11_1).f0))).setCell ⟨gb107, 1, none⟩ (.bool ((rd_T33 l0 x11_1).f1))).setCell ⟨gb107, 2, none⟩ (.string ((rd_T33 l0 x11_1).f2))).setCell ⟨gb107, 3, none⟩ (.string ((rd_T33 l0 x11_1).f3))).setCell ⟨gb107, 4, none⟩ (.slice A106_4 ((rd_T33 l0 x11_1).f4).length c106_4))) := ⟨by repeat (first | (with_reducible first | exact HB.out | apply below_alloc | apply pw_below_drewN | apply below_drew1 | refine below_set ?_ GE107.out) | exact HB.out)⟩
                          (try clear BK107)
                          (try clear HB)
                          generalize (((((w21.setCell ⟨gb107, 0, none⟩ (.int .i64 ((rd_T33 l0 x11_1).f0))).setCell ⟨gb107, 1, none⟩ (.bool ((rd_T33 l0 x11_1).f1))).setCell ⟨gb107, 2, none⟩ (.string ((rd_T33 l0 x11_1).f2))).setCell ⟨gb107, 3, none⟩ (.string ((rd_T33 l0 x11_1).f3))).setCell ⟨gb107, 4, none⟩ (.slice A106_4 ((rd_T33 l0 x11_1).f4).length c106_4)) = w23 at n0_ n1_ ⊢
                          have BK107 := n0_
                          have HB := n1_
                          clear n0_ n1_
                          have n0_ := Aside0.mk (blk_drew BK107.out)
                          have n1_ := Aside0.mk (below_drew1 HB.out)
                          clear BK107
                          clear HB
                          have BK107 := n0_
                          have HB := n1_
                          clear n0_ n1_
                          have p109 : 0 ≤ ((ji11) : Int) := of_decide_eq_true (by first | (with_reducible assumption) | assumption)
                          have q109 : (ji11) < (l0.length : Int) := of_decide_eq_true (by first | (with_reducible assumption) | assumption)
                          obtain ⟨ad109, A109_4, c109_4, e109, hx109_0, hx109_1, hx109_2, hx109_3, hx109_4, hl109_4, hi109_4⟩ := at_T33 HR0.out (ji11) p109 q109
                          have hw109_4 := hx109_4
                          have hw109_3 := hx109_3
                          have hw109_2 := hx109_2
                          have hw109_1 := hx109_1
                          have hw109_0 := hx109_0
                          obtain rfl : ad106 = ad109 := (by injection e109)
                          replace hx109_0 := (HB.out.cell (World.block_lt_of_cell? w _ hx109_0)).trans hx109_0
                          replace hx109_1 := (HB.out.cell (World.block_lt_of_cell? w _ hx109_1)).trans hx109_1
                          replace hx109_2 := (HB.out.cell (World.block_lt_of_cell? w _ hx109_2)).trans hx109_2
                          replace hx109_3 := (HB.out.cell (World.block_lt_of_cell? w _ hx109_3)).trans hx109_3
                          replace hx109_4 := (HB.out.cell (World.block_lt_of_cell? w _ hx109_4)).trans hx109_4
                          have HR109_4 := Aside0.mk hi109_4
                          have HC109_4 := Aside0.mk hl109_4
                          clear hi109_4 hl109_4
                          replace p109 := eq_true p109
                          replace q109 := eq_true q109
                          have p110 : 0 ≤ ((ji11) : Int) := of_decide_eq_true (by first | (with_reducible assumption) | assumption)
                          have q110 : (ji11) < (l0.length : Int) := of_decide_eq_true (by first | (with_reducible assumption) | assumption)
                          obtain ⟨ad110, A110_4, c110_4, e110, hx110_0, hx110_1, hx110_2, hx110_3, hx110_4, hl110_4, hi110_4⟩ := at_T33 HR0.out (ji11) p110 q110
                          have hw110_4 := hx110_4
                          have hw110_3 := hx110_3
                          have hw110_2 := hx110_2
                          have hw110_1 := hx110_1
                          have hw110_0 := hx110_0
                          obtain rfl : ad106 = ad110 := (by injection e110)
                          replace hx110_0 := (HB.out.cell (World.block_lt_of_cell? w _ hx110_0)).trans hx110_0
                          replace hx110_1 := (HB.out.cell (World.block_lt_of_cell? w _ hx110_1)).trans hx110_1
                          replace hx110_2 := (HB.out.cell (World.block_lt_of_cell? w _ hx110_2)).trans hx110_2
                          replace hx110_3 := (HB.out.cell (World.block_lt_of_cell? w _ hx110_3)).trans hx110_3
                          replace hx110_4 := (HB.out.cell (World.block_lt_of_cell? w _ hx110_4)).trans hx110_4
                          have HR110_4 := Aside0.mk hi110_4
                          have HC110_4 := Aside0.mk hl110_4
                          clear hi110_4 hl110_4
                          replace p110 := eq_true p110
                          replace q110 := eq_true q110
                          have ea_ := Option.some.inj (hx109_4.symm.trans hx110_4)
                          injection ea_ with ea_ en_ ec_
                          subst ea_
                          subst ec_
                          clear en_
                          refine start_ (n := 28) (S := fun w' => w'.cell? ⟨gb107, 0, none⟩ = some (.int .i64 ((rd_T33 l0 x11_1).f0)) ∧ w'.cell? ⟨gb107, 1, none⟩ = some (.bool ((rd_T33 l0 x11_1).f1)) ∧ w'.cell? ⟨gb107, 2, none⟩ = some (.string ((rd_T33 l0 x11_1).f2)) ∧ w'.cell? ⟨gb107, 3, none⟩ = some (.string ((rd_T33 l0 x11_1).f3)) ∧ w'.cell? ⟨gb107, 4, none⟩ = some (.slice A106_4 ((rd_T33 l0 x11_1).f4).length c106_4) ∧ w'.cell? (ad106.add (((ji11)).toNat * 5)) = some (.int .i64 ((rd_T33 l0 (ji11)).f0)) ∧ w'.cell? ⟨(ad106.add (((ji11)).toNat * 5)).block, (ad106.add (((ji11)).toNat * 5)).off + 1, none⟩ = some (.bool ((rd_T33 l0 (ji11)).f1)) ∧ w'.cell? ⟨(ad106.add (((ji11)).toNat * 5)).block, (ad106.add (((ji11)).toNat * 5)).off + 2, none⟩ = some (.string ((rd_T33 l0 (ji11)).f2)) ∧ w'.cell? ⟨(ad106.add (((ji11)).toNat * 5)).block, (ad106.add (((ji11)).toNat * 5)).off + 3, none⟩ = some (.string ((rd_T33 l0 (ji11)).f3)) ∧ w'.cell? ⟨(ad106.add (((ji11)).toNat * 5)).block, (ad106.add (((ji11)).toNat * 5)).off + 4, none⟩ = some (.slice A109_4 ((rd_T33 l0 (ji11)).f4).length c109_4) ∧ w'.cell? (ad106.add (((ji11)).toNat * 5)) = some (.int .i64 ((rd_T33 l0 (ji11)).f0)) ∧ w'.cell? ⟨(ad106.add (((ji11)).toNat * 5)).block, (ad106.add (((ji11)).toNat * 5)).off + 1, none⟩ = some (.bool ((rd_T33 l0 (ji11)).f1)) ∧ w'.cell? ⟨(ad106.add (((ji11)).toNat * 5)).block, (ad106.add (((ji11)).toNat * 5)).off + 2, none⟩ = some (.string ((rd_T33 l0 (ji11)).f2)) ∧ w'.cell? ⟨(ad106.add (((ji11)).toNat * 5)).block, (ad106.add (((ji11)).toNat * 5)).off + 3, none⟩ = some (.string ((rd_T33 l0 (ji11)).f3)) ∧ w'.cell? ⟨(ad106.add (((ji11)).toNat * 5)).block, (ad106.add (((ji11)).toNat * 5)).off + 4, none⟩ = some (.slice A109_4 ((rd_T33 l0 (ji11)).f4).length c109_4)) (ds := []) #[false, false, false, false, false, false, false, false, false, false, false, false, false, false, false, false, false, false, false, false, false, false, false, false, false, false, false, false] (by kernel_rfl) rfl rfl ⟨(blk_cell BK107.out 0).trans rfl, (blk_cell BK107.out 1).trans rfl, (blk_cell BK107.out 2).trans rfl, (blk_cell BK107.out 3).trans rfl, (blk_cell BK107.out 4).trans rfl, ((HB.out.cell (World.block_lt_of_cell? w _ hw109_0)).trans hw109_0), ((HB.out.cell (World.block_lt_of_cell? w _ hw109_1)).trans hw109_1), ((HB.out.cell (World.block_lt_of_cell? w _ hw109_2)).trans hw109_2), ((HB.out.cell (World.block_lt_of_cell? w _ hw109_3)).trans hw109_3), ((HB.out.cell (World.block_lt_of_cell? w _ hw109_4)).trans hw109_4), ((HB.out.cell (World.block_lt_of_cell? w _ hw110_0)).trans hw110_0), ((HB.out.cell (World.block_lt_of_cell? w _ hw110_1)).trans hw110_1), ((HB.out.cell (World.block_lt_of_cell? w _ hw110_2)).trans hw110_2), ((HB.out.cell (World.block_lt_of_cell? w _ hw110_3)).trans hw110_3), ((HB.out.cell (World.block_lt_of_cell? w _ hw110_4)).trans hw110_4)⟩ (fun hHeld => ?_); refine with_tabW word_partsR.tab7 word_partsR.bits7 (fun HT_ HW_ => ?_)
                          generalize w23.drew = w24 at BK107 HB HR109_4 HR110_4 hx109_0 hx109_1 hx109_2 hx109_3 hx109_4 hx110_0 hx110_1 hx110_2 hx110_3 hx110_4 hHeld ⊢
                          refine pure_ (i := 1) (N := some 21) (v := ?_) (a' := ?_) #[false, true, false, false, false, false, false, false, false, false, false, false, false, false, false, false, false, false, false, false, false, false, false, false, false, false, false, false] rfl rfl (any_of HT_.out (by kernel_rfl)) (fun _ _ _ h => h) (Or.inl ⟨by rfl, ?_⟩) ?_ ?_
                          rotate_left
                          · intro w'
                            go_simp
                            with_reducible rfl
                          rotate_left
                          · simp only [Act.put, List.setIfInBounds_toArray, List.set_cons_zero, List.set_cons_succ, i64_w, i32_w]
                            rfl
                          refine take_ (i := 0) (N := some 20) (v := ?_) (a' := ?_) #[true, true, false, false, false, false, false, false, false, false, false, false, false, false, false, false, false, false, false, false, false, false, false, false, false, false, false, false] rfl rfl (take_ofW HT_.out HW_.out (by kernel_rfl)) (fun _ _ _ h => h) (Or.inl ⟨by rfl, ?_⟩) hHeld ?_ ?_
                          rotate_left
                          · rintro w' ⟨s0, s1, s2, s3, s4, s5, s6, s7, s8, s9, s10, s11, s12, s13, s14⟩
                            go_simp
                            with_reducible rfl
                          rotate_left
                          · simp only [Act.put, List.setIfInBounds_toArray, List.set_cons_zero, List.set_cons_succ, i64_w, i32_w]
                            rfl
                          refine one_ (i := 2) (N := some 22) #[true, true, true, false, false, false, false, false, false, false, false, false, false, false, false, false, false, false, false, false, false, false, false, false, false, false, false, false] rfl rfl (one_of HT_.out (by kernel_rfl)) (by decide) (fun K hK => ?_)
                          refine goes_ Tryd.func35 (by kernel_rfl) rfl #[.agg #[.int .i64 ((rd_T33 l0 x11_1).f0), .bool ((rd_T33 l0 x11_1).f1), .string ((rd_T33 l0 x11_1).f2), .string ((rd_T33 l0 x11_1).f3), .slice A106_4 ((rd_T33 l0 x11_1).f4).length c106_4], .int .i64 a1] (by rfl) rfl rfl (by (try simp only [List.map_toArray, List.map_cons, List.map_nil]); first | done | rfl | (simp only [List.length_drop, List.length_take]; rfl)) ?_
                          with_reducible refine (word_literal.calls k1 ((rd_T33 l0 x11_1).f0) ((rd_T33 l0 x11_1).f1) ((rd_T33 l0 x11_1).f2) ((rd_T33 l0 x11_1).f3) _ _ ((rd_T33 l0 x11_1).f4) a1 true _ ?side1 ?side2 A8.out).mono ?_
                          (case side1 => repeat (first | exact (Kd.C_below HR106_4.out HB.out) | (with_reducible refine Kd.C_alloc ?_ _) | (with_reducible refine Kd.C_drewN ?_ _) | (with_reducible refine Kd.C_drew ?_)))
                          (case side2 => exact HC106_4.out)
                          rintro e w25 ⟨rfl, hb⟩
                          refine ⟨_, rfl, ?_⟩
                          have n0_ := Aside0.mk (blk_below (g := gb107) (o := .cells #[.int .i64 ((rd_T33 l0 x11_1).f0), .bool ((rd_T33 l0 x11_1).f1), .string ((rd_T33 l0 x11_1).f2), .string ((rd_T33 l0 x11_1).f3), .slice A106_4 ((rd_T33 l0 x11_1).f4).length c106_4] 33 (0, 0)) (by (with_reducible repeat (first | refine blk_drewN ?_ _ | refine blk_drew ?_ | refine blk_alloc ?_ _)); exact BK107.out) hb)
                          have n1_ := Aside0.mk (below_step (by repeat (first | (with_reducible first | exact HB.out | apply below_alloc | apply pw_below_drewN | apply below_drew1 | refine below_set ?_ GE107.out) | exact HB.out)) hb)
                          clear BK107
                          clear HB
                          have BK107 := n0_
                          have HB := n1_
                          clear n0_ n1_
                          (try clear hb)
                          (try clear hb2)
                          (try clear hk)
                          (try clear hi)
                          refine hK.out _ _ ⟨(blk_cell BK107.out 0).trans rfl, (blk_cell BK107.out 1).trans rfl, (blk_cell BK107.out 2).trans rfl, (blk_cell BK107.out 3).trans rfl, (blk_cell BK107.out 4).trans rfl, ((HB.out.cell (World.block_lt_of_cell? w _ hw109_0)).trans hw109_0), ((HB.out.cell (World.block_lt_of_cell? w _ hw109_1)).trans hw109_1), ((HB.out.cell (World.block_lt_of_cell? w _ hw109_2)).trans hw109_2), ((HB.out.cell (World.block_lt_of_cell? w _ hw109_3)).trans hw109_3), ((HB.out.cell (World.block_lt_of_cell? w _ hw109_4)).trans hw109_4), ((HB.out.cell (World.block_lt_of_cell? w _ hw110_0)).trans hw110_0), ((HB.out.cell (World.block_lt_of_cell? w _ hw110_1)).trans hw110_1), ((HB.out.cell (World.block_lt_of_cell? w _ hw110_2)).trans hw110_2), ((HB.out.cell (World.block_lt_of_cell? w _ hw110_3)).trans hw110_3), ((HB.out.cell (World.block_lt_of_cell? w _ hw110_4)).trans hw110_4)⟩ (fun hHeld => ?_)
                          clear hK K
                          refine norm_ (a' := ?_) ?_ ?_
                          rotate_left
                          · show Act.put _ (some 22) _ = _
                            simp only [Act.put, List.setIfInBounds_toArray, List.set_cons_zero, List.set_cons_succ, i64_w, i32_w]
                            rfl
                          refine pure_ (i := 3) (N := some 23) (v := ?_) (a' := ?_) #[true, true, true, true, false, false, false, false, false, false, false, false, false, false, false, false, false, false, false, false, false, false, false, false, false, false, false, false] rfl rfl (any_of HT_.out (by kernel_rfl)) (fun _ _ _ h => h) (Or.inl ⟨by rfl, ?_⟩) ?_ ?_
                          rotate_left
                          · intro w'
                            go_simp
                            with_reducible rfl
                          rotate_left
                          · simp only [Act.put, List.setIfInBounds_toArray, List.set_cons_zero, List.set_cons_succ, i64_w, i32_w]
                            rfl
                          refine pure_ (i := 4) (N := some 24) (v := ?_) (a' := ?_) #[true, true, true, true, true, false, false, false, false, false, false, false, false, false, false, false, false, false, false, false, false, false, false, false, false, false, false, false] rfl rfl (any_of HT_.out (by kernel_rfl)) (fun _ _ _ h => h) (Or.inl ⟨by rfl, ?_⟩) ?_ ?_
                          rotate_left
                          · intro w'
                            go_simp
                            with_reducible rfl
                          rotate_left
                          · simp only [Act.put, List.setIfInBounds_toArray, List.set_cons_zero, List.set_cons_succ, i64_w, i32_w]
                            rfl
                          refine pure_ (i := 5) (N := some 25) (v := ?_) (a' := ?_) #[true, true, true, true, true, true, false, false, false, false, false, false, false, false, false, false, false, false, false, false, false, false, false, false, false, false, false, false] rfl rfl (any_of HT_.out (by kernel_rfl)) (fun _ _ _ h => h) (Or.inl ⟨by rfl, ?_⟩) ?_ ?_
                          rotate_left
                          · intro w'
                            go_simp
                            with_reducible rfl
                          rotate_left
                          · simp only [Act.put, List.setIfInBounds_toArray, List.set_cons_zero, List.set_cons_succ, i64_w, i32_w]
                            rfl
                          refine pure_ (i := 6) (N := some 26) (v := ?_) (a' := ?_) #[true, true, true, true, true, true, true, false, false, false, false, false, false, false, false, false, false, false, false, false, false, false, false, false, false, false, false, false] rfl rfl (any_of HT_.out (by kernel_rfl)) (fun _ _ _ h => h) (Or.inl ⟨by rfl, ?_⟩) ?_ ?_
                          rotate_left
                          · intro w'
                            go_simp
                            with_reducible rfl
                          rotate_left
                          · simp only [Act.put, List.setIfInBounds_toArray, List.set_cons_zero, List.set_cons_succ, i64_w, i32_w]
                            rfl
                          refine pure_ (i := 7) (N := some 27) (v := ?_) (a' := ?_) #[true, true, true, true, true, true, true, true, false, false, false, false, false, false, false, false, false, false, false, false, false, false, false, false, false, false, false, false] rfl rfl (any_of HT_.out (by kernel_rfl)) (fun _ _ _ h => h) (Or.inl ⟨by rfl, ?_⟩) ?_ ?_
                          rotate_left
                          · intro w'
                            go_simp
                            with_reducible rfl
                          rotate_left
                          · simp only [Act.put, List.setIfInBounds_toArray, List.set_cons_zero, List.set_cons_succ, i64_w, i32_w]
                            rfl
                          refine pure_ (i := 8) (N := some 28) (v := ?_) (a' := ?_) #[true, true, true, true, true, true, true, true, true, false, false, false, false, false, false, false, false, false, false, false, false, false, false, false, false, false, false, false] rfl rfl (any_of HT_.out (by kernel_rfl)) (fun _ _ _ h => h) (Or.inl ⟨by rfl, ?_⟩) ?_ ?_
                          rotate_left
                          · intro w'
                            go_simp
                            with_reducible rfl
                          rotate_left
                          · simp only [Act.put, List.setIfInBounds_toArray, List.set_cons_zero, List.set_cons_succ, i64_w, i32_w]
                            rfl
                          refine pure_ (i := 9) (N := some 29) (v := ?_) (a' := ?_) #[true, true, true, true, true, true, true, true, true, true, false, false, false, false, false, false, false, false, false, false, false, false, false, false, false, false, false, false] rfl rfl (any_of HT_.out (by kernel_rfl)) (fun _ _ _ h => h) (Or.inl ⟨by rfl, ?_⟩) ?_ ?_
                          rotate_left
                          · intro w'
                            go_simp
                            with_reducible rfl
                          rotate_left
                          · simp only [Act.put, List.setIfInBounds_toArray, List.set_cons_zero, List.set_cons_succ, i64_w, i32_w]
                            rfl
                          refine pure_ (i := 10) (N := some 30) (v := ?_) (a' := ?_) #[true, true, true, true, true, true, true, true, true, true, true, false, false, false, false, false, false, false, false, false, false, false, false, false, false, false, false, false] rfl rfl (any_of HT_.out (by kernel_rfl)) (fun _ _ _ h => h) (Or.inl ⟨by rfl, ?_⟩) ?_ ?_
                          rotate_left
                          · intro w'
                            go_simp
                            with_reducible rfl
                          rotate_left
                          · simp only [Act.put, List.setIfInBounds_toArray, List.set_cons_zero, List.set_cons_succ, i64_w, i32_w]
                            rfl
                          refine pure_ (i := 11) (N := some 31) (v := ?_) (a' := ?_) #[true, true, true, true, true, true, true, true, true, true, true, true, false, false, false, false, false, false, false, false, false, false, false, false, false, false, false, false] rfl rfl (any_of HT_.out (by kernel_rfl)) (fun _ _ _ h => h) (Or.inl ⟨by rfl, ?_⟩) ?_ ?_
                          rotate_left
                          · intro w'
                            go_simp
                            with_reducible rfl
                          rotate_left
                          · simp only [Act.put, List.setIfInBounds_toArray, List.set_cons_zero, List.set_cons_succ, i64_w, i32_w]
                            rfl
                          refine pure_ (i := 12) (N := some 32) (v := ?_) (a' := ?_) #[true, true, true, true, true, true, true, true, true, true, true, true, true, false, false, false, false, false, false, false, false, false, false, false, false, false, false, false] rfl rfl (any_of HT_.out (by kernel_rfl)) (fun _ _ _ h => h) (Or.inl ⟨by rfl, ?_⟩) ?_ ?_
                          rotate_left
                          · intro w'
                            go_simp
                            with_reducible rfl
                          rotate_left
                          · simp only [Act.put, List.setIfInBounds_toArray, List.set_cons_zero, List.set_cons_succ, i64_w, i32_w]
                            rfl
                          refine take_ (i := 13) (N := some 33) (v := ?_) (a' := ?_) #[true, true, true, true, true, true, true, true, true, true, true, true, true, true, false, false, false, false, false, false, false, false, false, false, false, false, false, false] rfl rfl (take_ofW HT_.out HW_.out (by kernel_rfl)) (fun _ _ _ h => h) (Or.inl ⟨by rfl, ?_⟩) hHeld ?_ ?_
                          rotate_left
                          · rintro w' ⟨s0, s1, s2, s3, s4, s5, s6, s7, s8, s9, s10, s11, s12, s13, s14⟩
                            go_simp
                            with_reducible rfl
                          rotate_left
                          · simp only [Act.put, List.setIfInBounds_toArray, List.set_cons_zero, List.set_cons_succ, i64_w, i32_w]
                            rfl
                          refine pure_ (i := 14) (N := some 34) (v := ?_) (a' := ?_) #[true, true, true, true, true, true, true, true, true, true, true, true, true, true, true, false, false, false, false, false, false, false, false, false, false, false, false, false] rfl rfl (any_of HT_.out (by kernel_rfl)) (fun _ _ _ h => h) (Or.inl ⟨by rfl, ?_⟩) ?_ ?_
                          rotate_left
                          · intro w'
                            go_simp
                            with_reducible rfl
                          rotate_left
                          · simp only [Act.put, List.setIfInBounds_toArray, List.set_cons_zero, List.set_cons_succ, i64_w, i32_w]
                            rfl
                          refine pure_ (i := 15) (N := some 35) (v := ?_) (a' := ?_) #[true, true, true, true, true, true, true, true, true, true, true, true, true, true, true, true, false, false, false, false, false, false, false, false, false, false, false, false] rfl rfl (any_of HT_.out (by kernel_rfl)) (fun _ _ _ h => h) (Or.inl ⟨by rfl, ?_⟩) ?_ ?_
                          rotate_left
                          · intro w'
                            go_simp
                            with_reducible rfl
                          rotate_left
                          · simp only [Act.put, List.setIfInBounds_toArray, List.set_cons_zero, List.set_cons_succ, i64_w, i32_w]
                            rfl
                          refine pure_ (i := 16) (N := some 36) (v := ?_) (a' := ?_) #[true, true, true, true, true, true, true, true, true, true, true, true, true, true, true, true, true, false, false, false, false, false, false, false, false, false, false, false] rfl rfl (any_of HT_.out (by kernel_rfl)) (fun _ _ _ h => h) (Or.inl ⟨by rfl, ?_⟩) ?_ ?_
                          rotate_left
                          · intro w'
                            go_simp
                            with_reducible rfl
                          rotate_left
                          · simp only [Act.put, List.setIfInBounds_toArray, List.set_cons_zero, List.set_cons_succ, i64_w, i32_w]
                            rfl
                          refine pure_ (i := 17) (N := some 37) (v := ?_) (a' := ?_) #[true, true, true, true, true, true, true, true, true, true, true, true, true, true, true, true, true, true, false, false, false, false, false, false, false, false, false, false] rfl rfl (any_of HT_.out (by kernel_rfl)) (fun _ _ _ h => h) (Or.inl ⟨by rfl, ?_⟩) ?_ ?_
                          rotate_left
                          · intro w'
                            go_simp
                            with_reducible rfl
                          rotate_left
                          · simp only [Act.put, List.setIfInBounds_toArray, List.set_cons_zero, List.set_cons_succ, i64_w, i32_w]
                            rfl
                          refine pure_ (i := 18) (N := some 38) (v := ?_) (a' := ?_) #[true, true, true, true, true, true, true, true, true, true, true, true, true, true, true, true, true, true, true, false, false, false, false, false, false, false, false, false] rfl rfl (any_of HT_.out (by kernel_rfl)) (fun _ _ _ h => h) (Or.inl ⟨by rfl, ?_⟩) ?_ ?_
                          rotate_left
                          · intro w'
                            go_simp
                            with_reducible rfl
                          rotate_left
                          · simp only [Act.put, List.setIfInBounds_toArray, List.set_cons_zero, List.set_cons_succ, i64_w, i32_w]
                            rfl
                          refine pure_ (i := 19) (N := some 39) (v := ?_) (a' := ?_) #[true, true, true, true, true, true, true, true, true, true, true, true, true, true, true, true, true, true, true, true, false, false, false, false, false, false, false, false] rfl rfl (any_of HT_.out (by kernel_rfl)) (fun _ _ _ h => h) (Or.inl ⟨by rfl, ?_⟩) ?_ ?_
                          rotate_left
                          · intro w'
                            go_simp
                            with_reducible rfl
                          rotate_left
                          · simp only [Act.put, List.setIfInBounds_toArray, List.set_cons_zero, List.set_cons_succ, i64_w, i32_w]
                            rfl
                          refine pure_ (i := 20) (N := some 40) (v := ?_) (a' := ?_) #[true, true, true, true, true, true, true, true, true, true, true, true, true, true, true, true, true, true, true, true, true, false, false, false, false, false, false, false] rfl rfl (any_of HT_.out (by kernel_rfl)) (fun _ _ _ h => h) (Or.inl ⟨by rfl, ?_⟩) ?_ ?_
                          rotate_left
                          · intro w'
                            go_simp
                            with_reducible rfl
                          rotate_left
                          · simp only [Act.put, List.setIfInBounds_toArray, List.set_cons_zero, List.set_cons_succ, i64_w, i32_w]
                            rfl
                          refine pure_ (i := 21) (N := some 41) (v := ?_) (a' := ?_) #[true, true, true, true, true, true, true, true, true, true, true, true, true, true, true, true, true, true, true, true, true, true, false, false, false, false, false, false] rfl rfl (any_of HT_.out (by kernel_rfl)) (fun _ _ _ h => h) (Or.inl ⟨by rfl, ?_⟩) ?_ ?_
                          rotate_left
                          · intro w'
                            go_simp
                            with_reducible rfl
                          rotate_left
                          · simp only [Act.put, List.setIfInBounds_toArray, List.set_cons_zero, List.set_cons_succ, i64_w, i32_w]
                            rfl
                          refine pure_ (i := 23) (N := some 43) (v := ?_) (a' := ?_) #[true, true, true, true, true, true, true, true, true, true, true, true, true, true, true, true, true, true, true, true, true, true, false, true, false, false, false, false] rfl rfl (any_of HT_.out (by kernel_rfl)) (fun _ _ _ h => h) (Or.inl ⟨by rfl, ?_⟩) ?_ ?_
                          rotate_left
                          · intro w'
                            go_simp
                            with_reducible rfl
                          rotate_left
                          · simp only [Act.put, List.setIfInBounds_toArray, List.set_cons_zero, List.set_cons_succ, i64_w, i32_w]
                            rfl
                          refine take_ (i := 22) (N := some 42) (v := ?_) (a' := ?_) #[true, true, true, true, true, true, true, true, true, true, true, true, true, true, true, true, true, true, true, true, true, true, true, true, false, false, false, false] rfl rfl (take_ofW HT_.out HW_.out (by kernel_rfl)) (fun _ _ _ h => h) (Or.inl ⟨by rfl, ?_⟩) hHeld ?_ ?_
                          rotate_left
                          · rintro w' ⟨s0, s1, s2, s3, s4, s5, s6, s7, s8, s9, s10, s11, s12, s13, s14⟩
                            go_simp
                            with_reducible rfl
                          rotate_left
                          · simp only [Act.put, List.setIfInBounds_toArray, List.set_cons_zero, List.set_cons_succ, i64_w, i32_w]
                            rfl
                          refine take_ (i := 24) (N := some 44) (v := ?_) (a' := ?_) #[true, true, true, true, true, true, true, true, true, true, true, true, true, true, true, true, true, true, true, true, true, true, true, true, true, false, false, false] rfl rfl (take_ofW HT_.out HW_.out (by kernel_rfl)) (fun _ _ _ h => h) (Or.inl ⟨by rfl, ?_⟩) hHeld ?_ ?_
                          rotate_left
                          · rintro w' ⟨s0, s1, s2, s3, s4, s5, s6, s7, s8, s9, s10, s11, s12, s13, s14⟩
                            go_simp
                            with_reducible rfl
                          rotate_left
                          · simp only [Act.put, List.setIfInBounds_toArray, List.set_cons_zero, List.set_cons_succ, i64_w, i32_w]
                            rfl
                          refine pure_ (i := 25) (N := some 45) (v := ?_) (a' := ?_) #[true, true, true, true, true, true, true, true, true, true, true, true, true, true, true, true, true, true, true, true, true, true, true, true, true, true, false, false] rfl rfl (any_of HT_.out (by kernel_rfl)) (fun _ _ _ h => h) (Or.inl ⟨by rfl, ?_⟩) ?_ ?_
                          rotate_left
                          · intro w'
                            go_simp
                            with_reducible rfl
                          rotate_left
                          · simp only [Act.put, List.setIfInBounds_toArray, List.set_cons_zero, List.set_cons_succ, i64_w, i32_w]
                            rfl
                          refine pure_ (i := 26) (N := some 46) (v := ?_) (a' := ?_) #[true, true, true, true, true, true, true, true, true, true, true, true, true, true, true, true, true, true, true, true, true, true, true, true, true, true, true, false] rfl rfl (any_of HT_.out (by kernel_rfl)) (fun _ _ _ h => h) (Or.inl ⟨by rfl, ?_⟩) ?_ ?_
                          rotate_left
                          · intro w'
                            go_simp
                            with_reducible rfl
                          rotate_left
                          · simp only [Act.put, List.setIfInBounds_toArray, List.set_cons_zero, List.set_cons_succ, i64_w, i32_w]
                            rfl
                          refine pure_ (i := 27) (N := some 47) (v := ?_) (a' := ?_) #[true, true, true, true, true, true, true, true, true, true, true, true, true, true, true, true, true, true, true, true, true, true, true, true, true, true, true, true] rfl rfl (any_of HT_.out (by kernel_rfl)) (fun _ _ _ h => h) (Or.inl ⟨by rfl, ?_⟩) ?_ ?_
                          rotate_left
                          · intro w'
                            go_simp
                            with_reducible rfl
                          rotate_left
                          · simp only [Act.put, List.setIfInBounds_toArray, List.set_cons_zero, List.set_cons_succ, i64_w, i32_w]
                            rfl
                          refine done_ (done_of HT_.out (by kernel_rfl)) ?_
                          try go_wp2
                          go_roundg k1
                          case measure => have := HK1.out; omega
                          case rel => exact ⟨(wrap64 (x11_1 + 1)), (by first | rfl | (simp; done) | (simp [*]; done)), H', ⟨by have := HK1.out; omega⟩, ⟨by repeat (first | (with_reducible first | exact HB.out | apply below_alloc | apply pw_below_drewN | apply below_drew1 | refine below_set ?_ GE107.out) | exact HB.out)⟩⟩
                      · rw [if_neg c14] at H
                        have c14b0 : (((rd_T33 l0 (ji11)).f0) == 1) = false := beq_eq_false_iff_ne.mpr c14
                        have c14b1 : (((rd_T33 l0 (ji11)).f0) != 1) = true := bne_iff_ne.mpr c14
                        have H' := Aside0.mk H
                        clear H
                        have p106 : 0 ≤ (x11_1 : Int) := of_decide_eq_true (by first | (with_reducible assumption) | assumption)
                        have q106 : x11_1 < (l0.length : Int) := of_decide_eq_true (by first | (with_reducible assumption) | assumption)
                        obtain ⟨ad106, A106_4, c106_4, e106, hx106_0, hx106_1, hx106_2, hx106_3, hx106_4, hl106_4, hi106_4⟩ := at_T33 HR0.out x11_1 p106 q106
                        cases e106
                        replace hx106_0 := (HB.out.cell (World.block_lt_of_cell? w _ hx106_0)).trans hx106_0
                        replace hx106_1 := (HB.out.cell (World.block_lt_of_cell? w _ hx106_1)).trans hx106_1
                        replace hx106_2 := (HB.out.cell (World.block_lt_of_cell? w _ hx106_2)).trans hx106_2
                        replace hx106_3 := (HB.out.cell (World.block_lt_of_cell? w _ hx106_3)).trans hx106_3
                        replace hx106_4 := (HB.out.cell (World.block_lt_of_cell? w _ hx106_4)).trans hx106_4
                        have HR106_4 := Aside0.mk hi106_4
                        have HC106_4 := Aside0.mk hl106_4
                        clear hi106_4 hl106_4
                        replace p106 := eq_true p106
                        replace q106 := eq_true q106
                        try go_wp2_with (first | ((with_reducible refine gate_dst (N := 8) rfl ?_); refine box_event ?hg (N := 8) ?hd (cs := #[.int .i64 0, .bool false, .string (⟨#[]⟩ : ByteArray), .string (⟨#[]⟩ : ByteArray), .slice none 0 0]) (t := 33) ?hr ?_; (case hd => rfl); (case hg => rfl); (case hr => first | (go_simp; done) | (go_simp; rfl)); intro gb107 hg w26 hbox hb; have n0_ := Aside0.mk (below_step (by repeat (first | (with_reducible first | exact HB.out | apply below_alloc | apply pw_below_drewN | apply below_drew1) | exact HB.out)) hb); have n1_ := Aside0.mk (hbox); have n2_ := Aside0.mk ((by rw [hg]; exact (below_size (by repeat (first | (with_reducible first | exact HB.out | apply below_alloc | apply pw_below_drewN | apply below_drew1) | exact HB.out))) : w.heap.size ≤ gb107)); have n3_ := Aside0.mk ((by rw [hg]; exact (below_size (by repeat (first | (with_reducible first | exact HB.out | apply below_alloc | apply pw_below_drewN | apply below_drew1) | exact HB.out))) : w.heap.size ≤ gb107)); clear HB; have HB := n0_; have BK107 := n1_; have GW107 := n2_; have GE107 := n3_; clear n0_ n1_ n2_ n3_; clear hb hbox hg; have hcz27_0 : w26.cell? ⟨gb107, 0, none⟩ = some (.int .i64 0) := (blk_cell BK107.out 0).trans rfl; have hcz27_1 : w26.cell? ⟨gb107, 1, none⟩ = some (.bool false) := (blk_cell BK107.out 1).trans rfl; have hcz27_2 : w26.cell? ⟨gb107, 2, none⟩ = some (.string (⟨#[]⟩ : ByteArray)) := (blk_cell BK107.out 2).trans rfl; have hcz27_3 : w26.cell? ⟨gb107, 3, none⟩ = some (.string (⟨#[]⟩ : ByteArray)) := (blk_cell BK107.out 3).trans rfl; have hcz27_4 : w26.cell? ⟨gb107, 4, none⟩ = some (.slice none 0 0) := (blk_cell BK107.out 4).trans rfl; have hfz27_0 := blk_frozen BK107.out 0; have hfz27_1 := blk_frozen BK107.out 1; have hfz27_2 := blk_frozen BK107.out 2; have hfz27_3 := blk_frozen BK107.out 3; have hfz27_4 := blk_frozen BK107.out 4))
                        have n0_ : Aside0 ((((((w26.setCell ⟨gb107, 0, none⟩ (.int .i64 ((rd_T33 l0 x11_1).f0))).setCell ⟨gb107, 1, none⟩ (.bool ((rd_T33 l0 x11_1).f1))).setCell ⟨gb107, 2, none⟩ (.string ((rd_T33 l0 x11_1).f2))).setCell ⟨gb107, 3, none⟩ (.string ((rd_T33 l0 x11_1).f3))).setCell ⟨gb107, 4, none⟩ (.slice A106_4 ((rd_T33 l0 x11_1).f4).length c106_4)).heap[gb107]? = some (.cells #[.int .i64 ((rd_T33 l0 x11_1).f0), .bool ((rd_T33 l0 x11_1).f1), .string ((rd_T33 l0 x11_1).f2), .string ((rd_T33 l0 x11_1).f3), .slice A106_4 ((rd_T33 l0 x11_1).f4).length c106_4] 33 (0, 0))) := ⟨by (with_reducible repeat (first | refine blk_drewN ?_ _ | refine blk_drew ?_ | refine blk_alloc ?_ _)); refine blk_put (cs := #[.int .i64 ((rd_T33 l0 x11_1).f0), .bool ((rd_T33 l0 x11_1).f1), .string ((rd_T33 l0 x11_1).f2), .string ((rd_T33 l0 x11_1).f3), .slice none 0 0]) ?_ 4 _ rfl; (with_reducible repeat (first | refine blk_drewN ?_ _ | refine blk_drew ?_ | refine blk_alloc ?_ _)); refine blk_put (cs := #[.int .i64 ((rd_T33 l0 x11_1).f0), .bool ((rd_T33 l0 x11_1).f1), .string ((rd_T33 l0 x11_1).f2), .string (⟨#[]⟩ : ByteArray), .slice none 0 0]) ?_ 3 _ rfl; (with_reducible repeat (first | refine blk_drewN ?_ _ | refine blk_drew ?_ | refine blk_alloc ?_ _)); refine blk_put (cs := #[.int .i64 ((rd_T33 l0 x11_1).f0), .bool ((rd_T33 l0 x11_1).f1), .string (⟨#[]⟩ : ByteArray), .string (⟨#[]⟩ : ByteArray), .slice none 0 0]) ?_ 2 _ rfl; (with_reducible repeat (first | refine blk_drewN ?_ _ | refine blk_drew ?_ | refine blk_alloc ?_ _)); refine blk_put (cs := #[.int .i64 ((rd_T33 l0 x11_1).f0), .bool false, .string (⟨#[]⟩ : ByteArray), .string (⟨#[]⟩ : ByteArray), .slice none 0 0]) ?_ 1 _ rfl; (with_reducible repeat (first | refine blk_drewN ?_ _ | refine blk_drew ?_ | refine blk_alloc ?_ _)); refine blk_put (cs := #[.int .i64 0, .bool false, .string (⟨#[]⟩ : ByteArray), .string (⟨#[]⟩ : ByteArray), .slice none 0 0]) ?_ 0 _ rfl; (with_reducible repeat (first | refine blk_drewN ?_ _ | refine blk_drew ?_ | refine blk_alloc ?_ _)); exact BK107.out⟩
                        have n1_ : Aside0 (Below w.heap.size w (((((w26.setCell ⟨gb107, 0, none⟩ (.int .i64 ((rd_T33 l0 x11_1).f0))).setCell ⟨gb107, 1, none⟩ (.bool ((rd_T33 l0 x11_1).f1))).setCell ⟨gb107, 2, none⟩ (.string ((rd_T33 l0 x11_1).f2))).setCell ⟨gb107, 3, none⟩ (.string ((rd_T33 l0 x11_1).f3))).setCell ⟨gb107, 4, none⟩ (.slice A106_4 ((rd_T33 l0 x11_1).f4).length c106_4))) := ⟨by repeat (first | (with_reducible first | exact HB.out | apply below_alloc | apply pw_below_drewN | apply below_drew1 | refine below_set ?_ GE107.out) | exact HB.out)⟩
                        (try clear BK107)
                        (try clear HB)
                        generalize (((((w26.setCell ⟨gb107, 0, none⟩ (.int .i64 ((rd_T33 l0 x11_1).f0))).setCell ⟨gb107, 1, none⟩ (.bool ((rd_T33 l0 x11_1).f1))).setCell ⟨gb107, 2, none⟩ (.string ((rd_T33 l0 x11_1).f2))).setCell ⟨gb107, 3, none⟩ (.string ((rd_T33 l0 x11_1).f3))).setCell ⟨gb107, 4, none⟩ (.slice A106_4 ((rd_T33 l0 x11_1).f4).length c106_4)) = w28 at n0_ n1_ ⊢
                        have BK107 := n0_
                        have HB := n1_
                        clear n0_ n1_
                        have n0_ := Aside0.mk (blk_drew BK107.out)
                        have n1_ := Aside0.mk (below_drew1 HB.out)
                        clear BK107
                        clear HB
                        have BK107 := n0_
                        have HB := n1_
                        clear n0_ n1_
                        have p109 : 0 ≤ ((ji11) : Int) := of_decide_eq_true (by first | (with_reducible assumption) | assumption)
                        have q109 : (ji11) < (l0.length : Int) := of_decide_eq_true (by first | (with_reducible assumption) | assumption)
                        obtain ⟨ad109, A109_4, c109_4, e109, hx109_0, hx109_1, hx109_2, hx109_3, hx109_4, hl109_4, hi109_4⟩ := at_T33 HR0.out (ji11) p109 q109
                        have hw109_4 := hx109_4
                        have hw109_3 := hx109_3
                        have hw109_2 := hx109_2
                        have hw109_1 := hx109_1
                        have hw109_0 := hx109_0
                        obtain rfl : ad106 = ad109 := (by injection e109)
                        replace hx109_0 := (HB.out.cell (World.block_lt_of_cell? w _ hx109_0)).trans hx109_0
                        replace hx109_1 := (HB.out.cell (World.block_lt_of_cell? w _ hx109_1)).trans hx109_1
                        replace hx109_2 := (HB.out.cell (World.block_lt_of_cell? w _ hx109_2)).trans hx109_2
                        replace hx109_3 := (HB.out.cell (World.block_lt_of_cell? w _ hx109_3)).trans hx109_3
                        replace hx109_4 := (HB.out.cell (World.block_lt_of_cell? w _ hx109_4)).trans hx109_4
                        have HR109_4 := Aside0.mk hi109_4
                        have HC109_4 := Aside0.mk hl109_4
                        clear hi109_4 hl109_4
                        replace p109 := eq_true p109
                        replace q109 := eq_true q109
                        refine start_ (n := 28) (S := fun w' => w'.cell? ⟨gb107, 0, none⟩ = some (.int .i64 ((rd_T33 l0 x11_1).f0)) ∧ w'.cell? ⟨gb107, 1, none⟩ = some (.bool ((rd_T33 l0 x11_1).f1)) ∧ w'.cell? ⟨gb107, 2, none⟩ = some (.string ((rd_T33 l0 x11_1).f2)) ∧ w'.cell? ⟨gb107, 3, none⟩ = some (.string ((rd_T33 l0 x11_1).f3)) ∧ w'.cell? ⟨gb107, 4, none⟩ = some (.slice A106_4 ((rd_T33 l0 x11_1).f4).length c106_4) ∧ w'.cell? (ad106.add (((ji11)).toNat * 5)) = some (.int .i64 ((rd_T33 l0 (ji11)).f0)) ∧ w'.cell? ⟨(ad106.add (((ji11)).toNat * 5)).block, (ad106.add (((ji11)).toNat * 5)).off + 1, none⟩ = some (.bool ((rd_T33 l0 (ji11)).f1)) ∧ w'.cell? ⟨(ad106.add (((ji11)).toNat * 5)).block, (ad106.add (((ji11)).toNat * 5)).off + 2, none⟩ = some (.string ((rd_T33 l0 (ji11)).f2)) ∧ w'.cell? ⟨(ad106.add (((ji11)).toNat * 5)).block, (ad106.add (((ji11)).toNat * 5)).off + 3, none⟩ = some (.string ((rd_T33 l0 (ji11)).f3)) ∧ w'.cell? ⟨(ad106.add (((ji11)).toNat * 5)).block, (ad106.add (((ji11)).toNat * 5)).off + 4, none⟩ = some (.slice A109_4 ((rd_T33 l0 (ji11)).f4).length c109_4)) (ds := []) #[false, false, false, false, false, false, false, false, false, false, false, false, false, false, false, false, false, false, false, false, false, false, false, false, false, false, false, false] (by kernel_rfl) rfl rfl ⟨(blk_cell BK107.out 0).trans rfl, (blk_cell BK107.out 1).trans rfl, (blk_cell BK107.out 2).trans rfl, (blk_cell BK107.out 3).trans rfl, (blk_cell BK107.out 4).trans rfl, ((HB.out.cell (World.block_lt_of_cell? w _ hw109_0)).trans hw109_0), ((HB.out.cell (World.block_lt_of_cell? w _ hw109_1)).trans hw109_1), ((HB.out.cell (World.block_lt_of_cell? w _ hw109_2)).trans hw109_2), ((HB.out.cell (World.block_lt_of_cell? w _ hw109_3)).trans hw109_3), ((HB.out.cell (World.block_lt_of_cell? w _ hw109_4)).trans hw109_4)⟩ (fun hHeld => ?_); refine with_tabW word_partsR.tab7 word_partsR.bits7 (fun HT_ HW_ => ?_)
                        generalize w28.drew = w29 at BK107 HB HR109_4 hx109_0 hx109_1 hx109_2 hx109_3 hx109_4 hHeld ⊢
                        refine pure_ (i := 1) (N := some 21) (v := ?_) (a' := ?_) #[false, true, false, false, false, false, false, false, false, false, false, false, false, false, false, false, false, false, false, false, false, false, false, false, false, false, false, false] rfl rfl (any_of HT_.out (by kernel_rfl)) (fun _ _ _ h => h) (Or.inl ⟨by rfl, ?_⟩) ?_ ?_
                        rotate_left
                        · intro w'
                          go_simp
                          with_reducible rfl
                        rotate_left
                        · simp only [Act.put, List.setIfInBounds_toArray, List.set_cons_zero, List.set_cons_succ, i64_w, i32_w]
                          rfl
                        refine take_ (i := 0) (N := some 20) (v := ?_) (a' := ?_) #[true, true, false, false, false, false, false, false, false, false, false, false, false, false, false, false, false, false, false, false, false, false, false, false, false, false, false, false] rfl rfl (take_ofW HT_.out HW_.out (by kernel_rfl)) (fun _ _ _ h => h) (Or.inl ⟨by rfl, ?_⟩) hHeld ?_ ?_
                        rotate_left
                        · rintro w' ⟨s0, s1, s2, s3, s4, s5, s6, s7, s8, s9⟩
                          go_simp
                          with_reducible rfl
                        rotate_left
                        · simp only [Act.put, List.setIfInBounds_toArray, List.set_cons_zero, List.set_cons_succ, i64_w, i32_w]
                          rfl
                        refine one_ (i := 2) (N := some 22) #[true, true, true, false, false, false, false, false, false, false, false, false, false, false, false, false, false, false, false, false, false, false, false, false, false, false, false, false] rfl rfl (one_of HT_.out (by kernel_rfl)) (by decide) (fun K hK => ?_)
                        refine goes_ Tryd.func35 (by kernel_rfl) rfl #[.agg #[.int .i64 ((rd_T33 l0 x11_1).f0), .bool ((rd_T33 l0 x11_1).f1), .string ((rd_T33 l0 x11_1).f2), .string ((rd_T33 l0 x11_1).f3), .slice A106_4 ((rd_T33 l0 x11_1).f4).length c106_4], .int .i64 a1] (by rfl) rfl rfl (by (try simp only [List.map_toArray, List.map_cons, List.map_nil]); first | done | rfl | (simp only [List.length_drop, List.length_take]; rfl)) ?_
                        with_reducible refine (word_literal.calls k1 ((rd_T33 l0 x11_1).f0) ((rd_T33 l0 x11_1).f1) ((rd_T33 l0 x11_1).f2) ((rd_T33 l0 x11_1).f3) _ _ ((rd_T33 l0 x11_1).f4) a1 true _ ?side1 ?side2 A8.out).mono ?_
                        (case side1 => repeat (first | exact (Kd.C_below HR106_4.out HB.out) | (with_reducible refine Kd.C_alloc ?_ _) | (with_reducible refine Kd.C_drewN ?_ _) | (with_reducible refine Kd.C_drew ?_)))
                        (case side2 => exact HC106_4.out)
                        rintro e w30 ⟨rfl, hb⟩
                        refine ⟨_, rfl, ?_⟩
                        have n0_ := Aside0.mk (blk_below (g := gb107) (o := .cells #[.int .i64 ((rd_T33 l0 x11_1).f0), .bool ((rd_T33 l0 x11_1).f1), .string ((rd_T33 l0 x11_1).f2), .string ((rd_T33 l0 x11_1).f3), .slice A106_4 ((rd_T33 l0 x11_1).f4).length c106_4] 33 (0, 0)) (by (with_reducible repeat (first | refine blk_drewN ?_ _ | refine blk_drew ?_ | refine blk_alloc ?_ _)); exact BK107.out) hb)
                        have n1_ := Aside0.mk (below_step (by repeat (first | (with_reducible first | exact HB.out | apply below_alloc | apply pw_below_drewN | apply below_drew1 | refine below_set ?_ GE107.out) | exact HB.out)) hb)
                        clear BK107
                        clear HB
                        have BK107 := n0_
                        have HB := n1_
                        clear n0_ n1_
                        (try clear hb)
                        (try clear hb2)
                        (try clear hk)
                        (try clear hi)
                        refine hK.out _ _ ⟨(blk_cell BK107.out 0).trans rfl, (blk_cell BK107.out 1).trans rfl, (blk_cell BK107.out 2).trans rfl, (blk_cell BK107.out 3).trans rfl, (blk_cell BK107.out 4).trans rfl, ((HB.out.cell (World.block_lt_of_cell? w _ hw109_0)).trans hw109_0), ((HB.out.cell (World.block_lt_of_cell? w _ hw109_1)).trans hw109_1), ((HB.out.cell (World.block_lt_of_cell? w _ hw109_2)).trans hw109_2), ((HB.out.cell (World.block_lt_of_cell? w _ hw109_3)).trans hw109_3), ((HB.out.cell (World.block_lt_of_cell? w _ hw109_4)).trans hw109_4)⟩ (fun hHeld => ?_)
                        clear hK K
                        refine norm_ (a' := ?_) ?_ ?_
                        rotate_left
                        · show Act.put _ (some 22) _ = _
                          simp only [Act.put, List.setIfInBounds_toArray, List.set_cons_zero, List.set_cons_succ, i64_w, i32_w]
                          rfl
                        refine pure_ (i := 3) (N := some 23) (v := ?_) (a' := ?_) #[true, true, true, true, false, false, false, false, false, false, false, false, false, false, false, false, false, false, false, false, false, false, false, false, false, false, false, false] rfl rfl (any_of HT_.out (by kernel_rfl)) (fun _ _ _ h => h) (Or.inl ⟨by rfl, ?_⟩) ?_ ?_
                        rotate_left
                        · intro w'
                          go_simp
                          with_reducible rfl
                        rotate_left
                        · simp only [Act.put, List.setIfInBounds_toArray, List.set_cons_zero, List.set_cons_succ, i64_w, i32_w]
                          rfl
                        refine pure_ (i := 4) (N := some 24) (v := ?_) (a' := ?_) #[true, true, true, true, true, false, false, false, false, false, false, false, false, false, false, false, false, false, false, false, false, false, false, false, false, false, false, false] rfl rfl (any_of HT_.out (by kernel_rfl)) (fun _ _ _ h => h) (Or.inl ⟨by rfl, ?_⟩) ?_ ?_
                        rotate_left
                        · intro w'
                          go_simp
                          with_reducible rfl
                        rotate_left
                        · simp only [Act.put, List.setIfInBounds_toArray, List.set_cons_zero, List.set_cons_succ, i64_w, i32_w]
                          rfl
                        refine pure_ (i := 5) (N := some 25) (v := ?_) (a' := ?_) #[true, true, true, true, true, true, false, false, false, false, false, false, false, false, false, false, false, false, false, false, false, false, false, false, false, false, false, false] rfl rfl (any_of HT_.out (by kernel_rfl)) (fun _ _ _ h => h) (Or.inl ⟨by rfl, ?_⟩) ?_ ?_
                        rotate_left
                        · intro w'
                          go_simp
                          with_reducible rfl
                        rotate_left
                        · simp only [Act.put, List.setIfInBounds_toArray, List.set_cons_zero, List.set_cons_succ, i64_w, i32_w]
                          rfl
                        refine pure_ (i := 6) (N := some 26) (v := ?_) (a' := ?_) #[true, true, true, true, true, true, true, false, false, false, false, false, false, false, false, false, false, false, false, false, false, false, false, false, false, false, false, false] rfl rfl (any_of HT_.out (by kernel_rfl)) (fun _ _ _ h => h) (Or.inl ⟨by rfl, ?_⟩) ?_ ?_
                        rotate_left
                        · intro w'
                          go_simp
                          with_reducible rfl
                        rotate_left
                        · simp only [Act.put, List.setIfInBounds_toArray, List.set_cons_zero, List.set_cons_succ, i64_w, i32_w]
                          rfl
                        refine pure_ (i := 7) (N := some 27) (v := ?_) (a' := ?_) #[true, true, true, true, true, true, true, true, false, false, false, false, false, false, false, false, false, false, false, false, false, false, false, false, false, false, false, false] rfl rfl (any_of HT_.out (by kernel_rfl)) (fun _ _ _ h => h) (Or.inl ⟨by rfl, ?_⟩) ?_ ?_
                        rotate_left
                        · intro w'
                          go_simp
                          with_reducible rfl
                        rotate_left
                        · simp only [Act.put, List.setIfInBounds_toArray, List.set_cons_zero, List.set_cons_succ, i64_w, i32_w]
                          rfl
                        refine pure_ (i := 8) (N := some 28) (v := ?_) (a' := ?_) #[true, true, true, true, true, true, true, true, true, false, false, false, false, false, false, false, false, false, false, false, false, false, false, false, false, false, false, false] rfl rfl (any_of HT_.out (by kernel_rfl)) (fun _ _ _ h => h) (Or.inl ⟨by rfl, ?_⟩) ?_ ?_
                        rotate_left
                        · intro w'
                          go_simp
                          with_reducible rfl
                        rotate_left
                        · simp only [Act.put, List.setIfInBounds_toArray, List.set_cons_zero, List.set_cons_succ, i64_w, i32_w]
                          rfl
                        refine pure_ (i := 9) (N := some 29) (v := ?_) (a' := ?_) #[true, true, true, true, true, true, true, true, true, true, false, false, false, false, false, false, false, false, false, false, false, false, false, false, false, false, false, false] rfl rfl (any_of HT_.out (by kernel_rfl)) (fun _ _ _ h => h) (Or.inl ⟨by rfl, ?_⟩) ?_ ?_
                        rotate_left
                        · intro w'
                          go_simp
                          with_reducible rfl
                        rotate_left
                        · simp only [Act.put, List.setIfInBounds_toArray, List.set_cons_zero, List.set_cons_succ, i64_w, i32_w]
                          rfl
                        refine pure_ (i := 10) (N := some 30) (v := ?_) (a' := ?_) #[true, true, true, true, true, true, true, true, true, true, true, false, false, false, false, false, false, false, false, false, false, false, false, false, false, false, false, false] rfl rfl (any_of HT_.out (by kernel_rfl)) (fun _ _ _ h => h) (Or.inl ⟨by rfl, ?_⟩) ?_ ?_
                        rotate_left
                        · intro w'
                          go_simp
                          with_reducible rfl
                        rotate_left
                        · simp only [Act.put, List.setIfInBounds_toArray, List.set_cons_zero, List.set_cons_succ, i64_w, i32_w]
                          rfl
                        refine pure_ (i := 11) (N := some 31) (v := ?_) (a' := ?_) #[true, true, true, true, true, true, true, true, true, true, true, true, false, false, false, false, false, false, false, false, false, false, false, false, false, false, false, false] rfl rfl (any_of HT_.out (by kernel_rfl)) (fun _ _ _ h => h) (Or.inl ⟨by rfl, ?_⟩) ?_ ?_
                        rotate_left
                        · intro w'
                          go_simp
                          with_reducible rfl
                        rotate_left
                        · simp only [Act.put, List.setIfInBounds_toArray, List.set_cons_zero, List.set_cons_succ, i64_w, i32_w]
                          rfl
                        refine pure_ (i := 12) (N := some 32) (v := ?_) (a' := ?_) #[true, true, true, true, true, true, true, true, true, true, true, true, true, false, false, false, false, false, false, false, false, false, false, false, false, false, false, false] rfl rfl (any_of HT_.out (by kernel_rfl)) (fun _ _ _ h => h) (Or.inl ⟨by rfl, ?_⟩) ?_ ?_
                        rotate_left
                        · intro w'
                          go_simp
                          with_reducible rfl
                        rotate_left
                        · simp only [Act.put, List.setIfInBounds_toArray, List.set_cons_zero, List.set_cons_succ, i64_w, i32_w]
                          rfl
                        refine take_ (i := 13) (N := some 33) (v := ?_) (a' := ?_) #[true, true, true, true, true, true, true, true, true, true, true, true, true, true, false, false, false, false, false, false, false, false, false, false, false, false, false, false] rfl rfl (take_ofW HT_.out HW_.out (by kernel_rfl)) (fun _ _ _ h => h) (Or.inl ⟨by rfl, ?_⟩) hHeld ?_ ?_
                        rotate_left
                        · rintro w' ⟨s0, s1, s2, s3, s4, s5, s6, s7, s8, s9⟩
                          go_simp
                          with_reducible rfl
                        rotate_left
                        · simp only [Act.put, List.setIfInBounds_toArray, List.set_cons_zero, List.set_cons_succ, i64_w, i32_w]
                          rfl
                        refine pure_ (i := 14) (N := some 34) (v := ?_) (a' := ?_) #[true, true, true, true, true, true, true, true, true, true, true, true, true, true, true, false, false, false, false, false, false, false, false, false, false, false, false, false] rfl rfl (any_of HT_.out (by kernel_rfl)) (fun _ _ _ h => h) (Or.inl ⟨by rfl, ?_⟩) ?_ ?_
                        rotate_left
                        · intro w'
                          go_simp
                          with_reducible rfl
                        rotate_left
                        · simp only [Act.put, List.setIfInBounds_toArray, List.set_cons_zero, List.set_cons_succ, i64_w, i32_w]
                          rfl
                        refine pure_ (i := 15) (N := some 35) (v := ?_) (a' := ?_) #[true, true, true, true, true, true, true, true, true, true, true, true, true, true, true, true, false, false, false, false, false, false, false, false, false, false, false, false] rfl rfl (any_of HT_.out (by kernel_rfl)) (fun _ _ _ h => h) (Or.inl ⟨by rfl, ?_⟩) ?_ ?_
                        rotate_left
                        · intro w'
                          go_simp
                          with_reducible rfl
                        rotate_left
                        · simp only [Act.put, List.setIfInBounds_toArray, List.set_cons_zero, List.set_cons_succ, i64_w, i32_w]
                          rfl
                        refine pure_ (i := 16) (N := some 36) (v := ?_) (a' := ?_) #[true, true, true, true, true, true, true, true, true, true, true, true, true, true, true, true, true, false, false, false, false, false, false, false, false, false, false, false] rfl rfl (any_of HT_.out (by kernel_rfl)) (fun _ _ _ h => h) (Or.inl ⟨by rfl, ?_⟩) ?_ ?_
                        rotate_left
                        · intro w'
                          go_simp
                          with_reducible rfl
                        rotate_left
                        · simp only [Act.put, List.setIfInBounds_toArray, List.set_cons_zero, List.set_cons_succ, i64_w, i32_w]
                          rfl
                        refine pure_ (i := 17) (N := some 37) (v := undef) (a' := ?_) #[true, true, true, true, true, true, true, true, true, true, true, true, true, true, true, true, true, true, false, false, false, false, false, false, false, false, false, false] rfl rfl (any_of HT_.out (by kernel_rfl)) (fun _ _ _ h => h) (Or.inr ⟨by rfl, rfl⟩) ?_ ?_
                        rotate_left
                        · simp only [Act.put, List.setIfInBounds_toArray, List.set_cons_zero, List.set_cons_succ, i64_w, i32_w]
                          rfl
                        refine pure_ (i := 18) (N := some 38) (v := undef) (a' := ?_) #[true, true, true, true, true, true, true, true, true, true, true, true, true, true, true, true, true, true, true, false, false, false, false, false, false, false, false, false] rfl rfl (any_of HT_.out (by kernel_rfl)) (fun _ _ _ h => h) (Or.inr ⟨by rfl, rfl⟩) ?_ ?_
                        rotate_left
                        · simp only [Act.put, List.setIfInBounds_toArray, List.set_cons_zero, List.set_cons_succ, i64_w, i32_w]
                          rfl
                        refine pure_ (i := 19) (N := some 39) (v := undef) (a' := ?_) #[true, true, true, true, true, true, true, true, true, true, true, true, true, true, true, true, true, true, true, true, false, false, false, false, false, false, false, false] rfl rfl (any_of HT_.out (by kernel_rfl)) (fun _ _ _ h => h) (Or.inr ⟨by rfl, rfl⟩) ?_ ?_
                        rotate_left
                        · simp only [Act.put, List.setIfInBounds_toArray, List.set_cons_zero, List.set_cons_succ, i64_w, i32_w]
                          rfl
                        refine pure_ (i := 20) (N := some 40) (v := undef) (a' := ?_) #[true, true, true, true, true, true, true, true, true, true, true, true, true, true, true, true, true, true, true, true, true, false, false, false, false, false, false, false] rfl rfl (any_of HT_.out (by kernel_rfl)) (fun _ _ _ h => h) (Or.inr ⟨by rfl, rfl⟩) ?_ ?_
                        rotate_left
                        · simp only [Act.put, List.setIfInBounds_toArray, List.set_cons_zero, List.set_cons_succ, i64_w, i32_w]
                          rfl
                        refine pure_ (i := 21) (N := some 41) (v := undef) (a' := ?_) #[true, true, true, true, true, true, true, true, true, true, true, true, true, true, true, true, true, true, true, true, true, true, false, false, false, false, false, false] rfl rfl (any_of HT_.out (by kernel_rfl)) (fun _ _ _ h => h) (Or.inr ⟨by rfl, rfl⟩) ?_ ?_
                        rotate_left
                        · simp only [Act.put, List.setIfInBounds_toArray, List.set_cons_zero, List.set_cons_succ, i64_w, i32_w]
                          rfl
                        refine pure_ (i := 22) (N := some 42) (v := undef) (a' := ?_) #[true, true, true, true, true, true, true, true, true, true, true, true, true, true, true, true, true, true, true, true, true, true, true, false, false, false, false, false] rfl rfl (any_of HT_.out (by kernel_rfl)) (fun _ _ _ h => h) (Or.inr ⟨by rfl, rfl⟩) ?_ ?_
                        rotate_left
                        · simp only [Act.put, List.setIfInBounds_toArray, List.set_cons_zero, List.set_cons_succ, i64_w, i32_w]
                          rfl
                        refine pure_ (i := 23) (N := some 43) (v := undef) (a' := ?_) #[true, true, true, true, true, true, true, true, true, true, true, true, true, true, true, true, true, true, true, true, true, true, true, true, false, false, false, false] rfl rfl (any_of HT_.out (by kernel_rfl)) (fun _ _ _ h => h) (Or.inr ⟨by rfl, rfl⟩) ?_ ?_
                        rotate_left
                        · simp only [Act.put, List.setIfInBounds_toArray, List.set_cons_zero, List.set_cons_succ, i64_w, i32_w]
                          rfl
                        refine pure_ (i := 24) (N := some 44) (v := undef) (a' := ?_) #[true, true, true, true, true, true, true, true, true, true, true, true, true, true, true, true, true, true, true, true, true, true, true, true, true, false, false, false] rfl rfl (any_of HT_.out (by kernel_rfl)) (fun _ _ _ h => h) (Or.inr ⟨by rfl, rfl⟩) ?_ ?_
                        rotate_left
                        · simp only [Act.put, List.setIfInBounds_toArray, List.set_cons_zero, List.set_cons_succ, i64_w, i32_w]
                          rfl
                        refine pure_ (i := 25) (N := some 45) (v := undef) (a' := ?_) #[true, true, true, true, true, true, true, true, true, true, true, true, true, true, true, true, true, true, true, true, true, true, true, true, true, true, false, false] rfl rfl (any_of HT_.out (by kernel_rfl)) (fun _ _ _ h => h) (Or.inr ⟨by rfl, rfl⟩) ?_ ?_
                        rotate_left
                        · simp only [Act.put, List.setIfInBounds_toArray, List.set_cons_zero, List.set_cons_succ, i64_w, i32_w]
                          rfl
                        refine pure_ (i := 26) (N := some 46) (v := ?_) (a' := ?_) #[true, true, true, true, true, true, true, true, true, true, true, true, true, true, true, true, true, true, true, true, true, true, true, true, true, true, true, false] rfl rfl (any_of HT_.out (by kernel_rfl)) (fun _ _ _ h => h) (Or.inl ⟨by rfl, ?_⟩) ?_ ?_
                        rotate_left
                        · intro w'
                          go_simp
                          with_reducible rfl
                        rotate_left
                        · simp only [Act.put, List.setIfInBounds_toArray, List.set_cons_zero, List.set_cons_succ, i64_w, i32_w]
                          rfl
                        refine pure_ (i := 27) (N := some 47) (v := ?_) (a' := ?_) #[true, true, true, true, true, true, true, true, true, true, true, true, true, true, true, true, true, true, true, true, true, true, true, true, true, true, true, true] rfl rfl (any_of HT_.out (by kernel_rfl)) (fun _ _ _ h => h) (Or.inl ⟨by rfl, ?_⟩) ?_ ?_
                        rotate_left
                        · intro w'
                          go_simp
                          with_reducible rfl
                        rotate_left
                        · simp only [Act.put, List.setIfInBounds_toArray, List.set_cons_zero, List.set_cons_succ, i64_w, i32_w]
                          rfl
                        refine done_ (done_of HT_.out (by kernel_rfl)) ?_
                        try go_wp2
                        go_roundg k1
                        case measure => have := HK1.out; omega
                        case rel => exact ⟨(wrap64 (x11_1 + 1)), (by first | rfl | (simp; done) | (simp [*]; done)), H', ⟨by have := HK1.out; omega⟩, ⟨by repeat (first | (with_reducible first | exact HB.out | apply below_alloc | apply pw_below_drewN | apply below_drew1 | refine below_set ?_ GE107.out) | exact HB.out)⟩⟩
                    · rw [if_neg c13] at H
                      exact absurd H (by simp)
                  · rw [if_neg c12] at H
                    exact absurd H (by simp)
                · rw [if_neg c10] at H
                  have c10b0 : decide (0 < x11_1) = false := decide_eq_false c10
                  clear c10
                  have H' := Aside0.mk H
                  clear H
                  have p106 : 0 ≤ (x11_1 : Int) := of_decide_eq_true (by first | (with_reducible assumption) | assumption)
                  have q106 : x11_1 < (l0.length : Int) := of_decide_eq_true (by first | (with_reducible assumption) | assumption)
                  obtain ⟨ad106, A106_4, c106_4, e106, hx106_0, hx106_1, hx106_2, hx106_3, hx106_4, hl106_4, hi106_4⟩ := at_T33 HR0.out x11_1 p106 q106
                  cases e106
                  replace hx106_0 := (HB.out.cell (World.block_lt_of_cell? w _ hx106_0)).trans hx106_0
                  replace hx106_1 := (HB.out.cell (World.block_lt_of_cell? w _ hx106_1)).trans hx106_1
                  replace hx106_2 := (HB.out.cell (World.block_lt_of_cell? w _ hx106_2)).trans hx106_2
                  replace hx106_3 := (HB.out.cell (World.block_lt_of_cell? w _ hx106_3)).trans hx106_3
                  replace hx106_4 := (HB.out.cell (World.block_lt_of_cell? w _ hx106_4)).trans hx106_4
                  have HR106_4 := Aside0.mk hi106_4
                  have HC106_4 := Aside0.mk hl106_4
                  clear hi106_4 hl106_4
                  replace p106 := eq_true p106
                  replace q106 := eq_true q106
                  try go_wp2_with (first | ((with_reducible refine gate_dst (N := 8) rfl ?_); refine box_event ?hg (N := 8) ?hd (cs := #[.int .i64 0, .bool false, .string (⟨#[]⟩ : ByteArray), .string (⟨#[]⟩ : ByteArray), .slice none 0 0]) (t := 33) ?hr ?_; (case hd => rfl); (case hg => rfl); (case hr => first | (go_simp; done) | (go_simp; rfl)); intro gb107 hg w31 hbox hb; have n0_ := Aside0.mk (below_step (by repeat (first | (with_reducible first | exact HB.out | apply below_alloc | apply pw_below_drewN | apply below_drew1) | exact HB.out)) hb); have n1_ := Aside0.mk (hbox); have n2_ := Aside0.mk ((by rw [hg]; exact (below_size (by repeat (first | (with_reducible first | exact HB.out | apply below_alloc | apply pw_below_drewN | apply below_drew1) | exact HB.out))) : w.heap.size ≤ gb107)); have n3_ := Aside0.mk ((by rw [hg]; exact (below_size (by repeat (first | (with_reducible first | exact HB.out | apply below_alloc | apply pw_below_drewN | apply below_drew1) | exact HB.out))) : w.heap.size ≤ gb107)); clear HB; have HB := n0_; have BK107 := n1_; have GW107 := n2_; have GE107 := n3_; clear n0_ n1_ n2_ n3_; clear hb hbox hg; have hcz32_0 : w31.cell? ⟨gb107, 0, none⟩ = some (.int .i64 0) := (blk_cell BK107.out 0).trans rfl; have hcz32_1 : w31.cell? ⟨gb107, 1, none⟩ = some (.bool false) := (blk_cell BK107.out 1).trans rfl; have hcz32_2 : w31.cell? ⟨gb107, 2, none⟩ = some (.string (⟨#[]⟩ : ByteArray)) := (blk_cell BK107.out 2).trans rfl; have hcz32_3 : w31.cell? ⟨gb107, 3, none⟩ = some (.string (⟨#[]⟩ : ByteArray)) := (blk_cell BK107.out 3).trans rfl; have hcz32_4 : w31.cell? ⟨gb107, 4, none⟩ = some (.slice none 0 0) := (blk_cell BK107.out 4).trans rfl; have hfz32_0 := blk_frozen BK107.out 0; have hfz32_1 := blk_frozen BK107.out 1; have hfz32_2 := blk_frozen BK107.out 2; have hfz32_3 := blk_frozen BK107.out 3; have hfz32_4 := blk_frozen BK107.out 4))
                  have n0_ : Aside0 ((((((w31.setCell ⟨gb107, 0, none⟩ (.int .i64 ((rd_T33 l0 x11_1).f0))).setCell ⟨gb107, 1, none⟩ (.bool ((rd_T33 l0 x11_1).f1))).setCell ⟨gb107, 2, none⟩ (.string ((rd_T33 l0 x11_1).f2))).setCell ⟨gb107, 3, none⟩ (.string ((rd_T33 l0 x11_1).f3))).setCell ⟨gb107, 4, none⟩ (.slice A106_4 ((rd_T33 l0 x11_1).f4).length c106_4)).heap[gb107]? = some (.cells #[.int .i64 ((rd_T33 l0 x11_1).f0), .bool ((rd_T33 l0 x11_1).f1), .string ((rd_T33 l0 x11_1).f2), .string ((rd_T33 l0 x11_1).f3), .slice A106_4 ((rd_T33 l0 x11_1).f4).length c106_4] 33 (0, 0))) := ⟨by (with_reducible repeat (first | refine blk_drewN ?_ _ | refine blk_drew ?_ | refine blk_alloc ?_ _)); refine blk_put (cs := #[.int .i64 ((rd_T33 l0 x11_1).f0), .bool ((rd_T33 l0 x11_1).f1), .string ((rd_T33 l0 x11_1).f2), .string ((rd_T33 l0 x11_1).f3), .slice none 0 0]) ?_ 4 _ rfl; (with_reducible repeat (first | refine blk_drewN ?_ _ | refine blk_drew ?_ | refine blk_alloc ?_ _)); refine blk_put (cs := #[.int .i64 ((rd_T33 l0 x11_1).f0), .bool ((rd_T33 l0 x11_1).f1), .string ((rd_T33 l0 x11_1).f2), .string (⟨#[]⟩ : ByteArray), .slice none 0 0]) ?_ 3 _ rfl; (with_reducible repeat (first | refine blk_drewN ?_ _ | refine blk_drew ?_ | refine blk_alloc ?_ _)); refine blk_put (cs := #[.int .i64 ((rd_T33 l0 x11_1).f0), .bool ((rd_T33 l0 x11_1).f1), .string (⟨#[]⟩ : ByteArray), .string (⟨#[]⟩ : ByteArray), .slice none 0 0]) ?_ 2 _ rfl; (with_reducible repeat (first | refine blk_drewN ?_ _ | refine blk_drew ?_ | refine blk_alloc ?_ _)); refine blk_put (cs := #[.int .i64 ((rd_T33 l0 x11_1).f0), .bool false, .string (⟨#[]⟩ : ByteArray), .string (⟨#[]⟩ : ByteArray), .slice none 0 0]) ?_ 1 _ rfl; (with_reducible repeat (first | refine blk_drewN ?_ _ | refine blk_drew ?_ | refine blk_alloc ?_ _)); refine blk_put (cs := #[.int .i64 0, .bool false, .string (⟨#[]⟩ : ByteArray), .string (⟨#[]⟩ : ByteArray), .slice none 0 0]) ?_ 0 _ rfl; (with_reducible repeat (first | refine blk_drewN ?_ _ | refine blk_drew ?_ | refine blk_alloc ?_ _)); exact BK107.out⟩
                  have n1_ : Aside0 (Below w.heap.size w (((((w31.setCell ⟨gb107, 0, none⟩ (.int .i64 ((rd_T33 l0 x11_1).f0))).setCell ⟨gb107, 1, none⟩ (.bool ((rd_T33 l0 x11_1).f1))).setCell ⟨gb107, 2, none⟩ (.string ((rd_T33 l0 x11_1).f2))).setCell ⟨gb107, 3, none⟩ (.string ((rd_T33 l0 x11_1).f3))).setCell ⟨gb107, 4, none⟩ (.slice A106_4 ((rd_T33 l0 x11_1).f4).length c106_4))) := ⟨by repeat (first | (with_reducible first | exact HB.out | apply below_alloc | apply pw_below_drewN | apply below_drew1 | refine below_set ?_ GE107.out) | exact HB.out)⟩
                  (try clear BK107)
                  (try clear HB)
                  generalize (((((w31.setCell ⟨gb107, 0, none⟩ (.int .i64 ((rd_T33 l0 x11_1).f0))).setCell ⟨gb107, 1, none⟩ (.bool ((rd_T33 l0 x11_1).f1))).setCell ⟨gb107, 2, none⟩ (.string ((rd_T33 l0 x11_1).f2))).setCell ⟨gb107, 3, none⟩ (.string ((rd_T33 l0 x11_1).f3))).setCell ⟨gb107, 4, none⟩ (.slice A106_4 ((rd_T33 l0 x11_1).f4).length c106_4)) = w33 at n0_ n1_ ⊢
                  have BK107 := n0_
                  have HB := n1_
                  clear n0_ n1_
                  have n0_ := Aside0.mk (blk_drew BK107.out)
                  have n1_ := Aside0.mk (below_drew1 HB.out)
                  clear BK107
                  clear HB
                  have BK107 := n0_
                  have HB := n1_
                  clear n0_ n1_
                  refine start_ (n := 28) (S := fun w' => w'.cell? ⟨gb107, 0, none⟩ = some (.int .i64 ((rd_T33 l0 x11_1).f0)) ∧ w'.cell? ⟨gb107, 1, none⟩ = some (.bool ((rd_T33 l0 x11_1).f1)) ∧ w'.cell? ⟨gb107, 2, none⟩ = some (.string ((rd_T33 l0 x11_1).f2)) ∧ w'.cell? ⟨gb107, 3, none⟩ = some (.string ((rd_T33 l0 x11_1).f3)) ∧ w'.cell? ⟨gb107, 4, none⟩ = some (.slice A106_4 ((rd_T33 l0 x11_1).f4).length c106_4)) (ds := []) #[false, false, false, false, false, false, false, false, false, false, false, false, false, false, false, false, false, false, false, false, false, false, false, false, false, false, false, false] (by kernel_rfl) rfl rfl ⟨(blk_cell BK107.out 0).trans rfl, (blk_cell BK107.out 1).trans rfl, (blk_cell BK107.out 2).trans rfl, (blk_cell BK107.out 3).trans rfl, (blk_cell BK107.out 4).trans rfl⟩ (fun hHeld => ?_); refine with_tabW word_partsR.tab7 word_partsR.bits7 (fun HT_ HW_ => ?_)
                  generalize w33.drew = w34 at BK107 HB hHeld ⊢
                  refine pure_ (i := 1) (N := some 21) (v := ?_) (a' := ?_) #[false, true, false, false, false, false, false, false, false, false, false, false, false, false, false, false, false, false, false, false, false, false, false, false, false, false, false, false] rfl rfl (any_of HT_.out (by kernel_rfl)) (fun _ _ _ h => h) (Or.inl ⟨by rfl, ?_⟩) ?_ ?_
                  rotate_left
                  · intro w'
                    go_simp
                    with_reducible rfl
                  rotate_left
                  · simp only [Act.put, List.setIfInBounds_toArray, List.set_cons_zero, List.set_cons_succ, i64_w, i32_w]
                    rfl
                  refine take_ (i := 0) (N := some 20) (v := ?_) (a' := ?_) #[true, true, false, false, false, false, false, false, false, false, false, false, false, false, false, false, false, false, false, false, false, false, false, false, false, false, false, false] rfl rfl (take_ofW HT_.out HW_.out (by kernel_rfl)) (fun _ _ _ h => h) (Or.inl ⟨by rfl, ?_⟩) hHeld ?_ ?_
                  rotate_left
                  · rintro w' ⟨s0, s1, s2, s3, s4⟩
                    go_simp
                    with_reducible rfl
                  rotate_left
                  · simp only [Act.put, List.setIfInBounds_toArray, List.set_cons_zero, List.set_cons_succ, i64_w, i32_w]
                    rfl
                  refine one_ (i := 2) (N := some 22) #[true, true, true, false, false, false, false, false, false, false, false, false, false, false, false, false, false, false, false, false, false, false, false, false, false, false, false, false] rfl rfl (one_of HT_.out (by kernel_rfl)) (by decide) (fun K hK => ?_)
                  refine goes_ Tryd.func35 (by kernel_rfl) rfl #[.agg #[.int .i64 ((rd_T33 l0 x11_1).f0), .bool ((rd_T33 l0 x11_1).f1), .string ((rd_T33 l0 x11_1).f2), .string ((rd_T33 l0 x11_1).f3), .slice A106_4 ((rd_T33 l0 x11_1).f4).length c106_4], .int .i64 a1] (by rfl) rfl rfl (by (try simp only [List.map_toArray, List.map_cons, List.map_nil]); first | done | rfl | (simp only [List.length_drop, List.length_take]; rfl)) ?_
                  with_reducible refine (word_literal.calls k1 ((rd_T33 l0 x11_1).f0) ((rd_T33 l0 x11_1).f1) ((rd_T33 l0 x11_1).f2) ((rd_T33 l0 x11_1).f3) _ _ ((rd_T33 l0 x11_1).f4) a1 true _ ?side1 ?side2 A8.out).mono ?_
                  (case side1 => repeat (first | exact (Kd.C_below HR106_4.out HB.out) | (with_reducible refine Kd.C_alloc ?_ _) | (with_reducible refine Kd.C_drewN ?_ _) | (with_reducible refine Kd.C_drew ?_)))
                  (case side2 => exact HC106_4.out)
                  rintro e w35 ⟨rfl, hb⟩
                  refine ⟨_, rfl, ?_⟩
                  have n0_ := Aside0.mk (blk_below (g := gb107) (o := .cells #[.int .i64 ((rd_T33 l0 x11_1).f0), .bool ((rd_T33 l0 x11_1).f1), .string ((rd_T33 l0 x11_1).f2), .string ((rd_T33 l0 x11_1).f3), .slice A106_4 ((rd_T33 l0 x11_1).f4).length c106_4] 33 (0, 0)) (by (with_reducible repeat (first | refine blk_drewN ?_ _ | refine blk_drew ?_ | refine blk_alloc ?_ _)); exact BK107.out) hb)
                  have n1_ := Aside0.mk (below_step (by repeat (first | (with_reducible first | exact HB.out | apply below_alloc | apply pw_below_drewN | apply below_drew1 | refine below_set ?_ GE107.out) | exact HB.out)) hb)
                  clear BK107
                  clear HB
                  have BK107 := n0_
                  have HB := n1_
                  clear n0_ n1_
                  (try clear hb)
                  (try clear hb2)
                  (try clear hk)
                  (try clear hi)
                  refine hK.out _ _ ⟨(blk_cell BK107.out 0).trans rfl, (blk_cell BK107.out 1).trans rfl, (blk_cell BK107.out 2).trans rfl, (blk_cell BK107.out 3).trans rfl, (blk_cell BK107.out 4).trans rfl⟩ (fun hHeld => ?_)
                  clear hK K
                  refine norm_ (a' := ?_) ?_ ?_
                  rotate_left
                  · show Act.put _ (some 22) _ = _
                    simp only [Act.put, List.setIfInBounds_toArray, List.set_cons_zero, List.set_cons_succ, i64_w, i32_w]
                    rfl
                  refine pure_ (i := 3) (N := some 23) (v := ?_) (a' := ?_) #[true, true, true, true, false, false, false, false, false, false, false, false, false, false, false, false, false, false, false, false, false, false, false, false, false, false, false, false] rfl rfl (any_of HT_.out (by kernel_rfl)) (fun _ _ _ h => h) (Or.inl ⟨by rfl, ?_⟩) ?_ ?_
                  rotate_left
                  · intro w'
                    go_simp
                    with_reducible rfl
                  rotate_left
                  · simp only [Act.put, List.setIfInBounds_toArray, List.set_cons_zero, List.set_cons_succ, i64_w, i32_w]
                    rfl
                  refine pure_ (i := 4) (N := some 24) (v := ?_) (a' := ?_) #[true, true, true, true, true, false, false, false, false, false, false, false, false, false, false, false, false, false, false, false, false, false, false, false, false, false, false, false] rfl rfl (any_of HT_.out (by kernel_rfl)) (fun _ _ _ h => h) (Or.inl ⟨by rfl, ?_⟩) ?_ ?_
                  rotate_left
                  · intro w'
                    go_simp
                    with_reducible rfl
                  rotate_left
                  · simp only [Act.put, List.setIfInBounds_toArray, List.set_cons_zero, List.set_cons_succ, i64_w, i32_w]
                    rfl
                  refine pure_ (i := 5) (N := some 25) (v := ?_) (a' := ?_) #[true, true, true, true, true, true, false, false, false, false, false, false, false, false, false, false, false, false, false, false, false, false, false, false, false, false, false, false] rfl rfl (any_of HT_.out (by kernel_rfl)) (fun _ _ _ h => h) (Or.inl ⟨by rfl, ?_⟩) ?_ ?_
                  rotate_left
                  · intro w'
                    go_simp
                    with_reducible rfl
                  rotate_left
                  · simp only [Act.put, List.setIfInBounds_toArray, List.set_cons_zero, List.set_cons_succ, i64_w, i32_w]
                    rfl
                  refine pure_ (i := 6) (N := some 26) (v := ?_) (a' := ?_) #[true, true, true, true, true, true, true, false, false, false, false, false, false, false, false, false, false, false, false, false, false, false, false, false, false, false, false, false] rfl rfl (any_of HT_.out (by kernel_rfl)) (fun _ _ _ h => h) (Or.inl ⟨by rfl, ?_⟩) ?_ ?_
                  rotate_left
                  · intro w'
                    go_simp
                    with_reducible rfl
                  rotate_left
                  · simp only [Act.put, List.setIfInBounds_toArray, List.set_cons_zero, List.set_cons_succ, i64_w, i32_w]
                    rfl
                  refine pure_ (i := 7) (N := some 27) (v := ?_) (a' := ?_) #[true, true, true, true, true, true, true, true, false, false, false, false, false, false, false, false, false, false, false, false, false, false, false, false, false, false, false, false] rfl rfl (any_of HT_.out (by kernel_rfl)) (fun _ _ _ h => h) (Or.inl ⟨by rfl, ?_⟩) ?_ ?_
                  rotate_left
                  · intro w'
                    go_simp
                    with_reducible rfl
                  rotate_left
                  · simp only [Act.put, List.setIfInBounds_toArray, List.set_cons_zero, List.set_cons_succ, i64_w, i32_w]
                    rfl
                  refine pure_ (i := 8) (N := some 28) (v := undef) (a' := ?_) #[true, true, true, true, true, true, true, true, true, false, false, false, false, false, false, false, false, false, false, false, false, false, false, false, false, false, false, false] rfl rfl (any_of HT_.out (by kernel_rfl)) (fun _ _ _ h => h) (Or.inr ⟨by rfl, rfl⟩) ?_ ?_
                  rotate_left
                  · simp only [Act.put, List.setIfInBounds_toArray, List.set_cons_zero, List.set_cons_succ, i64_w, i32_w]
                    rfl
                  refine pure_ (i := 9) (N := some 29) (v := undef) (a' := ?_) #[true, true, true, true, true, true, true, true, true, true, false, false, false, false, false, false, false, false, false, false, false, false, false, false, false, false, false, false] rfl rfl (any_of HT_.out (by kernel_rfl)) (fun _ _ _ h => h) (Or.inr ⟨by rfl, rfl⟩) ?_ ?_
                  rotate_left
                  · simp only [Act.put, List.setIfInBounds_toArray, List.set_cons_zero, List.set_cons_succ, i64_w, i32_w]
                    rfl
                  refine pure_ (i := 10) (N := some 30) (v := undef) (a' := ?_) #[true, true, true, true, true, true, true, true, true, true, true, false, false, false, false, false, false, false, false, false, false, false, false, false, false, false, false, false] rfl rfl (any_of HT_.out (by kernel_rfl)) (fun _ _ _ h => h) (Or.inr ⟨by rfl, rfl⟩) ?_ ?_
                  rotate_left
                  · simp only [Act.put, List.setIfInBounds_toArray, List.set_cons_zero, List.set_cons_succ, i64_w, i32_w]
                    rfl
                  refine pure_ (i := 11) (N := some 31) (v := undef) (a' := ?_) #[true, true, true, true, true, true, true, true, true, true, true, true, false, false, false, false, false, false, false, false, false, false, false, false, false, false, false, false] rfl rfl (any_of HT_.out (by kernel_rfl)) (fun _ _ _ h => h) (Or.inr ⟨by rfl, rfl⟩) ?_ ?_
                  rotate_left
                  · simp only [Act.put, List.setIfInBounds_toArray, List.set_cons_zero, List.set_cons_succ, i64_w, i32_w]
                    rfl
                  refine pure_ (i := 12) (N := some 32) (v := undef) (a' := ?_) #[true, true, true, true, true, true, true, true, true, true, true, true, true, false, false, false, false, false, false, false, false, false, false, false, false, false, false, false] rfl rfl (any_of HT_.out (by kernel_rfl)) (fun _ _ _ h => h) (Or.inr ⟨by rfl, rfl⟩) ?_ ?_
                  rotate_left
                  · simp only [Act.put, List.setIfInBounds_toArray, List.set_cons_zero, List.set_cons_succ, i64_w, i32_w]
                    rfl
                  refine pure_ (i := 13) (N := some 33) (v := undef) (a' := ?_) #[true, true, true, true, true, true, true, true, true, true, true, true, true, true, false, false, false, false, false, false, false, false, false, false, false, false, false, false] rfl rfl (any_of HT_.out (by kernel_rfl)) (fun _ _ _ h => h) (Or.inr ⟨by rfl, rfl⟩) ?_ ?_
                  rotate_left
                  · simp only [Act.put, List.setIfInBounds_toArray, List.set_cons_zero, List.set_cons_succ, i64_w, i32_w]
                    rfl
                  refine pure_ (i := 14) (N := some 34) (v := undef) (a' := ?_) #[true, true, true, true, true, true, true, true, true, true, true, true, true, true, true, false, false, false, false, false, false, false, false, false, false, false, false, false] rfl rfl (any_of HT_.out (by kernel_rfl)) (fun _ _ _ h => h) (Or.inr ⟨by rfl, rfl⟩) ?_ ?_
                  rotate_left
                  · simp only [Act.put, List.setIfInBounds_toArray, List.set_cons_zero, List.set_cons_succ, i64_w, i32_w]
                    rfl
                  refine pure_ (i := 15) (N := some 35) (v := ?_) (a' := ?_) #[true, true, true, true, true, true, true, true, true, true, true, true, true, true, true, true, false, false, false, false, false, false, false, false, false, false, false, false] rfl rfl (any_of HT_.out (by kernel_rfl)) (fun _ _ _ h => h) (Or.inl ⟨by rfl, ?_⟩) ?_ ?_
                  rotate_left
                  · intro w'
                    go_simp
                    with_reducible rfl
                  rotate_left
                  · simp only [Act.put, List.setIfInBounds_toArray, List.set_cons_zero, List.set_cons_succ, i64_w, i32_w]
                    rfl
                  refine pure_ (i := 16) (N := some 36) (v := ?_) (a' := ?_) #[true, true, true, true, true, true, true, true, true, true, true, true, true, true, true, true, true, false, false, false, false, false, false, false, false, false, false, false] rfl rfl (any_of HT_.out (by kernel_rfl)) (fun _ _ _ h => h) (Or.inl ⟨by rfl, ?_⟩) ?_ ?_
                  rotate_left
                  · intro w'
                    go_simp
                    with_reducible rfl
                  rotate_left
                  · simp only [Act.put, List.setIfInBounds_toArray, List.set_cons_zero, List.set_cons_succ, i64_w, i32_w]
                    rfl
                  refine pure_ (i := 17) (N := some 37) (v := undef) (a' := ?_) #[true, true, true, true, true, true, true, true, true, true, true, true, true, true, true, true, true, true, false, false, false, false, false, false, false, false, false, false] rfl rfl (any_of HT_.out (by kernel_rfl)) (fun _ _ _ h => h) (Or.inr ⟨by rfl, rfl⟩) ?_ ?_
                  rotate_left
                  · simp only [Act.put, List.setIfInBounds_toArray, List.set_cons_zero, List.set_cons_succ, i64_w, i32_w]
                    rfl
                  refine pure_ (i := 18) (N := some 38) (v := undef) (a' := ?_) #[true, true, true, true, true, true, true, true, true, true, true, true, true, true, true, true, true, true, true, false, false, false, false, false, false, false, false, false] rfl rfl (any_of HT_.out (by kernel_rfl)) (fun _ _ _ h => h) (Or.inr ⟨by rfl, rfl⟩) ?_ ?_
                  rotate_left
                  · simp only [Act.put, List.setIfInBounds_toArray, List.set_cons_zero, List.set_cons_succ, i64_w, i32_w]
                    rfl
                  refine pure_ (i := 19) (N := some 39) (v := undef) (a' := ?_) #[true, true, true, true, true, true, true, true, true, true, true, true, true, true, true, true, true, true, true, true, false, false, false, false, false, false, false, false] rfl rfl (any_of HT_.out (by kernel_rfl)) (fun _ _ _ h => h) (Or.inr ⟨by rfl, rfl⟩) ?_ ?_
                  rotate_left
                  · simp only [Act.put, List.setIfInBounds_toArray, List.set_cons_zero, List.set_cons_succ, i64_w, i32_w]
                    rfl
                  refine pure_ (i := 20) (N := some 40) (v := undef) (a' := ?_) #[true, true, true, true, true, true, true, true, true, true, true, true, true, true, true, true, true, true, true, true, true, false, false, false, false, false, false, false] rfl rfl (any_of HT_.out (by kernel_rfl)) (fun _ _ _ h => h) (Or.inr ⟨by rfl, rfl⟩) ?_ ?_
                  rotate_left
                  · simp only [Act.put, List.setIfInBounds_toArray, List.set_cons_zero, List.set_cons_succ, i64_w, i32_w]
                    rfl
                  refine pure_ (i := 21) (N := some 41) (v := undef) (a' := ?_) #[true, true, true, true, true, true, true, true, true, true, true, true, true, true, true, true, true, true, true, true, true, true, false, false, false, false, false, false] rfl rfl (any_of HT_.out (by kernel_rfl)) (fun _ _ _ h => h) (Or.inr ⟨by rfl, rfl⟩) ?_ ?_
                  rotate_left
                  · simp only [Act.put, List.setIfInBounds_toArray, List.set_cons_zero, List.set_cons_succ, i64_w, i32_w]
                    rfl
                  refine pure_ (i := 22) (N := some 42) (v := undef) (a' := ?_) #[true, true, true, true, true, true, true, true, true, true, true, true, true, true, true, true, true, true, true, true, true, true, true, false, false, false, false, false] rfl rfl (any_of HT_.out (by kernel_rfl)) (fun _ _ _ h => h) (Or.inr ⟨by rfl, rfl⟩) ?_ ?_
                  rotate_left
                  · simp only [Act.put, List.setIfInBounds_toArray, List.set_cons_zero, List.set_cons_succ, i64_w, i32_w]
                    rfl
                  refine pure_ (i := 23) (N := some 43) (v := undef) (a' := ?_) #[true, true, true, true, true, true, true, true, true, true, true, true, true, true, true, true, true, true, true, true, true, true, true, true, false, false, false, false] rfl rfl (any_of HT_.out (by kernel_rfl)) (fun _ _ _ h => h) (Or.inr ⟨by rfl, rfl⟩) ?_ ?_
                  rotate_left
                  · simp only [Act.put, List.setIfInBounds_toArray, List.set_cons_zero, List.set_cons_succ, i64_w, i32_w]
                    rfl
                  refine pure_ (i := 24) (N := some 44) (v := undef) (a' := ?_) #[true, true, true, true, true, true, true, true, true, true, true, true, true, true, true, true, true, true, true, true, true, true, true, true, true, false, false, false] rfl rfl (any_of HT_.out (by kernel_rfl)) (fun _ _ _ h => h) (Or.inr ⟨by rfl, rfl⟩) ?_ ?_
                  rotate_left
                  · simp only [Act.put, List.setIfInBounds_toArray, List.set_cons_zero, List.set_cons_succ, i64_w, i32_w]
                    rfl
                  refine pure_ (i := 25) (N := some 45) (v := undef) (a' := ?_) #[true, true, true, true, true, true, true, true, true, true, true, true, true, true, true, true, true, true, true, true, true, true, true, true, true, true, false, false] rfl rfl (any_of HT_.out (by kernel_rfl)) (fun _ _ _ h => h) (Or.inr ⟨by rfl, rfl⟩) ?_ ?_
                  rotate_left
                  · simp only [Act.put, List.setIfInBounds_toArray, List.set_cons_zero, List.set_cons_succ, i64_w, i32_w]
                    rfl
                  refine pure_ (i := 26) (N := some 46) (v := ?_) (a' := ?_) #[true, true, true, true, true, true, true, true, true, true, true, true, true, true, true, true, true, true, true, true, true, true, true, true, true, true, true, false] rfl rfl (any_of HT_.out (by kernel_rfl)) (fun _ _ _ h => h) (Or.inl ⟨by rfl, ?_⟩) ?_ ?_
                  rotate_left
                  · intro w'
                    go_simp
                    with_reducible rfl
                  rotate_left
                  · simp only [Act.put, List.setIfInBounds_toArray, List.set_cons_zero, List.set_cons_succ, i64_w, i32_w]
                    rfl
                  refine pure_ (i := 27) (N := some 47) (v := ?_) (a' := ?_) #[true, true, true, true, true, true, true, true, true, true, true, true, true, true, true, true, true, true, true, true, true, true, true, true, true, true, true, true] rfl rfl (any_of HT_.out (by kernel_rfl)) (fun _ _ _ h => h) (Or.inl ⟨by rfl, ?_⟩) ?_ ?_
                  rotate_left
                  · intro w'
                    go_simp
                    with_reducible rfl
                  rotate_left
                  · simp only [Act.put, List.setIfInBounds_toArray, List.set_cons_zero, List.set_cons_succ, i64_w, i32_w]
                    rfl
                  refine done_ (done_of HT_.out (by kernel_rfl)) ?_
                  try go_wp2
                  go_roundg k1
                  case measure => have := HK1.out; omega
                  case rel => exact ⟨(wrap64 (x11_1 + 1)), (by first | rfl | (simp; done) | (simp [*]; done)), H', ⟨by have := HK1.out; omega⟩, ⟨by repeat (first | (with_reducible first | exact HB.out | apply below_alloc | apply pw_below_drewN | apply below_drew1 | refine below_set ?_ GE107.out) | exact HB.out)⟩⟩
              · replace c9 := Bool.eq_false_iff.mpr c9
                subst c9
                have H1 : (some false) = some r := by rw [if_neg (show ¬ (false = true) by decide)] at H; exact H
                clear H
                have H := H1
                clear H1
                obtain rfl := Option.some.inj H
                have p106 : 0 ≤ (x11_1 : Int) := of_decide_eq_true (by first | (with_reducible assumption) | assumption)
                have q106 : x11_1 < (l0.length : Int) := of_decide_eq_true (by first | (with_reducible assumption) | assumption)
                obtain ⟨ad106, A106_4, c106_4, e106, hx106_0, hx106_1, hx106_2, hx106_3, hx106_4, hl106_4, hi106_4⟩ := at_T33 HR0.out x11_1 p106 q106
                cases e106
                replace hx106_0 := (HB.out.cell (World.block_lt_of_cell? w _ hx106_0)).trans hx106_0
                replace hx106_1 := (HB.out.cell (World.block_lt_of_cell? w _ hx106_1)).trans hx106_1
                replace hx106_2 := (HB.out.cell (World.block_lt_of_cell? w _ hx106_2)).trans hx106_2
                replace hx106_3 := (HB.out.cell (World.block_lt_of_cell? w _ hx106_3)).trans hx106_3
                replace hx106_4 := (HB.out.cell (World.block_lt_of_cell? w _ hx106_4)).trans hx106_4
                have HR106_4 := Aside0.mk hi106_4
                have HC106_4 := Aside0.mk hl106_4
                clear hi106_4 hl106_4
                replace p106 := eq_true p106
                replace q106 := eq_true q106
                try go_wp2_with (first | ((with_reducible refine gate_dst (N := 8) rfl ?_); refine box_event ?hg (N := 8) ?hd (cs := #[.int .i64 0, .bool false, .string (⟨#[]⟩ : ByteArray), .string (⟨#[]⟩ : ByteArray), .slice none 0 0]) (t := 33) ?hr ?_; (case hd => rfl); (case hg => rfl); (case hr => first | (go_simp; done) | (go_simp; rfl)); intro gb107 hg w36 hbox hb; have n0_ := Aside0.mk (below_step (by repeat (first | (with_reducible first | exact HB.out | apply below_alloc | apply pw_below_drewN | apply below_drew1) | exact HB.out)) hb); have n1_ := Aside0.mk (hbox); have n2_ := Aside0.mk ((by rw [hg]; exact (below_size (by repeat (first | (with_reducible first | exact HB.out | apply below_alloc | apply pw_below_drewN | apply below_drew1) | exact HB.out))) : w.heap.size ≤ gb107)); have n3_ := Aside0.mk ((by rw [hg]; exact (below_size (by repeat (first | (with_reducible first | exact HB.out | apply below_alloc | apply pw_below_drewN | apply below_drew1) | exact HB.out))) : w.heap.size ≤ gb107)); clear HB; have HB := n0_; have BK107 := n1_; have GW107 := n2_; have GE107 := n3_; clear n0_ n1_ n2_ n3_; clear hb hbox hg; have hcz37_0 : w36.cell? ⟨gb107, 0, none⟩ = some (.int .i64 0) := (blk_cell BK107.out 0).trans rfl; have hcz37_1 : w36.cell? ⟨gb107, 1, none⟩ = some (.bool false) := (blk_cell BK107.out 1).trans rfl; have hcz37_2 : w36.cell? ⟨gb107, 2, none⟩ = some (.string (⟨#[]⟩ : ByteArray)) := (blk_cell BK107.out 2).trans rfl; have hcz37_3 : w36.cell? ⟨gb107, 3, none⟩ = some (.string (⟨#[]⟩ : ByteArray)) := (blk_cell BK107.out 3).trans rfl; have hcz37_4 : w36.cell? ⟨gb107, 4, none⟩ = some (.slice none 0 0) := (blk_cell BK107.out 4).trans rfl; have hfz37_0 := blk_frozen BK107.out 0; have hfz37_1 := blk_frozen BK107.out 1; have hfz37_2 := blk_frozen BK107.out 2; have hfz37_3 := blk_frozen BK107.out 3; have hfz37_4 := blk_frozen BK107.out 4))
                have n0_ : Aside0 ((((((w36.setCell ⟨gb107, 0, none⟩ (.int .i64 ((rd_T33 l0 x11_1).f0))).setCell ⟨gb107, 1, none⟩ (.bool ((rd_T33 l0 x11_1).f1))).setCell ⟨gb107, 2, none⟩ (.string ((rd_T33 l0 x11_1).f2))).setCell ⟨gb107, 3, none⟩ (.string ((rd_T33 l0 x11_1).f3))).setCell ⟨gb107, 4, none⟩ (.slice A106_4 ((rd_T33 l0 x11_1).f4).length c106_4)).heap[gb107]? = some (.cells #[.int .i64 ((rd_T33 l0 x11_1).f0), .bool ((rd_T33 l0 x11_1).f1), .string ((rd_T33 l0 x11_1).f2), .string ((rd_T33 l0 x11_1).f3), .slice A106_4 ((rd_T33 l0 x11_1).f4).length c106_4] 33 (0, 0))) := ⟨by (with_reducible repeat (first | refine blk_drewN ?_ _ | refine blk_drew ?_ | refine blk_alloc ?_ _)); refine blk_put (cs := #[.int .i64 ((rd_T33 l0 x11_1).f0), .bool ((rd_T33 l0 x11_1).f1), .string ((rd_T33 l0 x11_1).f2), .string ((rd_T33 l0 x11_1).f3), .slice none 0 0]) ?_ 4 _ rfl; (with_reducible repeat (first | refine blk_drewN ?_ _ | refine blk_drew ?_ | refine blk_alloc ?_ _)); refine blk_put (cs := #[.int .i64 ((rd_T33 l0 x11_1).f0), .bool ((rd_T33 l0 x11_1).f1), .string ((rd_T33 l0 x11_1).f2), .string (⟨#[]⟩ : ByteArray), .slice none 0 0]) ?_ 3 _ rfl; (with_reducible repeat (first | refine blk_drewN ?_ _ | refine blk_drew ?_ | refine blk_alloc ?_ _)); refine blk_put (cs := #[.int .i64 ((rd_T33 l0 x11_1).f0), .bool ((rd_T33 l0 x11_1).f1), .string (⟨#[]⟩ : ByteArray), .string (⟨#[]⟩ : ByteArray), .slice none 0 0]) ?_ 2 _ rfl; (with_reducible repeat (first | refine blk_drewN ?_ _ | refine blk_drew ?_ | refine blk_alloc ?_ _)); refine blk_put (cs := #[.int .i64 ((rd_T33 l0 x11_1).f0), .bool false, .string (⟨#[]⟩ : ByteArray), .string (⟨#[]⟩ : ByteArray), .slice none 0 0]) ?_ 1 _ rfl; (with_reducible repeat (first | refine blk_drewN ?_ _ | refine blk_drew ?_ | refine blk_alloc ?_ _)); refine blk_put (cs := #[.int .i64 0, .bool false, .string (⟨#[]⟩ : ByteArray), .string (⟨#[]⟩ : ByteArray), .slice none 0 0]) ?_ 0 _ rfl; (with_reducible repeat (first | refine blk_drewN ?_ _ | refine blk_drew ?_ | refine blk_alloc ?_ _)); exact BK107.out⟩
                have n1_ : Aside0 (Below w.heap.size w (((((w36.setCell ⟨gb107, 0, none⟩ (.int .i64 ((rd_T33 l0 x11_1).f0))).setCell ⟨gb107, 1, none⟩ (.bool ((rd_T33 l0 x11_1).f1))).setCell ⟨gb107, 2, none⟩ (.string ((rd_T33 l0 x11_1).f2))).setCell ⟨gb107, 3, none⟩ (.string ((rd_T33 l0 x11_1).f3))).setCell ⟨gb107, 4, none⟩ (.slice A106_4 ((rd_T33 l0 x11_1).f4).length c106_4))) := ⟨by repeat (first | (with_reducible first | exact HB.out | apply below_alloc | apply pw_below_drewN | apply below_drew1 | refine below_set ?_ GE107.out) | exact HB.out)⟩
                (try clear BK107)
                (try clear HB)
                generalize (((((w36.setCell ⟨gb107, 0, none⟩ (.int .i64 ((rd_T33 l0 x11_1).f0))).setCell ⟨gb107, 1, none⟩ (.bool ((rd_T33 l0 x11_1).f1))).setCell ⟨gb107, 2, none⟩ (.string ((rd_T33 l0 x11_1).f2))).setCell ⟨gb107, 3, none⟩ (.string ((rd_T33 l0 x11_1).f3))).setCell ⟨gb107, 4, none⟩ (.slice A106_4 ((rd_T33 l0 x11_1).f4).length c106_4)) = w38 at n0_ n1_ ⊢
                have BK107 := n0_
                have HB := n1_
                clear n0_ n1_
                have n0_ := Aside0.mk (blk_drew BK107.out)
                have n1_ := Aside0.mk (below_drew1 HB.out)
                clear BK107
                clear HB
                have BK107 := n0_
                have HB := n1_
                clear n0_ n1_
                refine start_ (n := 28) (S := fun w' => w'.cell? ⟨gb107, 0, none⟩ = some (.int .i64 ((rd_T33 l0 x11_1).f0)) ∧ w'.cell? ⟨gb107, 1, none⟩ = some (.bool ((rd_T33 l0 x11_1).f1)) ∧ w'.cell? ⟨gb107, 2, none⟩ = some (.string ((rd_T33 l0 x11_1).f2)) ∧ w'.cell? ⟨gb107, 3, none⟩ = some (.string ((rd_T33 l0 x11_1).f3)) ∧ w'.cell? ⟨gb107, 4, none⟩ = some (.slice A106_4 ((rd_T33 l0 x11_1).f4).length c106_4)) (ds := []) #[false, false, false, false, false, false, false, false, false, false, false, false, false, false, false, false, false, false, false, false, false, false, false, false, false, false, false, false] (by kernel_rfl) rfl rfl ⟨(blk_cell BK107.out 0).trans rfl, (blk_cell BK107.out 1).trans rfl, (blk_cell BK107.out 2).trans rfl, (blk_cell BK107.out 3).trans rfl, (blk_cell BK107.out 4).trans rfl⟩ (fun hHeld => ?_); refine with_tabW word_partsR.tab7 word_partsR.bits7 (fun HT_ HW_ => ?_)
                generalize w38.drew = w39 at BK107 HB hHeld ⊢
                refine pure_ (i := 1) (N := some 21) (v := ?_) (a' := ?_) #[false, true, false, false, false, false, false, false, false, false, false, false, false, false, false, false, false, false, false, false, false, false, false, false, false, false, false, false] rfl rfl (any_of HT_.out (by kernel_rfl)) (fun _ _ _ h => h) (Or.inl ⟨by rfl, ?_⟩) ?_ ?_
                rotate_left
                · intro w'
                  go_simp
                  with_reducible rfl
                rotate_left
                · simp only [Act.put, List.setIfInBounds_toArray, List.set_cons_zero, List.set_cons_succ, i64_w, i32_w]
                  rfl
                refine take_ (i := 0) (N := some 20) (v := ?_) (a' := ?_) #[true, true, false, false, false, false, false, false, false, false, false, false, false, false, false, false, false, false, false, false, false, false, false, false, false, false, false, false] rfl rfl (take_ofW HT_.out HW_.out (by kernel_rfl)) (fun _ _ _ h => h) (Or.inl ⟨by rfl, ?_⟩) hHeld ?_ ?_
                rotate_left
                · rintro w' ⟨s0, s1, s2, s3, s4⟩
                  go_simp
                  with_reducible rfl
                rotate_left
                · simp only [Act.put, List.setIfInBounds_toArray, List.set_cons_zero, List.set_cons_succ, i64_w, i32_w]
                  rfl
                refine one_ (i := 2) (N := some 22) #[true, true, true, false, false, false, false, false, false, false, false, false, false, false, false, false, false, false, false, false, false, false, false, false, false, false, false, false] rfl rfl (one_of HT_.out (by kernel_rfl)) (by decide) (fun K hK => ?_)
                refine goes_ Tryd.func35 (by kernel_rfl) rfl #[.agg #[.int .i64 ((rd_T33 l0 x11_1).f0), .bool ((rd_T33 l0 x11_1).f1), .string ((rd_T33 l0 x11_1).f2), .string ((rd_T33 l0 x11_1).f3), .slice A106_4 ((rd_T33 l0 x11_1).f4).length c106_4], .int .i64 a1] (by rfl) rfl rfl (by (try simp only [List.map_toArray, List.map_cons, List.map_nil]); first | done | rfl | (simp only [List.length_drop, List.length_take]; rfl)) ?_
                with_reducible refine (word_literal.calls k1 ((rd_T33 l0 x11_1).f0) ((rd_T33 l0 x11_1).f1) ((rd_T33 l0 x11_1).f2) ((rd_T33 l0 x11_1).f3) _ _ ((rd_T33 l0 x11_1).f4) a1 false _ ?side1 ?side2 A8.out).mono ?_
                (case side1 => repeat (first | exact (Kd.C_below HR106_4.out HB.out) | (with_reducible refine Kd.C_alloc ?_ _) | (with_reducible refine Kd.C_drewN ?_ _) | (with_reducible refine Kd.C_drew ?_)))
                (case side2 => exact HC106_4.out)
                rintro e w40 ⟨rfl, hb⟩
                refine ⟨_, rfl, ?_⟩
                have n0_ := Aside0.mk (blk_below (g := gb107) (o := .cells #[.int .i64 ((rd_T33 l0 x11_1).f0), .bool ((rd_T33 l0 x11_1).f1), .string ((rd_T33 l0 x11_1).f2), .string ((rd_T33 l0 x11_1).f3), .slice A106_4 ((rd_T33 l0 x11_1).f4).length c106_4] 33 (0, 0)) (by (with_reducible repeat (first | refine blk_drewN ?_ _ | refine blk_drew ?_ | refine blk_alloc ?_ _)); exact BK107.out) hb)
                have n1_ := Aside0.mk (below_step (by repeat (first | (with_reducible first | exact HB.out | apply below_alloc | apply pw_below_drewN | apply below_drew1 | refine below_set ?_ GE107.out) | exact HB.out)) hb)
                clear BK107
                clear HB
                have BK107 := n0_
                have HB := n1_
                clear n0_ n1_
                (try clear hb)
                (try clear hb2)
                (try clear hk)
                (try clear hi)
                refine hK.out _ _ ⟨(blk_cell BK107.out 0).trans rfl, (blk_cell BK107.out 1).trans rfl, (blk_cell BK107.out 2).trans rfl, (blk_cell BK107.out 3).trans rfl, (blk_cell BK107.out 4).trans rfl⟩ (fun hHeld => ?_)
                clear hK K
                refine norm_ (a' := ?_) ?_ ?_
                rotate_left
                · show Act.put _ (some 22) _ = _
                  simp only [Act.put, List.setIfInBounds_toArray, List.set_cons_zero, List.set_cons_succ, i64_w, i32_w]
                  rfl
                refine pure_ (i := 3) (N := some 23) (v := ?_) (a' := ?_) #[true, true, true, true, false, false, false, false, false, false, false, false, false, false, false, false, false, false, false, false, false, false, false, false, false, false, false, false] rfl rfl (any_of HT_.out (by kernel_rfl)) (fun _ _ _ h => h) (Or.inl ⟨by rfl, ?_⟩) ?_ ?_
                rotate_left
                · intro w'
                  go_simp
                  with_reducible rfl
                rotate_left
                · simp only [Act.put, List.setIfInBounds_toArray, List.set_cons_zero, List.set_cons_succ, i64_w, i32_w]
                  rfl
                refine pure_ (i := 4) (N := some 24) (v := ?_) (a' := ?_) #[true, true, true, true, true, false, false, false, false, false, false, false, false, false, false, false, false, false, false, false, false, false, false, false, false, false, false, false] rfl rfl (any_of HT_.out (by kernel_rfl)) (fun _ _ _ h => h) (Or.inl ⟨by rfl, ?_⟩) ?_ ?_
                rotate_left
                · intro w'
                  go_simp
                  with_reducible rfl
                rotate_left
                · simp only [Act.put, List.setIfInBounds_toArray, List.set_cons_zero, List.set_cons_succ, i64_w, i32_w]
                  rfl
                refine pure_ (i := 5) (N := some 25) (v := undef) (a' := ?_) #[true, true, true, true, true, true, false, false, false, false, false, false, false, false, false, false, false, false, false, false, false, false, false, false, false, false, false, false] rfl rfl (any_of HT_.out (by kernel_rfl)) (fun _ _ _ h => h) (Or.inr ⟨by rfl, rfl⟩) ?_ ?_
                rotate_left
                · simp only [Act.put, List.setIfInBounds_toArray, List.set_cons_zero, List.set_cons_succ, i64_w, i32_w]
                  rfl
                refine pure_ (i := 6) (N := some 26) (v := undef) (a' := ?_) #[true, true, true, true, true, true, true, false, false, false, false, false, false, false, false, false, false, false, false, false, false, false, false, false, false, false, false, false] rfl rfl (any_of HT_.out (by kernel_rfl)) (fun _ _ _ h => h) (Or.inr ⟨by rfl, rfl⟩) ?_ ?_
                rotate_left
                · simp only [Act.put, List.setIfInBounds_toArray, List.set_cons_zero, List.set_cons_succ, i64_w, i32_w]
                  rfl
                refine pure_ (i := 7) (N := some 27) (v := undef) (a' := ?_) #[true, true, true, true, true, true, true, true, false, false, false, false, false, false, false, false, false, false, false, false, false, false, false, false, false, false, false, false] rfl rfl (any_of HT_.out (by kernel_rfl)) (fun _ _ _ h => h) (Or.inr ⟨by rfl, rfl⟩) ?_ ?_
                rotate_left
                · simp only [Act.put, List.setIfInBounds_toArray, List.set_cons_zero, List.set_cons_succ, i64_w, i32_w]
                  rfl
                refine pure_ (i := 8) (N := some 28) (v := undef) (a' := ?_) #[true, true, true, true, true, true, true, true, true, false, false, false, false, false, false, false, false, false, false, false, false, false, false, false, false, false, false, false] rfl rfl (any_of HT_.out (by kernel_rfl)) (fun _ _ _ h => h) (Or.inr ⟨by rfl, rfl⟩) ?_ ?_
                rotate_left
                · simp only [Act.put, List.setIfInBounds_toArray, List.set_cons_zero, List.set_cons_succ, i64_w, i32_w]
                  rfl
                refine pure_ (i := 9) (N := some 29) (v := undef) (a' := ?_) #[true, true, true, true, true, true, true, true, true, true, false, false, false, false, false, false, false, false, false, false, false, false, false, false, false, false, false, false] rfl rfl (any_of HT_.out (by kernel_rfl)) (fun _ _ _ h => h) (Or.inr ⟨by rfl, rfl⟩) ?_ ?_
                rotate_left
                · simp only [Act.put, List.setIfInBounds_toArray, List.set_cons_zero, List.set_cons_succ, i64_w, i32_w]
                  rfl
                refine pure_ (i := 10) (N := some 30) (v := undef) (a' := ?_) #[true, true, true, true, true, true, true, true, true, true, true, false, false, false, false, false, false, false, false, false, false, false, false, false, false, false, false, false] rfl rfl (any_of HT_.out (by kernel_rfl)) (fun _ _ _ h => h) (Or.inr ⟨by rfl, rfl⟩) ?_ ?_
                rotate_left
                · simp only [Act.put, List.setIfInBounds_toArray, List.set_cons_zero, List.set_cons_succ, i64_w, i32_w]
                  rfl
                refine pure_ (i := 11) (N := some 31) (v := undef) (a' := ?_) #[true, true, true, true, true, true, true, true, true, true, true, true, false, false, false, false, false, false, false, false, false, false, false, false, false, false, false, false] rfl rfl (any_of HT_.out (by kernel_rfl)) (fun _ _ _ h => h) (Or.inr ⟨by rfl, rfl⟩) ?_ ?_
                rotate_left
                · simp only [Act.put, List.setIfInBounds_toArray, List.set_cons_zero, List.set_cons_succ, i64_w, i32_w]
                  rfl
                refine pure_ (i := 12) (N := some 32) (v := undef) (a' := ?_) #[true, true, true, true, true, true, true, true, true, true, true, true, true, false, false, false, false, false, false, false, false, false, false, false, false, false, false, false] rfl rfl (any_of HT_.out (by kernel_rfl)) (fun _ _ _ h => h) (Or.inr ⟨by rfl, rfl⟩) ?_ ?_
                rotate_left
                · simp only [Act.put, List.setIfInBounds_toArray, List.set_cons_zero, List.set_cons_succ, i64_w, i32_w]
                  rfl
                refine pure_ (i := 13) (N := some 33) (v := undef) (a' := ?_) #[true, true, true, true, true, true, true, true, true, true, true, true, true, true, false, false, false, false, false, false, false, false, false, false, false, false, false, false] rfl rfl (any_of HT_.out (by kernel_rfl)) (fun _ _ _ h => h) (Or.inr ⟨by rfl, rfl⟩) ?_ ?_
                rotate_left
                · simp only [Act.put, List.setIfInBounds_toArray, List.set_cons_zero, List.set_cons_succ, i64_w, i32_w]
                  rfl
                refine pure_ (i := 14) (N := some 34) (v := undef) (a' := ?_) #[true, true, true, true, true, true, true, true, true, true, true, true, true, true, true, false, false, false, false, false, false, false, false, false, false, false, false, false] rfl rfl (any_of HT_.out (by kernel_rfl)) (fun _ _ _ h => h) (Or.inr ⟨by rfl, rfl⟩) ?_ ?_
                rotate_left
                · simp only [Act.put, List.setIfInBounds_toArray, List.set_cons_zero, List.set_cons_succ, i64_w, i32_w]
                  rfl
                refine pure_ (i := 15) (N := some 35) (v := undef) (a' := ?_) #[true, true, true, true, true, true, true, true, true, true, true, true, true, true, true, true, false, false, false, false, false, false, false, false, false, false, false, false] rfl rfl (any_of HT_.out (by kernel_rfl)) (fun _ _ _ h => h) (Or.inr ⟨by rfl, rfl⟩) ?_ ?_
                rotate_left
                · simp only [Act.put, List.setIfInBounds_toArray, List.set_cons_zero, List.set_cons_succ, i64_w, i32_w]
                  rfl
                refine pure_ (i := 16) (N := some 36) (v := undef) (a' := ?_) #[true, true, true, true, true, true, true, true, true, true, true, true, true, true, true, true, true, false, false, false, false, false, false, false, false, false, false, false] rfl rfl (any_of HT_.out (by kernel_rfl)) (fun _ _ _ h => h) (Or.inr ⟨by rfl, rfl⟩) ?_ ?_
                rotate_left
                · simp only [Act.put, List.setIfInBounds_toArray, List.set_cons_zero, List.set_cons_succ, i64_w, i32_w]
                  rfl
                refine pure_ (i := 17) (N := some 37) (v := undef) (a' := ?_) #[true, true, true, true, true, true, true, true, true, true, true, true, true, true, true, true, true, true, false, false, false, false, false, false, false, false, false, false] rfl rfl (any_of HT_.out (by kernel_rfl)) (fun _ _ _ h => h) (Or.inr ⟨by rfl, rfl⟩) ?_ ?_
                rotate_left
                · simp only [Act.put, List.setIfInBounds_toArray, List.set_cons_zero, List.set_cons_succ, i64_w, i32_w]
                  rfl
                refine pure_ (i := 18) (N := some 38) (v := undef) (a' := ?_) #[true, true, true, true, true, true, true, true, true, true, true, true, true, true, true, true, true, true, true, false, false, false, false, false, false, false, false, false] rfl rfl (any_of HT_.out (by kernel_rfl)) (fun _ _ _ h => h) (Or.inr ⟨by rfl, rfl⟩) ?_ ?_
                rotate_left
                · simp only [Act.put, List.setIfInBounds_toArray, List.set_cons_zero, List.set_cons_succ, i64_w, i32_w]
                  rfl
                refine pure_ (i := 19) (N := some 39) (v := undef) (a' := ?_) #[true, true, true, true, true, true, true, true, true, true, true, true, true, true, true, true, true, true, true, true, false, false, false, false, false, false, false, false] rfl rfl (any_of HT_.out (by kernel_rfl)) (fun _ _ _ h => h) (Or.inr ⟨by rfl, rfl⟩) ?_ ?_
                rotate_left
                · simp only [Act.put, List.setIfInBounds_toArray, List.set_cons_zero, List.set_cons_succ, i64_w, i32_w]
                  rfl
                refine pure_ (i := 20) (N := some 40) (v := undef) (a' := ?_) #[true, true, true, true, true, true, true, true, true, true, true, true, true, true, true, true, true, true, true, true, true, false, false, false, false, false, false, false] rfl rfl (any_of HT_.out (by kernel_rfl)) (fun _ _ _ h => h) (Or.inr ⟨by rfl, rfl⟩) ?_ ?_
                rotate_left
                · simp only [Act.put, List.setIfInBounds_toArray, List.set_cons_zero, List.set_cons_succ, i64_w, i32_w]
                  rfl
                refine pure_ (i := 21) (N := some 41) (v := undef) (a' := ?_) #[true, true, true, true, true, true, true, true, true, true, true, true, true, true, true, true, true, true, true, true, true, true, false, false, false, false, false, false] rfl rfl (any_of HT_.out (by kernel_rfl)) (fun _ _ _ h => h) (Or.inr ⟨by rfl, rfl⟩) ?_ ?_
                rotate_left
                · simp only [Act.put, List.setIfInBounds_toArray, List.set_cons_zero, List.set_cons_succ, i64_w, i32_w]
                  rfl
                refine pure_ (i := 22) (N := some 42) (v := undef) (a' := ?_) #[true, true, true, true, true, true, true, true, true, true, true, true, true, true, true, true, true, true, true, true, true, true, true, false, false, false, false, false] rfl rfl (any_of HT_.out (by kernel_rfl)) (fun _ _ _ h => h) (Or.inr ⟨by rfl, rfl⟩) ?_ ?_
                rotate_left
                · simp only [Act.put, List.setIfInBounds_toArray, List.set_cons_zero, List.set_cons_succ, i64_w, i32_w]
                  rfl
                refine pure_ (i := 23) (N := some 43) (v := undef) (a' := ?_) #[true, true, true, true, true, true, true, true, true, true, true, true, true, true, true, true, true, true, true, true, true, true, true, true, false, false, false, false] rfl rfl (any_of HT_.out (by kernel_rfl)) (fun _ _ _ h => h) (Or.inr ⟨by rfl, rfl⟩) ?_ ?_
                rotate_left
                · simp only [Act.put, List.setIfInBounds_toArray, List.set_cons_zero, List.set_cons_succ, i64_w, i32_w]
                  rfl
                refine pure_ (i := 24) (N := some 44) (v := undef) (a' := ?_) #[true, true, true, true, true, true, true, true, true, true, true, true, true, true, true, true, true, true, true, true, true, true, true, true, true, false, false, false] rfl rfl (any_of HT_.out (by kernel_rfl)) (fun _ _ _ h => h) (Or.inr ⟨by rfl, rfl⟩) ?_ ?_
                rotate_left
                · simp only [Act.put, List.setIfInBounds_toArray, List.set_cons_zero, List.set_cons_succ, i64_w, i32_w]
                  rfl
                refine pure_ (i := 25) (N := some 45) (v := undef) (a' := ?_) #[true, true, true, true, true, true, true, true, true, true, true, true, true, true, true, true, true, true, true, true, true, true, true, true, true, true, false, false] rfl rfl (any_of HT_.out (by kernel_rfl)) (fun _ _ _ h => h) (Or.inr ⟨by rfl, rfl⟩) ?_ ?_
                rotate_left
                · simp only [Act.put, List.setIfInBounds_toArray, List.set_cons_zero, List.set_cons_succ, i64_w, i32_w]
                  rfl
                refine pure_ (i := 26) (N := some 46) (v := undef) (a' := ?_) #[true, true, true, true, true, true, true, true, true, true, true, true, true, true, true, true, true, true, true, true, true, true, true, true, true, true, true, false] rfl rfl (any_of HT_.out (by kernel_rfl)) (fun _ _ _ h => h) (Or.inr ⟨by rfl, rfl⟩) ?_ ?_
                rotate_left
                · simp only [Act.put, List.setIfInBounds_toArray, List.set_cons_zero, List.set_cons_succ, i64_w, i32_w]
                  rfl
                refine pure_ (i := 27) (N := some 47) (v := ?_) (a' := ?_) #[true, true, true, true, true, true, true, true, true, true, true, true, true, true, true, true, true, true, true, true, true, true, true, true, true, true, true, true] rfl rfl (any_of HT_.out (by kernel_rfl)) (fun _ _ _ h => h) (Or.inl ⟨by rfl, ?_⟩) ?_ ?_
                rotate_left
                · intro w'
                  go_simp
                  with_reducible rfl
                rotate_left
                · simp only [Act.put, List.setIfInBounds_toArray, List.set_cons_zero, List.set_cons_succ, i64_w, i32_w]
                  rfl
                refine done_ (done_of HT_.out (by kernel_rfl)) ?_
                try go_wp2
                go_ret
                exact ⟨by first | rfl | (simp [errW_none, errW_some] <;> rfl) | (simp [*, errW_none, errW_some] <;> rfl), by repeat (first | (with_reducible first | exact HB.out | apply below_alloc | apply pw_below_drewN | apply below_drew1 | refine below_set ?_ GE107.out) | exact HB.out)⟩
            · rw [if_neg c7] at H
              have c7b0 : (((rd_T33 l0 x11_1).f0) == 1) = false := beq_eq_false_iff_ne.mpr c7
              have c7b1 : (((rd_T33 l0 x11_1).f0) != 1) = true := bne_iff_ne.mpr c7
              by_cases c41 : ((rd_T33 l0 x11_1).f0) = 2
              · rw [if_pos c41] at H
                have c41b0 : (((rd_T33 l0 x11_1).f0) == 2) = true := beq_iff_eq.mpr c41
                have c41b1 : (((rd_T33 l0 x11_1).f0) != 2) = false := bne_eq_false_iff_eq.mpr c41
                clear c41
                replace H := Option.bind_eq_some_iff.mp H
                obtain ⟨t111, A420, H⟩ := H
                replace H : (if t111 = true then (word_partsR.l0 k1 l0 a1 a2 l0 (l0.length : Int) (wrap64 (x11_1 + 1))) else (some false)) = some r := H
                have A42 := Aside0.mk A420
                clear A420
                by_cases c43 : t111 = true
                · subst c43
                  have H1 : (word_partsR.l0 k1 l0 a1 a2 l0 (l0.length : Int) (wrap64 (x11_1 + 1))) = some r := by rw [if_pos rfl] at H; exact H
                  clear H
                  have H := H1
                  clear H1
                  have H' := Aside0.mk H
                  clear H
                  have p106 : 0 ≤ (x11_1 : Int) := of_decide_eq_true (by first | (with_reducible assumption) | assumption)
                  have q106 : x11_1 < (l0.length : Int) := of_decide_eq_true (by first | (with_reducible assumption) | assumption)
                  obtain ⟨ad106, A106_4, c106_4, e106, hx106_0, hx106_1, hx106_2, hx106_3, hx106_4, hl106_4, hi106_4⟩ := at_T33 HR0.out x11_1 p106 q106
                  cases e106
                  replace hx106_0 := (HB.out.cell (World.block_lt_of_cell? w _ hx106_0)).trans hx106_0
                  replace hx106_1 := (HB.out.cell (World.block_lt_of_cell? w _ hx106_1)).trans hx106_1
                  replace hx106_2 := (HB.out.cell (World.block_lt_of_cell? w _ hx106_2)).trans hx106_2
                  replace hx106_3 := (HB.out.cell (World.block_lt_of_cell? w _ hx106_3)).trans hx106_3
                  replace hx106_4 := (HB.out.cell (World.block_lt_of_cell? w _ hx106_4)).trans hx106_4
                  have HR106_4 := Aside0.mk hi106_4
                  have HC106_4 := Aside0.mk hl106_4
                  clear hi106_4 hl106_4
                  replace p106 := eq_true p106
                  replace q106 := eq_true q106
                  go_wp2_with (first | ((with_reducible refine gate_dst (N := 8) rfl ?_); refine box_event ?hg (N := 8) ?hd (cs := #[.int .i64 0, .bool false, .string (⟨#[]⟩ : ByteArray), .string (⟨#[]⟩ : ByteArray), .slice none 0 0]) (t := 33) ?hr ?_; (case hd => rfl); (case hg => rfl); (case hr => first | (go_simp; done) | (go_simp; rfl)); intro gb107 hg w44 hbox hb; have n0_ := Aside0.mk (below_step (by repeat (first | (with_reducible first | exact HB.out | apply below_alloc | apply pw_below_drewN | apply below_drew1) | exact HB.out)) hb); have n1_ := Aside0.mk (hbox); have n2_ := Aside0.mk ((by rw [hg]; exact (below_size (by repeat (first | (with_reducible first | exact HB.out | apply below_alloc | apply pw_below_drewN | apply below_drew1) | exact HB.out))) : w.heap.size ≤ gb107)); have n3_ := Aside0.mk ((by rw [hg]; exact (below_size (by repeat (first | (with_reducible first | exact HB.out | apply below_alloc | apply pw_below_drewN | apply below_drew1) | exact HB.out))) : w.heap.size ≤ gb107)); clear HB; have HB := n0_; have BK107 := n1_; have GW107 := n2_; have GE107 := n3_; clear n0_ n1_ n2_ n3_; clear hb hbox hg; have hcz45_0 : w44.cell? ⟨gb107, 0, none⟩ = some (.int .i64 0) := (blk_cell BK107.out 0).trans rfl; have hcz45_1 : w44.cell? ⟨gb107, 1, none⟩ = some (.bool false) := (blk_cell BK107.out 1).trans rfl; have hcz45_2 : w44.cell? ⟨gb107, 2, none⟩ = some (.string (⟨#[]⟩ : ByteArray)) := (blk_cell BK107.out 2).trans rfl; have hcz45_3 : w44.cell? ⟨gb107, 3, none⟩ = some (.string (⟨#[]⟩ : ByteArray)) := (blk_cell BK107.out 3).trans rfl; have hcz45_4 : w44.cell? ⟨gb107, 4, none⟩ = some (.slice none 0 0) := (blk_cell BK107.out 4).trans rfl; have hfz45_0 := blk_frozen BK107.out 0; have hfz45_1 := blk_frozen BK107.out 1; have hfz45_2 := blk_frozen BK107.out 2; have hfz45_3 := blk_frozen BK107.out 3; have hfz45_4 := blk_frozen BK107.out 4) | ((with_reducible refine gate_callee (f := 36) rfl ?_); refine goesL_ (some 53) rfl rfl Tryd.func36 (by kernel_rfl) rfl #[.agg #[.int .i64 ((rd_T33 l0 x11_1).f0), .bool ((rd_T33 l0 x11_1).f1), .string ((rd_T33 l0 x11_1).f2), .string ((rd_T33 l0 x11_1).f3), .slice A106_4 ((rd_T33 l0 x11_1).f4).length c106_4], .int .i64 a1, .int .i64 a2] rfl (by (try simp only [List.map_toArray, List.map_cons, List.map_nil]); first | done | rfl | (simp only [List.length_drop, List.length_take]; rfl)) ?_; (with_reducible refine (word_param.calls k1 ((rd_T33 l0 x11_1).f0) ((rd_T33 l0 x11_1).f1) ((rd_T33 l0 x11_1).f2) ((rd_T33 l0 x11_1).f3) _ _ ((rd_T33 l0 x11_1).f4) a1 a2 true _ ?side1 ?side2 A42.out).mono ?_); (case side1 => exact Kd.C_below HR106_4.out (by repeat (first | (with_reducible first | exact HB.out | apply below_alloc | apply pw_below_drewN | apply below_drew1 | refine below_set ?_ GE107.out) | exact HB.out))); (case side2 => exact HC106_4.out); rintro e w46 ⟨rfl, hb⟩; refine ⟨_, rfl, ?_⟩; have n0_ := Aside0.mk (blk_below (g := gb107) (o := .cells #[.int .i64 ((rd_T33 l0 x11_1).f0), .bool ((rd_T33 l0 x11_1).f1), .string ((rd_T33 l0 x11_1).f2), .string ((rd_T33 l0 x11_1).f3), .slice A106_4 ((rd_T33 l0 x11_1).f4).length c106_4] 33 (0, 0)) (by (with_reducible repeat (first | refine blk_drewN ?_ _ | refine blk_drew ?_ | refine blk_alloc ?_ _)); refine blk_put (cs := #[.int .i64 ((rd_T33 l0 x11_1).f0), .bool ((rd_T33 l0 x11_1).f1), .string ((rd_T33 l0 x11_1).f2), .string ((rd_T33 l0 x11_1).f3), .slice none 0 0]) ?_ 4 _ rfl; (with_reducible repeat (first | refine blk_drewN ?_ _ | refine blk_drew ?_ | refine blk_alloc ?_ _)); refine blk_put (cs := #[.int .i64 ((rd_T33 l0 x11_1).f0), .bool ((rd_T33 l0 x11_1).f1), .string ((rd_T33 l0 x11_1).f2), .string (⟨#[]⟩ : ByteArray), .slice none 0 0]) ?_ 3 _ rfl; (with_reducible repeat (first | refine blk_drewN ?_ _ | refine blk_drew ?_ | refine blk_alloc ?_ _)); refine blk_put (cs := #[.int .i64 ((rd_T33 l0 x11_1).f0), .bool ((rd_T33 l0 x11_1).f1), .string (⟨#[]⟩ : ByteArray), .string (⟨#[]⟩ : ByteArray), .slice none 0 0]) ?_ 2 _ rfl; (with_reducible repeat (first | refine blk_drewN ?_ _ | refine blk_drew ?_ | refine blk_alloc ?_ _)); refine blk_put (cs := #[.int .i64 ((rd_T33 l0 x11_1).f0), .bool false, .string (⟨#[]⟩ : ByteArray), .string (⟨#[]⟩ : ByteArray), .slice none 0 0]) ?_ 1 _ rfl; (with_reducible repeat (first | refine blk_drewN ?_ _ | refine blk_drew ?_ | refine blk_alloc ?_ _)); refine blk_put (cs := #[.int .i64 0, .bool false, .string (⟨#[]⟩ : ByteArray), .string (⟨#[]⟩ : ByteArray), .slice none 0 0]) ?_ 0 _ rfl; (with_reducible repeat (first | refine blk_drewN ?_ _ | refine blk_drew ?_ | refine blk_alloc ?_ _)); exact BK107.out) hb); have n1_ := Aside0.mk (below_step (by repeat (first | (with_reducible first | exact HB.out | apply below_alloc | apply pw_below_drewN | apply below_drew1 | refine below_set ?_ GE107.out) | exact HB.out)) hb); clear BK107; clear HB; have BK107 := n0_; have HB := n1_; clear n0_ n1_; (try clear hb); (try clear hb2); (try clear hk); (try clear hi)))
                  go_roundg k1
                  case measure => have := HK1.out; omega
                  case rel => exact ⟨(wrap64 (x11_1 + 1)), (by first | rfl | (simp; done) | (simp [*]; done)), H', ⟨by have := HK1.out; omega⟩, ⟨by repeat (first | (with_reducible first | exact HB.out | apply below_alloc | apply pw_below_drewN | apply below_drew1 | refine below_set ?_ GE107.out) | exact HB.out)⟩⟩
                · replace c43 := Bool.eq_false_iff.mpr c43
                  subst c43
                  have H1 : (some false) = some r := by rw [if_neg (show ¬ (false = true) by decide)] at H; exact H
                  clear H
                  have H := H1
                  clear H1
                  obtain rfl := Option.some.inj H
                  have p106 : 0 ≤ (x11_1 : Int) := of_decide_eq_true (by first | (with_reducible assumption) | assumption)
                  have q106 : x11_1 < (l0.length : Int) := of_decide_eq_true (by first | (with_reducible assumption) | assumption)
                  obtain ⟨ad106, A106_4, c106_4, e106, hx106_0, hx106_1, hx106_2, hx106_3, hx106_4, hl106_4, hi106_4⟩ := at_T33 HR0.out x11_1 p106 q106
                  cases e106
                  replace hx106_0 := (HB.out.cell (World.block_lt_of_cell? w _ hx106_0)).trans hx106_0
                  replace hx106_1 := (HB.out.cell (World.block_lt_of_cell? w _ hx106_1)).trans hx106_1
                  replace hx106_2 := (HB.out.cell (World.block_lt_of_cell? w _ hx106_2)).trans hx106_2
                  replace hx106_3 := (HB.out.cell (World.block_lt_of_cell? w _ hx106_3)).trans hx106_3
                  replace hx106_4 := (HB.out.cell (World.block_lt_of_cell? w _ hx106_4)).trans hx106_4
                  have HR106_4 := Aside0.mk hi106_4
                  have HC106_4 := Aside0.mk hl106_4
                  clear hi106_4 hl106_4
                  replace p106 := eq_true p106
                  replace q106 := eq_true q106
                  go_wp2_with (first | ((with_reducible refine gate_dst (N := 8) rfl ?_); refine box_event ?hg (N := 8) ?hd (cs := #[.int .i64 0, .bool false, .string (⟨#[]⟩ : ByteArray), .string (⟨#[]⟩ : ByteArray), .slice none 0 0]) (t := 33) ?hr ?_; (case hd => rfl); (case hg => rfl); (case hr => first | (go_simp; done) | (go_simp; rfl)); intro gb107 hg w47 hbox hb; have n0_ := Aside0.mk (below_step (by repeat (first | (with_reducible first | exact HB.out | apply below_alloc | apply pw_below_drewN | apply below_drew1) | exact HB.out)) hb); have n1_ := Aside0.mk (hbox); have n2_ := Aside0.mk ((by rw [hg]; exact (below_size (by repeat (first | (with_reducible first | exact HB.out | apply below_alloc | apply pw_below_drewN | apply below_drew1) | exact HB.out))) : w.heap.size ≤ gb107)); have n3_ := Aside0.mk ((by rw [hg]; exact (below_size (by repeat (first | (with_reducible first | exact HB.out | apply below_alloc | apply pw_below_drewN | apply below_drew1) | exact HB.out))) : w.heap.size ≤ gb107)); clear HB; have HB := n0_; have BK107 := n1_; have GW107 := n2_; have GE107 := n3_; clear n0_ n1_ n2_ n3_; clear hb hbox hg; have hcz48_0 : w47.cell? ⟨gb107, 0, none⟩ = some (.int .i64 0) := (blk_cell BK107.out 0).trans rfl; have hcz48_1 : w47.cell? ⟨gb107, 1, none⟩ = some (.bool false) := (blk_cell BK107.out 1).trans rfl; have hcz48_2 : w47.cell? ⟨gb107, 2, none⟩ = some (.string (⟨#[]⟩ : ByteArray)) := (blk_cell BK107.out 2).trans rfl; have hcz48_3 : w47.cell? ⟨gb107, 3, none⟩ = some (.string (⟨#[]⟩ : ByteArray)) := (blk_cell BK107.out 3).trans rfl; have hcz48_4 : w47.cell? ⟨gb107, 4, none⟩ = some (.slice none 0 0) := (blk_cell BK107.out 4).trans rfl; have hfz48_0 := blk_frozen BK107.out 0; have hfz48_1 := blk_frozen BK107.out 1; have hfz48_2 := blk_frozen BK107.out 2; have hfz48_3 := blk_frozen BK107.out 3; have hfz48_4 := blk_frozen BK107.out 4) | ((with_reducible refine gate_callee (f := 36) rfl ?_); refine goesL_ (some 53) rfl rfl Tryd.func36 (by kernel_rfl) rfl #[.agg #[.int .i64 ((rd_T33 l0 x11_1).f0), .bool ((rd_T33 l0 x11_1).f1), .string ((rd_T33 l0 x11_1).f2), .string ((rd_T33 l0 x11_1).f3), .slice A106_4 ((rd_T33 l0 x11_1).f4).length c106_4], .int .i64 a1, .int .i64 a2] rfl (by (try simp only [List.map_toArray, List.map_cons, List.map_nil]); first | done | rfl | (simp only [List.length_drop, List.length_take]; rfl)) ?_; (with_reducible refine (word_param.calls k1 ((rd_T33 l0 x11_1).f0) ((rd_T33 l0 x11_1).f1) ((rd_T33 l0 x11_1).f2) ((rd_T33 l0 x11_1).f3) _ _ ((rd_T33 l0 x11_1).f4) a1 a2 false _ ?side1 ?side2 A42.out).mono ?_); (case side1 => exact Kd.C_below HR106_4.out (by repeat (first | (with_reducible first | exact HB.out | apply below_alloc | apply pw_below_drewN | apply below_drew1 | refine below_set ?_ GE107.out) | exact HB.out))); (case side2 => exact HC106_4.out); rintro e w49 ⟨rfl, hb⟩; refine ⟨_, rfl, ?_⟩; have n0_ := Aside0.mk (blk_below (g := gb107) (o := .cells #[.int .i64 ((rd_T33 l0 x11_1).f0), .bool ((rd_T33 l0 x11_1).f1), .string ((rd_T33 l0 x11_1).f2), .string ((rd_T33 l0 x11_1).f3), .slice A106_4 ((rd_T33 l0 x11_1).f4).length c106_4] 33 (0, 0)) (by (with_reducible repeat (first | refine blk_drewN ?_ _ | refine blk_drew ?_ | refine blk_alloc ?_ _)); refine blk_put (cs := #[.int .i64 ((rd_T33 l0 x11_1).f0), .bool ((rd_T33 l0 x11_1).f1), .string ((rd_T33 l0 x11_1).f2), .string ((rd_T33 l0 x11_1).f3), .slice none 0 0]) ?_ 4 _ rfl; (with_reducible repeat (first | refine blk_drewN ?_ _ | refine blk_drew ?_ | refine blk_alloc ?_ _)); refine blk_put (cs := #[.int .i64 ((rd_T33 l0 x11_1).f0), .bool ((rd_T33 l0 x11_1).f1), .string ((rd_T33 l0 x11_1).f2), .string (⟨#[]⟩ : ByteArray), .slice none 0 0]) ?_ 3 _ rfl; (with_reducible repeat (first | refine blk_drewN ?_ _ | refine blk_drew ?_ | refine blk_alloc ?_ _)); refine blk_put (cs := #[.int .i64 ((rd_T33 l0 x11_1).f0), .bool ((rd_T33 l0 x11_1).f1), .string (⟨#[]⟩ : ByteArray), .string (⟨#[]⟩ : ByteArray), .slice none 0 0]) ?_ 2 _ rfl; (with_reducible repeat (first | refine blk_drewN ?_ _ | refine blk_drew ?_ | refine blk_alloc ?_ _)); refine blk_put (cs := #[.int .i64 ((rd_T33 l0 x11_1).f0), .bool false, .string (⟨#[]⟩ : ByteArray), .string (⟨#[]⟩ : ByteArray), .slice none 0 0]) ?_ 1 _ rfl; (with_reducible repeat (first | refine blk_drewN ?_ _ | refine blk_drew ?_ | refine blk_alloc ?_ _)); refine blk_put (cs := #[.int .i64 0, .bool false, .string (⟨#[]⟩ : ByteArray), .string (⟨#[]⟩ : ByteArray), .slice none 0 0]) ?_ 0 _ rfl; (with_reducible repeat (first | refine blk_drewN ?_ _ | refine blk_drew ?_ | refine blk_alloc ?_ _)); exact BK107.out) hb); have n1_ := Aside0.mk (below_step (by repeat (first | (with_reducible first | exact HB.out | apply below_alloc | apply pw_below_drewN | apply below_drew1 | refine below_set ?_ GE107.out) | exact HB.out)) hb); clear BK107; clear HB; have BK107 := n0_; have HB := n1_; clear n0_ n1_; (try clear hb); (try clear hb2); (try clear hk); (try clear hi)))
                  go_ret
                  exact ⟨by first | rfl | (simp [errW_none, errW_some] <;> rfl) | (simp [*, errW_none, errW_some] <;> rfl), by repeat (first | (with_reducible first | exact HB.out | apply below_alloc | apply pw_below_drewN | apply below_drew1 | refine below_set ?_ GE107.out) | exact HB.out)⟩
              · rw [if_neg c41] at H
                have c41b0 : (((rd_T33 l0 x11_1).f0) == 2) = false := beq_eq_false_iff_ne.mpr c41
                have c41b1 : (((rd_T33 l0 x11_1).f0) != 2) = true := bne_iff_ne.mpr c41
                obtain rfl := Option.some.inj H
                have p106 : 0 ≤ (x11_1 : Int) := of_decide_eq_true (by first | (with_reducible assumption) | assumption)
                have q106 : x11_1 < (l0.length : Int) := of_decide_eq_true (by first | (with_reducible assumption) | assumption)
                obtain ⟨ad106, A106_4, c106_4, e106, hx106_0, hx106_1, hx106_2, hx106_3, hx106_4, hl106_4, hi106_4⟩ := at_T33 HR0.out x11_1 p106 q106
                cases e106
                replace hx106_0 := (HB.out.cell (World.block_lt_of_cell? w _ hx106_0)).trans hx106_0
                replace hx106_1 := (HB.out.cell (World.block_lt_of_cell? w _ hx106_1)).trans hx106_1
                replace hx106_2 := (HB.out.cell (World.block_lt_of_cell? w _ hx106_2)).trans hx106_2
                replace hx106_3 := (HB.out.cell (World.block_lt_of_cell? w _ hx106_3)).trans hx106_3
                replace hx106_4 := (HB.out.cell (World.block_lt_of_cell? w _ hx106_4)).trans hx106_4
                have HR106_4 := Aside0.mk hi106_4
                have HC106_4 := Aside0.mk hl106_4
                clear hi106_4 hl106_4
                replace p106 := eq_true p106
                replace q106 := eq_true q106
                go_wp2_with (first | ((with_reducible refine gate_dst (N := 8) rfl ?_); refine box_event ?hg (N := 8) ?hd (cs := #[.int .i64 0, .bool false, .string (⟨#[]⟩ : ByteArray), .string (⟨#[]⟩ : ByteArray), .slice none 0 0]) (t := 33) ?hr ?_; (case hd => rfl); (case hg => rfl); (case hr => first | (go_simp; done) | (go_simp; rfl)); intro gb107 hg w50 hbox hb; have n0_ := Aside0.mk (below_step (by repeat (first | (with_reducible first | exact HB.out | apply below_alloc | apply pw_below_drewN | apply below_drew1) | exact HB.out)) hb); have n1_ := Aside0.mk (hbox); have n2_ := Aside0.mk ((by rw [hg]; exact (below_size (by repeat (first | (with_reducible first | exact HB.out | apply below_alloc | apply pw_below_drewN | apply below_drew1) | exact HB.out))) : w.heap.size ≤ gb107)); have n3_ := Aside0.mk ((by rw [hg]; exact (below_size (by repeat (first | (with_reducible first | exact HB.out | apply below_alloc | apply pw_below_drewN | apply below_drew1) | exact HB.out))) : w.heap.size ≤ gb107)); clear HB; have HB := n0_; have BK107 := n1_; have GW107 := n2_; have GE107 := n3_; clear n0_ n1_ n2_ n3_; clear hb hbox hg; have hcz51_0 : w50.cell? ⟨gb107, 0, none⟩ = some (.int .i64 0) := (blk_cell BK107.out 0).trans rfl; have hcz51_1 : w50.cell? ⟨gb107, 1, none⟩ = some (.bool false) := (blk_cell BK107.out 1).trans rfl; have hcz51_2 : w50.cell? ⟨gb107, 2, none⟩ = some (.string (⟨#[]⟩ : ByteArray)) := (blk_cell BK107.out 2).trans rfl; have hcz51_3 : w50.cell? ⟨gb107, 3, none⟩ = some (.string (⟨#[]⟩ : ByteArray)) := (blk_cell BK107.out 3).trans rfl; have hcz51_4 : w50.cell? ⟨gb107, 4, none⟩ = some (.slice none 0 0) := (blk_cell BK107.out 4).trans rfl; have hfz51_0 := blk_frozen BK107.out 0; have hfz51_1 := blk_frozen BK107.out 1; have hfz51_2 := blk_frozen BK107.out 2; have hfz51_3 := blk_frozen BK107.out 3; have hfz51_4 := blk_frozen BK107.out 4))
                go_ret
                exact ⟨by first | rfl | (simp [errW_none, errW_some] <;> rfl) | (simp [*, errW_none, errW_some] <;> rfl), by repeat (first | (with_reducible first | exact HB.out | apply below_alloc | apply pw_below_drewN | apply below_drew1 | refine below_set ?_ GE107.out) | exact HB.out)⟩
          · rw [if_neg c6] at H
            exact absurd H (by simp)
        · rw [if_neg c5] at H
          exact absurd H (by simp)
      · rw [if_neg c4] at H
        have c4b0 : decide (x11_1 < (l0.length : Int)) = false := decide_eq_false c4
        clear c4
        obtain rfl := Option.some.inj H
        go_wp2
        go_ret
        exact ⟨by first | rfl | (simp [errW_none, errW_some] <;> rfl) | (simp [*, errW_none, errW_some] <;> rfl), by repeat (first | (with_reducible first | exact HB.out | apply below_alloc | apply pw_below_drewN | apply below_drew1) | exact HB.out)⟩
end
end Go.Proofs.YtkecpfjmdokieaaDoor.P
namespace Go.Proofs.YtkecpfjmdokieaaDoor.Word
open Go.RowKit Go.Proofs.YtkecpfjmdokieaaDoorW.PrintWords Go.Proofs.YtkecpfjmdokieaaDoorW.PrintLast Go.Proofs.YtkecpfjmdokieaaDoor.Base Go.Proofs.YtkecpfjmdokieaaDoor.P Go.Proofs.YtkecpfjmdokieaaDoor.NodeOps Go.Proofs.YtkecpfjmdokieaaDoor.Class
set_option linter.unusedVariables false
set_option linter.unusedSimpArgs false
theorem toList_extract (s : ByteArray) (i j : Nat) : (s.extract i j).toList = (s.toList.drop i).take (j - i) := by
  rw [Go.Lib.toList_data, Go.Lib.toList_data, ByteArray.data_extract, Array.toList_extract]
theorem size_toList (s : ByteArray) : s.size = s.toList.length := by rw [Go.Lib.toList_data, data_length]
def trimC : List UInt8 → List UInt8
  | [] => []
  | b :: l => if b = 58 then l else b :: l
theorem trim_ev (s : ByteArray) : ∃ t : ByteArray, strings_TrimPrefix.f s ⟨#[58]⟩ = some t ∧ t.toList = trimC s.toList := by
  unfold strings_TrimPrefix.f stringslite_TrimPrefix.f stringslite_HasPrefix.f
  have h1 : ((⟨#[58]⟩ : ByteArray).size : Int) = 1 := rfl
  rw [h1]
  have hz := size_toList s
  cases hl : s.toList with
  | nil =>
    rw [hl] at hz
    rw [if_neg (by rw [hz]; decide), Option.bind_some, if_neg (by decide)]
    exact ⟨s, rfl, hl⟩
  | cons b l =>
    rw [hl] at hz
    have hp : (s.size : Int) ≥ 1 := by rw [hz, List.length_cons]; omega
    have he : (s.extract 0 ((1 : Int) : Int).toNat).toList = [b] := by rw [toList_extract, hl]; rfl
    rw [if_pos hp, if_pos (by omega), if_pos (by omega), he, Option.bind_some]
    have h58 : (⟨#[58]⟩ : ByteArray).toList = [58] := by rw [Go.Lib.toList_data]
    rw [h58]
    by_cases hb : b = 58
    · subst hb
      rw [if_pos (by rfl), if_pos (by omega), if_pos (by omega)]
      refine ⟨_, rfl, ?_⟩
      rw [toList_extract, hl]
      show (List.drop 1 (58 :: l)).take (s.size - 1) = _
      rw [List.drop_one, List.tail_cons, List.take_of_length_le (by rw [hz]; simp)]
      rfl
    · rw [if_neg (by simpa using hb)]
      refine ⟨s, rfl, ?_⟩
      rw [hl]
      show b :: l = if b = 58 then l else b :: l
      rw [if_neg hb]
def SG : List (List UInt8) := [[45], [61], [43], [63]]
theorem has_ev (t : ByteArray) : Ev (fun k => slices_Contains_string_string.f k [⟨#[45]⟩, ⟨#[61]⟩, ⟨#[43]⟩, ⟨#[63]⟩] t) (decide (t.toList ∈ SG)) := by
  refine ⟨5, fun k hk => ?_⟩
  obtain ⟨k, rfl⟩ : ∃ j, k = j + 1 + 1 + 1 + 1 + 1 := ⟨k - 5, by omega⟩
  show slices_Contains_string_string.f (k + 1 + 1 + 1 + 1 + 1) _ t = _
  unfold slices_Contains_string_string.f slices_Index_string_string.f
  have w1 : wrap64 ((0 : Int) + 1) = 1 := by unfold wrap64; omega
  have w2 : wrap64 ((1 : Int) + 1) = 2 := by unfold wrap64; omega
  have w3 : wrap64 ((2 : Int) + 1) = 3 := by unfold wrap64; omega
  have w4 : wrap64 ((3 : Int) + 1) = 4 := by unfold wrap64; omega
  have e0 : (rdOf ByteArray.empty [(⟨#[45]⟩ : ByteArray), ⟨#[61]⟩, ⟨#[43]⟩, ⟨#[63]⟩] 0).toList = [45] := by
    rw [show rdOf ByteArray.empty [(⟨#[45]⟩ : ByteArray), ⟨#[61]⟩, ⟨#[43]⟩, ⟨#[63]⟩] 0 = ⟨#[45]⟩ from rfl, Go.Lib.toList_data]
  have e1 : (rdOf ByteArray.empty [(⟨#[45]⟩ : ByteArray), ⟨#[61]⟩, ⟨#[43]⟩, ⟨#[63]⟩] 1).toList = [61] := by
    rw [show rdOf ByteArray.empty [(⟨#[45]⟩ : ByteArray), ⟨#[61]⟩, ⟨#[43]⟩, ⟨#[63]⟩] 1 = ⟨#[61]⟩ from rfl, Go.Lib.toList_data]
  have e2 : (rdOf ByteArray.empty [(⟨#[45]⟩ : ByteArray), ⟨#[61]⟩, ⟨#[43]⟩, ⟨#[63]⟩] 2).toList = [43] := by
    rw [show rdOf ByteArray.empty [(⟨#[45]⟩ : ByteArray), ⟨#[61]⟩, ⟨#[43]⟩, ⟨#[63]⟩] 2 = ⟨#[43]⟩ from rfl, Go.Lib.toList_data]
  have e3 : (rdOf ByteArray.empty [(⟨#[45]⟩ : ByteArray), ⟨#[61]⟩, ⟨#[43]⟩, ⟨#[63]⟩] 3).toList = [63] := by
    rw [show rdOf ByteArray.empty [(⟨#[45]⟩ : ByteArray), ⟨#[61]⟩, ⟨#[43]⟩, ⟨#[63]⟩] 3 = ⟨#[63]⟩ from rfl, Go.Lib.toList_data]
  have hn : (([(⟨#[45]⟩ : ByteArray), ⟨#[61]⟩, ⟨#[43]⟩, ⟨#[63]⟩].length : Nat) : Int) = 4 := rfl
  rw [hn]
  rw [slices_Index_string_string.l0, hn, if_pos (show (0 : Int) < 4 by decide), if_pos (show (0 : Int) ≤ 0 by decide), if_pos (show (0 : Int) < 4 by decide), e0, w1]
  rw [slices_Index_string_string.l0, hn, if_pos (show (1 : Int) < 4 by decide), if_pos (show (0 : Int) ≤ 1 by decide), if_pos (show (1 : Int) < 4 by decide), e1, w2]
  rw [slices_Index_string_string.l0, hn, if_pos (show (2 : Int) < 4 by decide), if_pos (show (0 : Int) ≤ 2 by decide), if_pos (show (2 : Int) < 4 by decide), e2, w3]
  rw [slices_Index_string_string.l0, hn, if_pos (show (3 : Int) < 4 by decide), if_pos (show (0 : Int) ≤ 3 by decide), if_pos (show (3 : Int) < 4 by decide), e3, w4]
  rw [slices_Index_string_string.l0, if_neg (show ¬ (4 : Int) < 4 by decide)]
  unfold SG
  generalize t.toList = l
  by_cases a0 : l = [45]
  · subst a0; rfl
  · by_cases a1 : l = [61]
    · subst a1; rfl
    · by_cases a2 : l = [43]
      · subst a2; rfl
      · by_cases a3 : l = [63]
        · subst a3; rfl
        · rw [if_neg a0, if_neg a1, if_neg a2, if_neg a3, decide_eq_false (by simp [a0, a1, a2, a3])]
          rfl
theorem ops_trim (l : List UInt8) : decide (l ∈ OPS) = (decide (trimC l ∈ SG) && !decide (2 < l.length)) := by
  rcases l with _ | ⟨a, _ | ⟨b, _ | ⟨c, l⟩⟩⟩
  · decide
  · by_cases h : a = 58
    · subst h; decide
    · have e : trimC [a] = [a] := if_neg h
      rw [e, Bool.eq_iff_iff]
      simp [OPS, SG]
      try (constructor <;> (rintro (h | h | h | h) <;> simp [h]))
  · by_cases h : a = 58
    · subst h
      have e : trimC [58, b] = [b] := by simp [trimC]
      rw [e, Bool.eq_iff_iff]
      simp [OPS, SG]
    · have e : trimC [a, b] = [a, b] := if_neg h
      rw [e, Bool.eq_iff_iff]
      simp [OPS, SG, h]
  · simp [OPS]
theorem suf_ev (s : ByteArray) (h : opB s = true) : strings_HasSuffix.f s ⟨#[61]⟩ = some (eqOp s) := by
  unfold strings_HasSuffix.f stringslite_HasSuffix.f eqOp
  have h1 : ((⟨#[61]⟩ : ByteArray).size : Int) = 1 := rfl
  have h61 : (⟨#[61]⟩ : ByteArray).toList = [61] := by rw [Go.Lib.toList_data]
  have hz := size_toList s
  unfold opB at h
  have h := of_decide_eq_true h
  rw [h1, h61]
  have hpos : 1 ≤ s.size ∧ s.size ≤ 2 := by
    rw [hz]
    unfold OPS at h
    simp only [List.mem_cons, List.not_mem_nil, or_false] at h
    rcases h with h | h | h | h | h | h | h | h <;> rw [h] <;> decide
  have hw : wrap64 ((s.size : Int) - 1) = ((s.size - 1 : Nat) : Int) := by unfold wrap64; omega
  rw [if_pos (by omega), hw, if_pos (by omega), if_pos (by omega), toList_extract, Option.bind_some, Int.toNat_natCast, hz]
  unfold OPS at h
  simp only [List.mem_cons, List.not_mem_nil, or_false] at h
  rcases h with h | h | h | h | h | h | h | h <;> rw [h] <;> rfl
section
variable (x : Pt) (at_ deep : Int) (sub : Int → List Pt → Bool)
theorem p2_ev (hz : x.f2.size ≤ 1000000) (ho : opB x.f3 = true) (hdp : wrap64 (deep + 1) = deep + 1) (hs : word_parts.f x.f4 (nextI x.f1) (deep + 1) = some (sub (nextI x.f1) x.f4)) :
    Ev (fun k => word_param.j2 k deep (nextI x.f1) false x.f0 x.f1 x.f2 x.f3 x.f4) (if eqOp x.f3 = true ∧ nameB x.f2 = false then false else sub (nextI x.f1) x.f4) := by
  have hN : class_Name.f x.f2 = some (nameB x.f2) := by unfold class_Name.f; rw [if_pos (by omega)]
  refine now fun k => ?_
  rw [word_param.j2, if_neg (by decide), suf_ev _ ho, Option.bind_some, hN, hdp, hs]
  cases eqOp x.f3 <;> cases nameB x.f2 <;> simp
theorem p1_ev (hz : x.f2.size ≤ 1000000) (hdp : wrap64 (deep + 1) = deep + 1) (hs : word_parts.f x.f4 (nextI x.f1) (deep + 1) = some (sub (nextI x.f1) x.f4)) :
    Ev (fun k => word_param.j1 k deep (nextI x.f1) false x.f0 x.f1 x.f2 x.f3 x.f4) (if x.f3.size = 0 then decide (x.f4.length = 0) else if opB x.f3 = false then false else if eqOp x.f3 = true ∧ nameB x.f2 = false then false else sub (nextI x.f1) x.f4) := by
  by_cases h3 : x.f3.size = 0
  · rw [if_pos h3]
    refine now fun k => ?_
    rw [word_param.j1, if_neg (by decide), if_pos ((toList_nil _).2 h3)]
    congr 1
    rw [Bool.eq_iff_iff, beq_iff_eq, decide_eq_true_iff]
    omega
  · rw [if_neg h3]
    obtain ⟨t, ht, hl⟩ := trim_ev x.f3
    have hh := has_ev t
    have hop : opB x.f3 = (decide (t.toList ∈ SG) && !decide (2 < x.f3.toList.length)) := by unfold opB; rw [hl]; exact ops_trim _
    have hz3 := size_toList x.f3
    have bad : Ev (fun k => word_param.j2 k deep (nextI x.f1) true x.f0 x.f1 x.f2 x.f3 x.f4) false := now fun k => by rw [word_param.j2, if_pos rfl]
    cases hb : decide (t.toList ∈ SG) with
    | false =>
      rw [hb] at hh hop
      rw [hop, Bool.false_and, if_pos rfl]
      refine via hh bad fun k hk => ?_
      show word_param.j1 (k + 1) deep (nextI x.f1) false x.f0 x.f1 x.f2 x.f3 x.f4 = _
      rw [word_param.j1, if_neg (by decide), if_neg (fun e => h3 ((toList_nil _).1 e)), ht, Option.bind_some, hk, Option.bind_some, if_neg (by decide)]
    | true =>
      rw [hb] at hh hop
      rw [Bool.true_and] at hop
      by_cases h2 : 2 < x.f3.size
      · rw [decide_eq_true (by omega)] at hop
        rw [hop, if_pos (by rfl)]
        refine via hh bad fun k hk => ?_
        show word_param.j1 (k + 1) deep (nextI x.f1) false x.f0 x.f1 x.f2 x.f3 x.f4 = _
        rw [word_param.j1, if_neg (by decide), if_neg (fun e => h3 ((toList_nil _).1 e)), ht, Option.bind_some, hk, Option.bind_some, if_pos rfl, decide_eq_true (by omega)]
      · rw [decide_eq_false (by omega)] at hop
        rw [hop, if_neg (by decide)]
        refine via hh (p2_ev x deep sub hz hop hdp hs) fun k hk => ?_
        show word_param.j1 (k + 1) deep (nextI x.f1) false x.f0 x.f1 x.f2 x.f3 x.f4 = _
        rw [word_param.j1, if_neg (by decide), if_neg (fun e => h3 ((toList_nil _).1 e)), ht, Option.bind_some, hk, Option.bind_some, if_pos rfl, decide_eq_false (by omega)]
theorem param_ev (hz : x.f2.size ≤ 1000000) (hd0 : 0 ≤ deep) (hd1 : deep ≤ 201) (hs : deep ≤ 200 → word_parts.f x.f4 (nextI x.f1) (deep + 1) = some (sub (nextI x.f1) x.f4)) :
    Ev (fun k => word_param.f k x.f0 x.f1 x.f2 x.f3 x.f4 at_ deep) (parB sub (decide (deep ≤ 200)) at_ x) := by
  have hP : class_Param.f x.f2 = some (paramB x.f2) := by unfold class_Param.f; rw [if_pos (by omega)]
  have hdp : wrap64 (deep + 1) = deep + 1 := by unfold wrap64; omega
  refine via2 (f := fun k => word_param.j0 k at_ deep (nextI x.f1) x.f0 x.f1 x.f2 x.f3 x.f4) ?_ (fun k => by unfold word_param.f nextI; cases x.f1 <;> rfl)
  have bad : Ev (fun k => word_param.j1 k deep (nextI x.f1) true x.f0 x.f1 x.f2 x.f3 x.f4) false := now fun k => by rw [word_param.j1, if_pos rfl]
  unfold parB
  by_cases hd : deep ≤ 200
  · rw [decide_eq_true hd, if_neg (by decide)]
    have h1 := p1_ev x deep sub hz hdp (hs hd)
    by_cases h2 : at_ = 2
    · cases hq : x.f1 with
      | true =>
        rw [hq] at h1 bad
        rw [if_neg (show ¬ (at_ = 2 ∧ true = false) by simp)]
        cases hp : paramB x.f2 with
        | true =>
          rw [if_neg (by decide)]
          refine step h1 fun k => ?_
          rw [word_param.j0, if_neg (by omega), if_pos h2, if_pos rfl, hP, Option.bind_some, hp]
          rfl
        | false =>
          rw [if_pos rfl]
          refine step bad fun k => ?_
          rw [word_param.j0, if_neg (by omega), if_pos h2, if_pos rfl, hP, Option.bind_some, hp]
          rfl
      | false =>
        rw [hq] at bad
        rw [if_pos (show at_ = 2 ∧ false = false from ⟨h2, rfl⟩), ite_self]
        refine step bad fun k => ?_
        rw [word_param.j0, if_neg (by omega), if_pos h2, if_neg (by decide)]
    · rw [if_neg (show ¬ (at_ = 2 ∧ x.f1 = false) from fun h => h2 h.1)]
      cases hp : paramB x.f2 with
      | true =>
        rw [if_neg (by decide)]
        refine step h1 fun k => ?_
        rw [word_param.j0, if_neg (by omega), if_neg h2, hP, Option.bind_some, hp]
        rfl
      | false =>
        rw [if_pos rfl]
        refine step bad fun k => ?_
        rw [word_param.j0, if_neg (by omega), if_neg h2, hP, Option.bind_some, hp]
        rfl
  · rw [decide_eq_false hd, if_pos rfl]
    refine step bad fun k => ?_
    rw [word_param.j0, if_pos (by omega)]
end
section
variable (l : List Pt) (at_ deep : Int) (i : Nat) (c : Bool)
noncomputable abbrev ContR : Nat → Option Bool := fun k => word_partsR.l0 k l at_ deep l (l.length : Int) ((i + 1 : Nat) : Int)
theorem elR_ev (hc : Ev (ContR l at_ deep i) c) (hi : i < l.length) (hln : l.length ≤ 1000000) (hd0 : 0 ≤ deep) (hd1 : deep ≤ 201) (hz : (rd_T33 l (i : Int)).f2.size ≤ 1000000) (sub : Int → List Pt → Bool)
    (hs : deep ≤ 200 → word_parts.f (rd_T33 l (i : Int)).f4 (nextI (rd_T33 l (i : Int)).f1) (deep + 1) = some (sub (nextI (rd_T33 l (i : Int)).f1) (rd_T33 l (i : Int)).f4)) :
    Ev (fun k => word_partsR.l0 k l at_ deep l (l.length : Int) (i : Int)) (okI sub (decide (deep ≤ 200)) at_ l i && c) := by
  have hw : wrap64 ((i : Int) + 1) = ((i + 1 : Nat) : Int) := by unfold wrap64; omega
  have hwm : wrap64 ((i : Int) - 1) = (i : Int) - 1 := by unfold wrap64; omega
  unfold okI
  by_cases h1 : (rd_T33 l (i : Int)).f0 = 1
  · rw [if_pos h1]
    have ht := lit_ev at_ (rd_T33 l (i : Int)) hz
    have e0 : ∀ k b, word_literal.f k (rd_T33 l (i : Int)).f0 (rd_T33 l (i : Int)).f1 (rd_T33 l (i : Int)).f2 (rd_T33 l (i : Int)).f3 (rd_T33 l (i : Int)).f4 at_ = some b → word_partsR.l0 (k + 1) l at_ deep l (l.length : Int) (i : Int) = if b = true then (if adjB l i = true then some false else ContR l at_ deep i k) else some false := by
      intro k b hk
      rw [word_partsR.l0, if_pos (by omega), if_pos (by omega), if_pos (by omega), if_pos h1, hk, Option.bind_some, hw, hwm]
      cases b with
      | false => rfl
      | true =>
        rw [if_pos rfl, if_pos rfl]
        unfold adjB
        by_cases h0 : 0 < i
        · rw [if_pos (by omega), if_pos (by omega), if_pos (by omega), decide_eq_true h0, Bool.true_and]
          by_cases hp : (rd_T33 l ((i : Int) - 1)).f0 = 1
          · rw [if_pos hp, decide_eq_true hp, Bool.true_and]
          · rw [if_neg hp, decide_eq_false hp, Bool.false_and]
            rfl
        · rw [if_neg (by omega), decide_eq_false h0, Bool.false_and]
          rfl
    cases hb : litB at_ (rd_T33 l (i : Int)) with
    | false =>
      rw [hb] at ht
      exact via ht (r := _) (h' := fun _ => some false) (by simp; exact ⟨0, fun _ _ => rfl⟩) fun k hk => by
        show word_partsR.l0 (k + 1) l at_ deep l (l.length : Int) (i : Int) = _
        rw [e0 k _ hk, if_neg (by decide)]
    | true =>
      rw [hb] at ht
      cases had : adjB l i with
      | true =>
        exact via ht (r := _) (h' := fun _ => some false) (by simp; exact ⟨0, fun _ _ => rfl⟩) fun k hk => by
          show word_partsR.l0 (k + 1) l at_ deep l (l.length : Int) (i : Int) = _
          rw [e0 k _ hk, if_pos rfl, had, if_pos rfl]
      | false =>
        exact via ht (by simpa using hc) fun k hk => by
          show word_partsR.l0 (k + 1) l at_ deep l (l.length : Int) (i : Int) = _
          rw [e0 k _ hk, if_pos rfl, had, if_neg (by decide)]
  · rw [if_neg h1]
    by_cases h2 : (rd_T33 l (i : Int)).f0 = 2
    · rw [if_pos h2]
      have hp := param_ev (rd_T33 l (i : Int)) at_ deep sub hz hd0 hd1 hs
      have e0 : ∀ k b, word_param.f k (rd_T33 l (i : Int)).f0 (rd_T33 l (i : Int)).f1 (rd_T33 l (i : Int)).f2 (rd_T33 l (i : Int)).f3 (rd_T33 l (i : Int)).f4 at_ deep = some b → word_partsR.l0 (k + 1) l at_ deep l (l.length : Int) (i : Int) = if b = true then ContR l at_ deep i k else some false := by
        intro k b hk
        rw [word_partsR.l0, if_pos (by omega), if_pos (by omega), if_pos (by omega), if_neg h1, if_pos h2, hk, Option.bind_some, hw]
      cases hb : parB sub (decide (deep ≤ 200)) at_ (rd_T33 l (i : Int)) with
      | false =>
        rw [hb] at hp
        exact via hp (r := _) (h' := fun _ => some false) (by simp; exact ⟨0, fun _ _ => rfl⟩) fun k hk => by
          show word_partsR.l0 (k + 1) l at_ deep l (l.length : Int) (i : Int) = _
          rw [e0 k _ hk, if_neg (by decide)]
      | true =>
        rw [hb] at hp
        exact via hp (by simpa using hc) fun k hk => by
          show word_partsR.l0 (k + 1) l at_ deep l (l.length : Int) (i : Int) = _
          rw [e0 k _ hk, if_pos rfl]
    · rw [if_neg h2, Bool.false_and]
      refine now fun k => ?_
      rw [word_partsR.l0, if_pos (by omega), if_pos (by omega), if_pos (by omega), if_neg h1, if_neg h2]
end
theorem partsOk : ∀ (n : Nat), n ≤ 201 → ∀ (l : List Pt) (at_ : Int), wt l ≤ 1000000 → PartsOk l at_ (201 - (n : Int)) (partsF n at_ l) := by
  have all : ∀ (l : List Pt) (at_ deep : Int) (ok : Nat → Bool), l.length ≤ 1000000 → (∀ i, i < l.length → ∀ c, Ev (ContR l at_ deep i) c → Ev (fun k => word_partsR.l0 k l at_ deep l (l.length : Int) (i : Int)) (ok i && c)) → ∀ (d i : Nat), l.length - i = d → i ≤ l.length → Ev (fun k => word_partsR.l0 k l at_ deep l (l.length : Int) (i : Int)) (allI ok i d) := by
    intro l at_ deep ok hln hel d
    induction d with
    | zero =>
      intro i hd hi
      refine now fun k => ?_
      rw [word_partsR.l0, if_neg (by omega)]
      rfl
    | succ d ih =>
      intro i hd hi
      exact hel i (by omega) _ (ih (i + 1) (by omega) (by omega))
  have fin : ∀ (l : List Pt) (at_ deep : Int) (r : Bool), Ev (fun k => word_partsR.f k l at_ deep) r → PartsOk l at_ deep r := by
    intro l at_ deep r ⟨k, hk⟩ A c w hr hc
    exact word_partsR.calls k A c l at_ deep r w hr hc (hk k (Nat.le_refl _))
  intro n
  induction n with
  | zero =>
    intro _ l at_ hw
    have hln := wt_len l
    refine fin _ _ _ _ (via2 (all l at_ (201 - ((0 : Nat) : Int)) (okI (fun _ _ => false) false at_ l) (by omega) (fun i hi c hc => ?_) l.length 0 (by omega) (Nat.zero_le _)) fun k => by rw [word_partsR.f]; rfl)
    have hm : rd_T33 l (i : Int) ∈ l := by rw [rd_in l i hi]; exact List.getElem_mem hi
    have := wt_in hm
    have h := elR_ev l at_ (201 - ((0 : Nat) : Int)) i c hc hi (by omega) (by omega) (by omega) (by omega) (fun _ _ => false) (fun h => absurd h (by omega))
    rwa [decide_eq_false (by omega)] at h
  | succ n ih =>
    intro hn l at_ hw
    have hln := wt_len l
    refine fin _ _ _ _ (via2 (all l at_ (201 - ((n + 1 : Nat) : Int)) (okI (partsF n) true at_ l) (by omega) (fun i hi c hc => ?_) l.length 0 (by omega) (Nat.zero_le _)) fun k => by rw [word_partsR.f]; rfl)
    have hm : rd_T33 l (i : Int) ∈ l := by rw [rd_in l i hi]; exact List.getElem_mem hi
    have := wt_in hm
    have h := elR_ev l at_ (201 - ((n + 1 : Nat) : Int)) i c hc hi (by omega) (by omega) (by omega) (by omega) (partsF n) (fun h => by
      have e : (201 : Int) - ((n + 1 : Nat) : Int) + 1 = 201 - (n : Int) := by omega
      rw [e]
      have h2 := word_parts.of (rd_T33 l (i : Int)).f4 (nextI (rd_T33 l (i : Int)).f1) (201 - (n : Int))
      have e2 : ((201 : Int) - (201 - (n : Int))).toNat = n := by omega
      rw [e2] at h2
      exact h2 (ih (by omega) _ _ (by omega)))
    rwa [decide_eq_true (by omega)] at h
end Go.Proofs.YtkecpfjmdokieaaDoor.Word
namespace Go.Proofs.YtkecpfjmdokieaaDoor.Word
open Go.RowKit Go.Proofs.YtkecpfjmdokieaaDoorW.PrintWords Go.Proofs.YtkecpfjmdokieaaDoorW.PrintLast Go.Proofs.YtkecpfjmdokieaaDoor.Base Go.Proofs.YtkecpfjmdokieaaDoor.Seq Go.Proofs.YtkecpfjmdokieaaDoor.P Go.Proofs.YtkecpfjmdokieaaDoor.NodeOps
set_option linter.unusedVariables false
set_option linter.unusedSimpArgs false
set_option maxHeartbeats 4000000 in
set_option maxRecDepth 100000 in
theorem text_q (t : ByteArray) (ht : t.size ≤ 1000000) (A : Option Addr) (c : Nat) (w : World) (hr : Kd.C k33 w A 1 [ptQ t]) {m : Int} (hm : w.cell? ⟨0, 0, none⟩ = some (.int .i64 m)) :
    Calls Tryd.prog 12 #[.slice A 1 c] w fun e w' => e = .returned (.string (quoteS t)) ∧ Below w.heap.size w w' := by
  have HR := Aside0.mk hr
  have HM := Aside0.mk hm
  have HT := Aside0.mk ht
  have HQ := Aside0.mk (show (quoteS t).data.toList ≠ [] by unfold quoteS; simp)
  have HQ2 := Aside0.mk (show (⟨(quoteS t).data.toList.toArray⟩ : ByteArray) = quoteS t by rfl)
  clear hr hm ht
  go_enter Tryd.func12, Tryd.ntmps12
  go_upto_region 4 with (go_at_call 10; (with_reducible refine (value_q t A c _ HR.out).mono ?_); rintro e w1 ⟨rfl, hB⟩; have HB := Aside0.mk hB; clear hB)
  have hal := below_alloc (Below.refl w1.heap.size w1) (.cells #[.pointer none, .slice none 0 0] 49)
  have HBD := Aside0.mk (BuilderW.Bld_new (B := w.heap.size) (blk_new w1 (.cells #[.pointer none, .slice none 0 0] 49)) HB.out.size)
  have HB2 := Aside0.mk (HB.out.trans (hal.mono HB.out.size))
  clear hal
  generalize w1.alloc (.cells #[.pointer none, .slice none 0 0] 49) = w2 at *
  generalize w1.heap.size = b at *
  go_wp2_with (first
    | (go_at_call 25; (with_reducible refine (write_q t HT.out A c w.heap.size b _ (Kd.C_below HR.out HB2.out) HBD.out HB2.out.size (pw_cell_below HB2.out HM.out)).mono ?_); rintro e w3 ⟨rfl, hb3, hB3⟩; have HBD3 := Aside0.mk hb3; have HB3 := Aside0.mk (HB2.out.trans hB3); clear hb3 hB3)
    | (go_at_call 26; go_loud (with_reducible refine (BuilderW.string_any w.heap.size b _ _ HBD3.out HQ.out).mono ?_); rintro e w4 ⟨rfl, hB4⟩; have HB4 := Aside0.mk (HB3.out.trans hB4); clear hB4))
  go_ret
  exact ⟨rfl, HB4.out⟩
theorem of_any (t : ByteArray) (w : World) : Calls Tryd.prog 19 #[.string t] w fun e w' => ∃ A c, e = .returned (.slice A 1 c) ∧ Kd.C k33 w' A 1 [ptQ t] ∧ 1 ≤ c ∧ Below w.heap.size w w' := by
  refine (word_Of.calls t [ptQ t] w rfl).mono ?_
  rintro e w' ⟨v, rfl, hR, hB⟩
  obtain ⟨A, n, c, rfl⟩ := R_slice3 hR
  obtain ⟨e1, e2, e3⟩ := Kd.R_reads' hR
  obtain rfl : n = 1 := e1
  exact ⟨A, c, rfl, e3, e2, hB⟩
set_option maxHeartbeats 4000000 in
set_option maxRecDepth 100000 in
theorem alive_any (w : World) {m : Int} (hm : w.cell? ⟨0, 0, none⟩ = some (.int .i64 m)) :
    Calls Tryd.prog 6 #[] w fun e w' => e = .returned (.bool true) ∧ Below w.heap.size w w' := by
  have HM := Aside0.mk hm
  have HQ := Aside0.mk (show quoteS ⟨#[97, 32, 98]⟩ = ⟨#[39, 97, 32, 98, 39]⟩ by kernel_rfl)
  have HBw := Aside0.mk (Below.refl w.heap.size w)
  clear hm
  go_enter Tryd.func6, Tryd.ntmps6
  go_wp2_with (first
    | (go_at_call 19; go_loud (with_reducible refine (of_any ⟨#[97, 32, 98]⟩ _).mono ?_); rintro e w1 ⟨A1, c1, rfl, hC, hc, hB⟩; have HC1 := Aside0.mk hC; have HBn := Aside0.mk (HBw.out.trans (below_sub hB HBw.out.size)); clear HBw hC hc hB; have HBw := HBn; clear HBn)
    | (go_at_call 12; go_loud (with_reducible refine (text_q ⟨#[97, 32, 98]⟩ (by decide) A1 c1 _ HC1.out (pw_cell_below HBw.out HM.out)).mono ?_); rintro e w2 ⟨rfl, hB⟩; rw [HQ.out]; have HBn := Aside0.mk (HBw.out.trans (below_sub hB HBw.out.size)); clear HBw hB; have HBw := HBn; clear HBn)
    | (go_at_call 8; go_loud (with_reducible refine (right_q ⟨#[97, 32, 98]⟩ A1 c1 _ HC1.out).mono ?_); rintro e w4 ⟨rfl, hB⟩; have HBn := Aside0.mk (HBw.out.trans (below_sub hB HBw.out.size)); clear HBw hB; have HBw := HBn; clear HBn))
  go_ret
  exact ⟨rfl, HBw.out⟩
end Go.Proofs.YtkecpfjmdokieaaDoor.Word
namespace Go.Proofs.YtkecpfjmdokieaaDoor.Word
open Go.RowKit Go.Proofs.YtkecpfjmdokieaaDoorW.PrintWords Go.Proofs.YtkecpfjmdokieaaDoorW.PrintLast Go.Proofs.YtkecpfjmdokieaaDoor.P Go.Proofs.YtkecpfjmdokieaaDoor.NodeOps
set_option linter.unusedVariables false
set_option linter.unusedSimpArgs false
noncomputable def eqL (a b : List Pt) : Bool := @decide (a = b) (Classical.propDecidable _)
theorem eqL_yes {a b : List Pt} (h : a = b) : eqL a b = true := by unfold eqL; exact @decide_eq_true _ (Classical.propDecidable _) h
theorem eqL_no {a b : List Pt} (h : a ≠ b) : eqL a b = false := by unfold eqL; exact @decide_eq_false _ (Classical.propDecidable _) h
theorem eqL_is {a b : List Pt} : eqL a b = true ↔ a = b := by unfold eqL; exact @decide_eq_true_iff _ (Classical.propDecidable _)
theorem bytes_eq {a b : ByteArray} (h : a.toList = b.toList) : a = b := by
  rw [ByteArray.toList_eq, ByteArray.toList_eq] at h
  cases a; cases b
  simp only at h
  congr 1
  exact Array.toList_inj.1 h
theorem eq_at {a b : List Pt} (hl : a.length = b.length) (h : ∀ i, i < a.length → rd_T33 a (i : Int) = rd_T33 b (i : Int)) : a = b := by
  refine List.ext_getElem hl fun i h1 h2 => ?_
  have := h i h1
  rwa [rd_in a i h1, rd_in b i h2] at this
theorem ne_at {a b : List Pt} (i : Nat) (h : rd_T33 a (i : Int) ≠ rd_T33 b (i : Int)) : a ≠ b := fun e => h (by rw [e])
end Go.Proofs.YtkecpfjmdokieaaDoor.Word
namespace Go.Proofs.YtkecpfjmdokieaaDoor.P
open Go.RowKit Go.Proofs.YtkecpfjmdokieaaDoorW.PrintWords Go.Proofs.YtkecpfjmdokieaaDoorW.PrintLast Go.Proofs.YtkecpfjmdokieaaDoor.NodeOps
set_option linter.unusedVariables false
def SameOk (l l' : List S33) (r : Bool) : Prop := ∀ (A : Option Addr) (c : Nat) (B : Option Addr) (d : Nat) (w : World), Kd.C k33 w A l.length l → l.length ≤ c → Kd.C k33 w B l'.length l' → l'.length ≤ d → Calls Tryd.prog 14 #[.slice A l.length c, .slice B l'.length d] w fun e w' => e = .returned (.bool r) ∧ Below w.heap.size w w'
open Classical in
noncomputable def word_Same.f (l l' : List S33) : Option Bool := if SameOk l l' (Word.eqL l l') then some (Word.eqL l l') else none
theorem word_Same.calls (A : Option Addr) (c : Nat) (l : List S33) (B : Option Addr) (d : Nat) (l' : List S33) (r : Bool) (w : World) (hr : Kd.C k33 w A l.length l) (hc : l.length ≤ c) (hr2 : Kd.C k33 w B l'.length l') (hd : l'.length ≤ d) (h : word_Same.f l l' = some r) :
    Calls Tryd.prog 14 #[.slice A l.length c, .slice B l'.length d] w fun e w' => e = .returned (.bool r) ∧ Below w.heap.size w w' := by
  unfold word_Same.f at h
  split at h
  · rename_i h1
    injection h with h
    subst h
    exact h1 A c B d w hr hc hr2 hd
  · cases h
theorem word_Same.of (l l' : List S33) (h : SameOk l l' (Word.eqL l l')) : word_Same.f l l' = some (Word.eqL l l') := by
  unfold word_Same.f
  rw [if_pos h]
end Go.Proofs.YtkecpfjmdokieaaDoor.P
namespace Go.Proofs.YtkecpfjmdokieaaDoor.P
noncomputable section
open Go.RowKit Go.Proofs.YtkecpfjmdokieaaDoorW.PrintWords Go.Proofs.YtkecpfjmdokieaaDoorW.PrintLast Go.Proofs.YtkecpfjmdokieaaDoorW.PrintMore
attribute [local go_sem] max2_int min2_int max_two min_two max_three min_three max_four min_four   -- for this text's walks alone
set_option linter.unusedVariables false
set_option linter.unusedSimpArgs false
def word_same.f (a0_0 : Int) (a0_1 : Bool) (a0_2 : ByteArray) (a0_3 : ByteArray) (l0_4 : List (S33)) (a1_0 : Int) (a1_1 : Bool) (a1_2 : ByteArray) (a1_3 : ByteArray) (l1_4 : List (S33)) : Option (Bool) := if a0_0 = a1_0 then (if (a0_1 == a1_1) = true then (if a0_2.toList = a1_2.toList then (if a0_3.toList = a1_3.toList then ((word_Same.f l0_4 l1_4).bind fun t129 => (some t129)) else (some false)) else (some false)) else (some false)) else (some false)
set_option maxHeartbeats 8000000 in
set_option maxRecDepth 100000 in
theorem word_same.calls (a0_0 : Int) (a0_1 : Bool) (a0_2 : ByteArray) (a0_3 : ByteArray) (A0_4 : Option Addr) (c0_4 : Nat) (l0_4 : List (S33)) (a1_0 : Int) (a1_1 : Bool) (a1_2 : ByteArray) (a1_3 : ByteArray) (A1_4 : Option Addr) (c1_4 : Nat) (l1_4 : List (S33)) (r : Bool) (w : World) (hr0_4 : Kd.C k33 w A0_4 l0_4.length l0_4) (hc0_4 : l0_4.length ≤ c0_4) (hr1_4 : Kd.C k33 w A1_4 l1_4.length l1_4) (hc1_4 : l1_4.length ≤ c1_4) (h : word_same.f a0_0 a0_1 a0_2 a0_3 l0_4 a1_0 a1_1 a1_2 a1_3 l1_4 = some r) :
    Calls Tryd.prog 29 #[.agg #[.int .i64 a0_0, .bool a0_1, .string a0_2, .string a0_3, .slice A0_4 l0_4.length c0_4], .agg #[.int .i64 a1_0, .bool a1_1, .string a1_2, .string a1_3, .slice A1_4 l1_4.length c1_4]] w fun e w' => e = .returned (.bool r) ∧ Below w.heap.size w w' := by
  have hu33 := Tryd.underlying33
  have HR0_4 := Aside0.mk hr0_4
  have HC0_4 := Aside0.mk hc0_4
  clear hr0_4 hc0_4
  have HR1_4 := Aside0.mk hr1_4
  have HC1_4 := Aside0.mk hc1_4
  clear hr1_4 hc1_4
  have HB := Aside0.mk (Below.refl w.heap.size w)
  have H : (if a0_0 = a1_0 then (if (a0_1 == a1_1) = true then (if a0_2.toList = a1_2.toList then (if a0_3.toList = a1_3.toList then ((word_Same.f l0_4 l1_4).bind fun t129 => (some t129)) else (some false)) else (some false)) else (some false)) else (some false)) = some r := h
  clear h
  by_cases c3 : a0_0 = a1_0
  · rw [if_pos c3] at H
    have c3b0 : (a0_0 == a1_0) = true := beq_iff_eq.mpr c3
    have c3b1 : (a0_0 != a1_0) = false := bne_eq_false_iff_eq.mpr c3
    clear c3
    by_cases c4 : (a0_1 == a1_1) = true
    · rw [if_pos c4] at H
      have c4b0 : (a0_1 == a1_1) = true := c4
      (try (have c4b1 : decide (a0_1 = a1_1) = true := by simpa using c4))
      (try (have c4b2 : (a0_1 == a1_1) = true := by simpa using c4))
      clear c4
      by_cases c5 : a0_2.toList = a1_2.toList
      · rw [if_pos c5] at H
        have c5b0 : (a0_2.toList == a1_2.toList) = true := beq_iff_eq.mpr c5
        have c5b1 : (a0_2.toList != a1_2.toList) = false := bne_eq_false_iff_eq.mpr c5
        clear c5
        by_cases c6 : a0_3.toList = a1_3.toList
        · rw [if_pos c6] at H
          have c6b0 : (a0_3.toList == a1_3.toList) = true := beq_iff_eq.mpr c6
          have c6b1 : (a0_3.toList != a1_3.toList) = false := bne_eq_false_iff_eq.mpr c6
          clear c6
          replace H := Option.bind_eq_some_iff.mp H
          obtain ⟨t129, A70, H⟩ := H
          replace H : (some t129) = some r := H
          have A7 := Aside0.mk A70
          clear A70
          obtain rfl := Option.some.inj H
          go_enter Tryd.func29, Tryd.ntmps29
          go_wp2_with (first | ((with_reducible refine gate_dst (N := 2) rfl ?_); refine box_event ?hg (N := 2) ?hd (cs := #[.int .i64 a0_0, .bool a0_1, .string a0_2, .string a0_3, .slice A0_4 l0_4.length c0_4]) (t := 33) ?hr ?_; (case hd => rfl); (case hg => rfl); (case hr => first | (go_simp; done) | (go_simp; rfl)); intro gb127 hg w8 hbox hb; have n0_ := Aside0.mk (below_step (by repeat (first | (with_reducible first | exact HB.out | apply below_alloc | apply pw_below_drewN | apply below_drew1) | exact HB.out)) hb); have n1_ := Aside0.mk (hbox); have n2_ := Aside0.mk ((by rw [hg]; exact (below_size (by repeat (first | (with_reducible first | exact HB.out | apply below_alloc | apply pw_below_drewN | apply below_drew1) | exact HB.out))) : w.heap.size ≤ gb127)); have n3_ := Aside0.mk ((by rw [hg]; exact (below_size (by repeat (first | (with_reducible first | exact HB.out | apply below_alloc | apply pw_below_drewN | apply below_drew1) | exact HB.out))) : w.heap.size ≤ gb127)); clear HB; have HB := n0_; have BK127 := n1_; have GW127 := n2_; have GE127 := n3_; clear n0_ n1_ n2_ n3_; clear hb hbox hg) | ((with_reducible refine gate_dst (N := 3) rfl ?_); refine box_event ?hg (N := 3) ?hd (cs := #[.int .i64 a1_0, .bool a1_1, .string a1_2, .string a1_3, .slice A1_4 l1_4.length c1_4]) (t := 33) ?hr ?_; (case hd => rfl); (case hg => rfl); (case hr => first | (go_simp; done) | (go_simp; rfl)); intro gb128 hg w9 hbox hb; have n0_ := Aside0.mk (blk_below (g := gb127) (o := .cells #[.int .i64 a0_0, .bool a0_1, .string a0_2, .string a0_3, .slice A0_4 l0_4.length c0_4] 33 (0, 0)) (by (with_reducible repeat (first | refine blk_drewN ?_ _ | refine blk_drew ?_ | refine blk_alloc ?_ _)); exact BK127.out) hb); have n1_ := Aside0.mk (below_step (by repeat (first | (with_reducible first | exact HB.out | apply below_alloc | apply pw_below_drewN | apply below_drew1 | refine below_set ?_ GE127.out) | exact HB.out)) hb); have n2_ := Aside0.mk (hbox); have n3_ := Aside0.mk ((by rw [hg]; exact (below_size (by repeat (first | (with_reducible first | exact HB.out | apply below_alloc | apply pw_below_drewN | apply below_drew1 | refine below_set ?_ GE127.out) | exact HB.out))) : w.heap.size ≤ gb128)); have n4_ := Aside0.mk ((by rw [hg]; exact (below_size (by repeat (first | (with_reducible first | exact HB.out | apply below_alloc | apply pw_below_drewN | apply below_drew1 | refine below_set ?_ GE127.out) | exact HB.out))) : w.heap.size ≤ gb128)); have n5_ := Aside0.mk ((by rw [hg]; exact Nat.ne_of_lt (blk_lt (g := gb127) (o := .cells #[.int .i64 a0_0, .bool a0_1, .string a0_2, .string a0_3, .slice A0_4 l0_4.length c0_4] 33 (0, 0)) (by (with_reducible repeat (first | refine blk_drewN ?_ _ | refine blk_drew ?_ | refine blk_alloc ?_ _)); exact BK127.out)) : gb127 ≠ gb128)); have n6_ := Aside0.mk ((by rw [hg]; exact Nat.ne_of_gt (blk_lt (g := gb127) (o := .cells #[.int .i64 a0_0, .bool a0_1, .string a0_2, .string a0_3, .slice A0_4 l0_4.length c0_4] 33 (0, 0)) (by (with_reducible repeat (first | refine blk_drewN ?_ _ | refine blk_drew ?_ | refine blk_alloc ?_ _)); exact BK127.out)) : gb128 ≠ gb127)); clear BK127; clear HB; have BK127 := n0_; have HB := n1_; have BK128 := n2_; have GW128 := n3_; have GE128 := n4_; have NB127_128 := n5_; have NB128_127 := n6_; clear n0_ n1_ n2_ n3_ n4_ n5_ n6_; clear hb hbox hg; have hnb10 := NB127_128.out; have hnc10 := NB128_127.out; have hcz11_0 : w9.cell? ⟨gb127, 0, none⟩ = some (.int .i64 a0_0) := (blk_cell BK127.out 0).trans rfl; have hcz11_1 : w9.cell? ⟨gb127, 1, none⟩ = some (.bool a0_1) := (blk_cell BK127.out 1).trans rfl; have hcz11_2 : w9.cell? ⟨gb127, 2, none⟩ = some (.string a0_2) := (blk_cell BK127.out 2).trans rfl; have hcz11_3 : w9.cell? ⟨gb127, 3, none⟩ = some (.string a0_3) := (blk_cell BK127.out 3).trans rfl; have hcz11_4 : w9.cell? ⟨gb127, 4, none⟩ = some (.slice A0_4 l0_4.length c0_4) := (blk_cell BK127.out 4).trans rfl; have hfz11_0 := blk_frozen BK127.out 0; have hfz11_1 := blk_frozen BK127.out 1; have hfz11_2 := blk_frozen BK127.out 2; have hfz11_3 := blk_frozen BK127.out 3; have hfz11_4 := blk_frozen BK127.out 4; have hcz12_0 : w9.cell? ⟨gb128, 0, none⟩ = some (.int .i64 a1_0) := (blk_cell BK128.out 0).trans rfl; have hcz12_1 : w9.cell? ⟨gb128, 1, none⟩ = some (.bool a1_1) := (blk_cell BK128.out 1).trans rfl; have hcz12_2 : w9.cell? ⟨gb128, 2, none⟩ = some (.string a1_2) := (blk_cell BK128.out 2).trans rfl; have hcz12_3 : w9.cell? ⟨gb128, 3, none⟩ = some (.string a1_3) := (blk_cell BK128.out 3).trans rfl; have hcz12_4 : w9.cell? ⟨gb128, 4, none⟩ = some (.slice A1_4 l1_4.length c1_4) := (blk_cell BK128.out 4).trans rfl; have hfz12_0 := blk_frozen BK128.out 0; have hfz12_1 := blk_frozen BK128.out 1; have hfz12_2 := blk_frozen BK128.out 2; have hfz12_3 := blk_frozen BK128.out 3; have hfz12_4 := blk_frozen BK128.out 4) | (go_at_call 14; (with_reducible refine (word_Same.calls _ _ l0_4 _ _ l1_4 t129 _ ?side1 ?side2 ?side3 ?side4 A7.out).mono ?_); (case side1 => repeat (first | exact (Kd.C_below HR0_4.out HB.out) | (with_reducible refine Kd.C_alloc ?_ _) | (with_reducible refine Kd.C_drewN ?_ _) | (with_reducible refine Kd.C_drew ?_))); (case side2 => exact HC0_4.out); (case side3 => repeat (first | exact (Kd.C_below HR1_4.out HB.out) | (with_reducible refine Kd.C_alloc ?_ _) | (with_reducible refine Kd.C_drewN ?_ _) | (with_reducible refine Kd.C_drew ?_))); (case side4 => exact HC1_4.out); rintro e w13 ⟨rfl, hb⟩; have n0_ := Aside0.mk (blk_below (g := gb127) (o := .cells #[.int .i64 a0_0, .bool a0_1, .string a0_2, .string a0_3, .slice A0_4 l0_4.length c0_4] 33 (0, 0)) (by (with_reducible repeat (first | refine blk_drewN ?_ _ | refine blk_drew ?_ | refine blk_alloc ?_ _)); exact BK127.out) hb); have n1_ := Aside0.mk (blk_below (g := gb128) (o := .cells #[.int .i64 a1_0, .bool a1_1, .string a1_2, .string a1_3, .slice A1_4 l1_4.length c1_4] 33 (0, 0)) (by (with_reducible repeat (first | refine blk_drewN ?_ _ | refine blk_drew ?_ | refine blk_alloc ?_ _)); exact BK128.out) hb); have n2_ := Aside0.mk (below_step (by repeat (first | (with_reducible first | exact HB.out | apply below_alloc | apply pw_below_drewN | apply below_drew1 | refine below_set ?_ GE127.out | refine below_set ?_ GE128.out) | exact HB.out)) hb); clear BK127; clear BK128; clear HB; have BK127 := n0_; have BK128 := n1_; have HB := n2_; clear n0_ n1_ n2_; (try clear hb); (try clear hb2); (try clear hk); (try clear hi)))
          go_ret
          exact ⟨by first | rfl | (simp [errW_none, errW_some] <;> rfl) | (simp [*, errW_none, errW_some] <;> rfl), by repeat (first | (with_reducible first | exact HB.out | apply below_alloc | apply pw_below_drewN | apply below_drew1 | refine below_set ?_ GE127.out | refine below_set ?_ GE128.out) | exact HB.out)⟩
        · rw [if_neg c6] at H
          have c6b0 : (a0_3.toList == a1_3.toList) = false := beq_eq_false_iff_ne.mpr c6
          have c6b1 : (a0_3.toList != a1_3.toList) = true := bne_iff_ne.mpr c6
          obtain rfl := Option.some.inj H
          go_enter Tryd.func29, Tryd.ntmps29
          go_wp2_with (first | ((with_reducible refine gate_dst (N := 2) rfl ?_); refine box_event ?hg (N := 2) ?hd (cs := #[.int .i64 a0_0, .bool a0_1, .string a0_2, .string a0_3, .slice A0_4 l0_4.length c0_4]) (t := 33) ?hr ?_; (case hd => rfl); (case hg => rfl); (case hr => first | (go_simp; done) | (go_simp; rfl)); intro gb127 hg w14 hbox hb; have n0_ := Aside0.mk (below_step (by repeat (first | (with_reducible first | exact HB.out | apply below_alloc | apply pw_below_drewN | apply below_drew1) | exact HB.out)) hb); have n1_ := Aside0.mk (hbox); have n2_ := Aside0.mk ((by rw [hg]; exact (below_size (by repeat (first | (with_reducible first | exact HB.out | apply below_alloc | apply pw_below_drewN | apply below_drew1) | exact HB.out))) : w.heap.size ≤ gb127)); have n3_ := Aside0.mk ((by rw [hg]; exact (below_size (by repeat (first | (with_reducible first | exact HB.out | apply below_alloc | apply pw_below_drewN | apply below_drew1) | exact HB.out))) : w.heap.size ≤ gb127)); clear HB; have HB := n0_; have BK127 := n1_; have GW127 := n2_; have GE127 := n3_; clear n0_ n1_ n2_ n3_; clear hb hbox hg) | ((with_reducible refine gate_dst (N := 3) rfl ?_); refine box_event ?hg (N := 3) ?hd (cs := #[.int .i64 a1_0, .bool a1_1, .string a1_2, .string a1_3, .slice A1_4 l1_4.length c1_4]) (t := 33) ?hr ?_; (case hd => rfl); (case hg => rfl); (case hr => first | (go_simp; done) | (go_simp; rfl)); intro gb128 hg w15 hbox hb; have n0_ := Aside0.mk (blk_below (g := gb127) (o := .cells #[.int .i64 a0_0, .bool a0_1, .string a0_2, .string a0_3, .slice A0_4 l0_4.length c0_4] 33 (0, 0)) (by (with_reducible repeat (first | refine blk_drewN ?_ _ | refine blk_drew ?_ | refine blk_alloc ?_ _)); exact BK127.out) hb); have n1_ := Aside0.mk (below_step (by repeat (first | (with_reducible first | exact HB.out | apply below_alloc | apply pw_below_drewN | apply below_drew1 | refine below_set ?_ GE127.out) | exact HB.out)) hb); have n2_ := Aside0.mk (hbox); have n3_ := Aside0.mk ((by rw [hg]; exact (below_size (by repeat (first | (with_reducible first | exact HB.out | apply below_alloc | apply pw_below_drewN | apply below_drew1 | refine below_set ?_ GE127.out) | exact HB.out))) : w.heap.size ≤ gb128)); have n4_ := Aside0.mk ((by rw [hg]; exact (below_size (by repeat (first | (with_reducible first | exact HB.out | apply below_alloc | apply pw_below_drewN | apply below_drew1 | refine below_set ?_ GE127.out) | exact HB.out))) : w.heap.size ≤ gb128)); have n5_ := Aside0.mk ((by rw [hg]; exact Nat.ne_of_lt (blk_lt (g := gb127) (o := .cells #[.int .i64 a0_0, .bool a0_1, .string a0_2, .string a0_3, .slice A0_4 l0_4.length c0_4] 33 (0, 0)) (by (with_reducible repeat (first | refine blk_drewN ?_ _ | refine blk_drew ?_ | refine blk_alloc ?_ _)); exact BK127.out)) : gb127 ≠ gb128)); have n6_ := Aside0.mk ((by rw [hg]; exact Nat.ne_of_gt (blk_lt (g := gb127) (o := .cells #[.int .i64 a0_0, .bool a0_1, .string a0_2, .string a0_3, .slice A0_4 l0_4.length c0_4] 33 (0, 0)) (by (with_reducible repeat (first | refine blk_drewN ?_ _ | refine blk_drew ?_ | refine blk_alloc ?_ _)); exact BK127.out)) : gb128 ≠ gb127)); clear BK127; clear HB; have BK127 := n0_; have HB := n1_; have BK128 := n2_; have GW128 := n3_; have GE128 := n4_; have NB127_128 := n5_; have NB128_127 := n6_; clear n0_ n1_ n2_ n3_ n4_ n5_ n6_; clear hb hbox hg; have hnb16 := NB127_128.out; have hnc16 := NB128_127.out; have hcz17_0 : w15.cell? ⟨gb127, 0, none⟩ = some (.int .i64 a0_0) := (blk_cell BK127.out 0).trans rfl; have hcz17_1 : w15.cell? ⟨gb127, 1, none⟩ = some (.bool a0_1) := (blk_cell BK127.out 1).trans rfl; have hcz17_2 : w15.cell? ⟨gb127, 2, none⟩ = some (.string a0_2) := (blk_cell BK127.out 2).trans rfl; have hcz17_3 : w15.cell? ⟨gb127, 3, none⟩ = some (.string a0_3) := (blk_cell BK127.out 3).trans rfl; have hcz17_4 : w15.cell? ⟨gb127, 4, none⟩ = some (.slice A0_4 l0_4.length c0_4) := (blk_cell BK127.out 4).trans rfl; have hfz17_0 := blk_frozen BK127.out 0; have hfz17_1 := blk_frozen BK127.out 1; have hfz17_2 := blk_frozen BK127.out 2; have hfz17_3 := blk_frozen BK127.out 3; have hfz17_4 := blk_frozen BK127.out 4; have hcz18_0 : w15.cell? ⟨gb128, 0, none⟩ = some (.int .i64 a1_0) := (blk_cell BK128.out 0).trans rfl; have hcz18_1 : w15.cell? ⟨gb128, 1, none⟩ = some (.bool a1_1) := (blk_cell BK128.out 1).trans rfl; have hcz18_2 : w15.cell? ⟨gb128, 2, none⟩ = some (.string a1_2) := (blk_cell BK128.out 2).trans rfl; have hcz18_3 : w15.cell? ⟨gb128, 3, none⟩ = some (.string a1_3) := (blk_cell BK128.out 3).trans rfl; have hcz18_4 : w15.cell? ⟨gb128, 4, none⟩ = some (.slice A1_4 l1_4.length c1_4) := (blk_cell BK128.out 4).trans rfl; have hfz18_0 := blk_frozen BK128.out 0; have hfz18_1 := blk_frozen BK128.out 1; have hfz18_2 := blk_frozen BK128.out 2; have hfz18_3 := blk_frozen BK128.out 3; have hfz18_4 := blk_frozen BK128.out 4))
          go_ret
          exact ⟨by first | rfl | (simp [errW_none, errW_some] <;> rfl) | (simp [*, errW_none, errW_some] <;> rfl), by repeat (first | (with_reducible first | exact HB.out | apply below_alloc | apply pw_below_drewN | apply below_drew1 | refine below_set ?_ GE127.out | refine below_set ?_ GE128.out) | exact HB.out)⟩
      · rw [if_neg c5] at H
        have c5b0 : (a0_2.toList == a1_2.toList) = false := beq_eq_false_iff_ne.mpr c5
        have c5b1 : (a0_2.toList != a1_2.toList) = true := bne_iff_ne.mpr c5
        obtain rfl := Option.some.inj H
        go_enter Tryd.func29, Tryd.ntmps29
        go_wp2_with (first | ((with_reducible refine gate_dst (N := 2) rfl ?_); refine box_event ?hg (N := 2) ?hd (cs := #[.int .i64 a0_0, .bool a0_1, .string a0_2, .string a0_3, .slice A0_4 l0_4.length c0_4]) (t := 33) ?hr ?_; (case hd => rfl); (case hg => rfl); (case hr => first | (go_simp; done) | (go_simp; rfl)); intro gb127 hg w19 hbox hb; have n0_ := Aside0.mk (below_step (by repeat (first | (with_reducible first | exact HB.out | apply below_alloc | apply pw_below_drewN | apply below_drew1) | exact HB.out)) hb); have n1_ := Aside0.mk (hbox); have n2_ := Aside0.mk ((by rw [hg]; exact (below_size (by repeat (first | (with_reducible first | exact HB.out | apply below_alloc | apply pw_below_drewN | apply below_drew1) | exact HB.out))) : w.heap.size ≤ gb127)); have n3_ := Aside0.mk ((by rw [hg]; exact (below_size (by repeat (first | (with_reducible first | exact HB.out | apply below_alloc | apply pw_below_drewN | apply below_drew1) | exact HB.out))) : w.heap.size ≤ gb127)); clear HB; have HB := n0_; have BK127 := n1_; have GW127 := n2_; have GE127 := n3_; clear n0_ n1_ n2_ n3_; clear hb hbox hg) | ((with_reducible refine gate_dst (N := 3) rfl ?_); refine box_event ?hg (N := 3) ?hd (cs := #[.int .i64 a1_0, .bool a1_1, .string a1_2, .string a1_3, .slice A1_4 l1_4.length c1_4]) (t := 33) ?hr ?_; (case hd => rfl); (case hg => rfl); (case hr => first | (go_simp; done) | (go_simp; rfl)); intro gb128 hg w20 hbox hb; have n0_ := Aside0.mk (blk_below (g := gb127) (o := .cells #[.int .i64 a0_0, .bool a0_1, .string a0_2, .string a0_3, .slice A0_4 l0_4.length c0_4] 33 (0, 0)) (by (with_reducible repeat (first | refine blk_drewN ?_ _ | refine blk_drew ?_ | refine blk_alloc ?_ _)); exact BK127.out) hb); have n1_ := Aside0.mk (below_step (by repeat (first | (with_reducible first | exact HB.out | apply below_alloc | apply pw_below_drewN | apply below_drew1 | refine below_set ?_ GE127.out) | exact HB.out)) hb); have n2_ := Aside0.mk (hbox); have n3_ := Aside0.mk ((by rw [hg]; exact (below_size (by repeat (first | (with_reducible first | exact HB.out | apply below_alloc | apply pw_below_drewN | apply below_drew1 | refine below_set ?_ GE127.out) | exact HB.out))) : w.heap.size ≤ gb128)); have n4_ := Aside0.mk ((by rw [hg]; exact (below_size (by repeat (first | (with_reducible first | exact HB.out | apply below_alloc | apply pw_below_drewN | apply below_drew1 | refine below_set ?_ GE127.out) | exact HB.out))) : w.heap.size ≤ gb128)); have n5_ := Aside0.mk ((by rw [hg]; exact Nat.ne_of_lt (blk_lt (g := gb127) (o := .cells #[.int .i64 a0_0, .bool a0_1, .string a0_2, .string a0_3, .slice A0_4 l0_4.length c0_4] 33 (0, 0)) (by (with_reducible repeat (first | refine blk_drewN ?_ _ | refine blk_drew ?_ | refine blk_alloc ?_ _)); exact BK127.out)) : gb127 ≠ gb128)); have n6_ := Aside0.mk ((by rw [hg]; exact Nat.ne_of_gt (blk_lt (g := gb127) (o := .cells #[.int .i64 a0_0, .bool a0_1, .string a0_2, .string a0_3, .slice A0_4 l0_4.length c0_4] 33 (0, 0)) (by (with_reducible repeat (first | refine blk_drewN ?_ _ | refine blk_drew ?_ | refine blk_alloc ?_ _)); exact BK127.out)) : gb128 ≠ gb127)); clear BK127; clear HB; have BK127 := n0_; have HB := n1_; have BK128 := n2_; have GW128 := n3_; have GE128 := n4_; have NB127_128 := n5_; have NB128_127 := n6_; clear n0_ n1_ n2_ n3_ n4_ n5_ n6_; clear hb hbox hg; have hnb21 := NB127_128.out; have hnc21 := NB128_127.out; have hcz22_0 : w20.cell? ⟨gb127, 0, none⟩ = some (.int .i64 a0_0) := (blk_cell BK127.out 0).trans rfl; have hcz22_1 : w20.cell? ⟨gb127, 1, none⟩ = some (.bool a0_1) := (blk_cell BK127.out 1).trans rfl; have hcz22_2 : w20.cell? ⟨gb127, 2, none⟩ = some (.string a0_2) := (blk_cell BK127.out 2).trans rfl; have hcz22_3 : w20.cell? ⟨gb127, 3, none⟩ = some (.string a0_3) := (blk_cell BK127.out 3).trans rfl; have hcz22_4 : w20.cell? ⟨gb127, 4, none⟩ = some (.slice A0_4 l0_4.length c0_4) := (blk_cell BK127.out 4).trans rfl; have hfz22_0 := blk_frozen BK127.out 0; have hfz22_1 := blk_frozen BK127.out 1; have hfz22_2 := blk_frozen BK127.out 2; have hfz22_3 := blk_frozen BK127.out 3; have hfz22_4 := blk_frozen BK127.out 4; have hcz23_0 : w20.cell? ⟨gb128, 0, none⟩ = some (.int .i64 a1_0) := (blk_cell BK128.out 0).trans rfl; have hcz23_1 : w20.cell? ⟨gb128, 1, none⟩ = some (.bool a1_1) := (blk_cell BK128.out 1).trans rfl; have hcz23_2 : w20.cell? ⟨gb128, 2, none⟩ = some (.string a1_2) := (blk_cell BK128.out 2).trans rfl; have hcz23_3 : w20.cell? ⟨gb128, 3, none⟩ = some (.string a1_3) := (blk_cell BK128.out 3).trans rfl; have hcz23_4 : w20.cell? ⟨gb128, 4, none⟩ = some (.slice A1_4 l1_4.length c1_4) := (blk_cell BK128.out 4).trans rfl; have hfz23_0 := blk_frozen BK128.out 0; have hfz23_1 := blk_frozen BK128.out 1; have hfz23_2 := blk_frozen BK128.out 2; have hfz23_3 := blk_frozen BK128.out 3; have hfz23_4 := blk_frozen BK128.out 4))
        go_ret
        exact ⟨by first | rfl | (simp [errW_none, errW_some] <;> rfl) | (simp [*, errW_none, errW_some] <;> rfl), by repeat (first | (with_reducible first | exact HB.out | apply below_alloc | apply pw_below_drewN | apply below_drew1 | refine below_set ?_ GE127.out | refine below_set ?_ GE128.out) | exact HB.out)⟩
    · rw [if_neg c4] at H
      have c4b0 : (a0_1 == a1_1) = false := by simpa using c4
      (try (have c4b1 : decide (a0_1 = a1_1) = false := by simpa using c4))
      (try (have c4b2 : (a0_1 == a1_1) = false := by simpa using c4))
      (try (have c4b3 : ¬ (a0_1 = a1_1) := by simpa using c4))
      clear c4
      obtain rfl := Option.some.inj H
      go_enter Tryd.func29, Tryd.ntmps29
      go_wp2_with (first | ((with_reducible refine gate_dst (N := 2) rfl ?_); refine box_event ?hg (N := 2) ?hd (cs := #[.int .i64 a0_0, .bool a0_1, .string a0_2, .string a0_3, .slice A0_4 l0_4.length c0_4]) (t := 33) ?hr ?_; (case hd => rfl); (case hg => rfl); (case hr => first | (go_simp; done) | (go_simp; rfl)); intro gb127 hg w24 hbox hb; have n0_ := Aside0.mk (below_step (by repeat (first | (with_reducible first | exact HB.out | apply below_alloc | apply pw_below_drewN | apply below_drew1) | exact HB.out)) hb); have n1_ := Aside0.mk (hbox); have n2_ := Aside0.mk ((by rw [hg]; exact (below_size (by repeat (first | (with_reducible first | exact HB.out | apply below_alloc | apply pw_below_drewN | apply below_drew1) | exact HB.out))) : w.heap.size ≤ gb127)); have n3_ := Aside0.mk ((by rw [hg]; exact (below_size (by repeat (first | (with_reducible first | exact HB.out | apply below_alloc | apply pw_below_drewN | apply below_drew1) | exact HB.out))) : w.heap.size ≤ gb127)); clear HB; have HB := n0_; have BK127 := n1_; have GW127 := n2_; have GE127 := n3_; clear n0_ n1_ n2_ n3_; clear hb hbox hg) | ((with_reducible refine gate_dst (N := 3) rfl ?_); refine box_event ?hg (N := 3) ?hd (cs := #[.int .i64 a1_0, .bool a1_1, .string a1_2, .string a1_3, .slice A1_4 l1_4.length c1_4]) (t := 33) ?hr ?_; (case hd => rfl); (case hg => rfl); (case hr => first | (go_simp; done) | (go_simp; rfl)); intro gb128 hg w25 hbox hb; have n0_ := Aside0.mk (blk_below (g := gb127) (o := .cells #[.int .i64 a0_0, .bool a0_1, .string a0_2, .string a0_3, .slice A0_4 l0_4.length c0_4] 33 (0, 0)) (by (with_reducible repeat (first | refine blk_drewN ?_ _ | refine blk_drew ?_ | refine blk_alloc ?_ _)); exact BK127.out) hb); have n1_ := Aside0.mk (below_step (by repeat (first | (with_reducible first | exact HB.out | apply below_alloc | apply pw_below_drewN | apply below_drew1 | refine below_set ?_ GE127.out) | exact HB.out)) hb); have n2_ := Aside0.mk (hbox); have n3_ := Aside0.mk ((by rw [hg]; exact (below_size (by repeat (first | (with_reducible first | exact HB.out | apply below_alloc | apply pw_below_drewN | apply below_drew1 | refine below_set ?_ GE127.out) | exact HB.out))) : w.heap.size ≤ gb128)); have n4_ := Aside0.mk ((by rw [hg]; exact (below_size (by repeat (first | (with_reducible first | exact HB.out | apply below_alloc | apply pw_below_drewN | apply below_drew1 | refine below_set ?_ GE127.out) | exact HB.out))) : w.heap.size ≤ gb128)); have n5_ := Aside0.mk ((by rw [hg]; exact Nat.ne_of_lt (blk_lt (g := gb127) (o := .cells #[.int .i64 a0_0, .bool a0_1, .string a0_2, .string a0_3, .slice A0_4 l0_4.length c0_4] 33 (0, 0)) (by (with_reducible repeat (first | refine blk_drewN ?_ _ | refine blk_drew ?_ | refine blk_alloc ?_ _)); exact BK127.out)) : gb127 ≠ gb128)); have n6_ := Aside0.mk ((by rw [hg]; exact Nat.ne_of_gt (blk_lt (g := gb127) (o := .cells #[.int .i64 a0_0, .bool a0_1, .string a0_2, .string a0_3, .slice A0_4 l0_4.length c0_4] 33 (0, 0)) (by (with_reducible repeat (first | refine blk_drewN ?_ _ | refine blk_drew ?_ | refine blk_alloc ?_ _)); exact BK127.out)) : gb128 ≠ gb127)); clear BK127; clear HB; have BK127 := n0_; have HB := n1_; have BK128 := n2_; have GW128 := n3_; have GE128 := n4_; have NB127_128 := n5_; have NB128_127 := n6_; clear n0_ n1_ n2_ n3_ n4_ n5_ n6_; clear hb hbox hg; have hnb26 := NB127_128.out; have hnc26 := NB128_127.out; have hcz27_0 : w25.cell? ⟨gb127, 0, none⟩ = some (.int .i64 a0_0) := (blk_cell BK127.out 0).trans rfl; have hcz27_1 : w25.cell? ⟨gb127, 1, none⟩ = some (.bool a0_1) := (blk_cell BK127.out 1).trans rfl; have hcz27_2 : w25.cell? ⟨gb127, 2, none⟩ = some (.string a0_2) := (blk_cell BK127.out 2).trans rfl; have hcz27_3 : w25.cell? ⟨gb127, 3, none⟩ = some (.string a0_3) := (blk_cell BK127.out 3).trans rfl; have hcz27_4 : w25.cell? ⟨gb127, 4, none⟩ = some (.slice A0_4 l0_4.length c0_4) := (blk_cell BK127.out 4).trans rfl; have hfz27_0 := blk_frozen BK127.out 0; have hfz27_1 := blk_frozen BK127.out 1; have hfz27_2 := blk_frozen BK127.out 2; have hfz27_3 := blk_frozen BK127.out 3; have hfz27_4 := blk_frozen BK127.out 4; have hcz28_0 : w25.cell? ⟨gb128, 0, none⟩ = some (.int .i64 a1_0) := (blk_cell BK128.out 0).trans rfl; have hcz28_1 : w25.cell? ⟨gb128, 1, none⟩ = some (.bool a1_1) := (blk_cell BK128.out 1).trans rfl; have hcz28_2 : w25.cell? ⟨gb128, 2, none⟩ = some (.string a1_2) := (blk_cell BK128.out 2).trans rfl; have hcz28_3 : w25.cell? ⟨gb128, 3, none⟩ = some (.string a1_3) := (blk_cell BK128.out 3).trans rfl; have hcz28_4 : w25.cell? ⟨gb128, 4, none⟩ = some (.slice A1_4 l1_4.length c1_4) := (blk_cell BK128.out 4).trans rfl; have hfz28_0 := blk_frozen BK128.out 0; have hfz28_1 := blk_frozen BK128.out 1; have hfz28_2 := blk_frozen BK128.out 2; have hfz28_3 := blk_frozen BK128.out 3; have hfz28_4 := blk_frozen BK128.out 4))
      go_ret
      exact ⟨by first | rfl | (simp [errW_none, errW_some] <;> rfl) | (simp [*, errW_none, errW_some] <;> rfl), by repeat (first | (with_reducible first | exact HB.out | apply below_alloc | apply pw_below_drewN | apply below_drew1 | refine below_set ?_ GE127.out | refine below_set ?_ GE128.out) | exact HB.out)⟩
  · rw [if_neg c3] at H
    have c3b0 : (a0_0 == a1_0) = false := beq_eq_false_iff_ne.mpr c3
    have c3b1 : (a0_0 != a1_0) = true := bne_iff_ne.mpr c3
    obtain rfl := Option.some.inj H
    go_enter Tryd.func29, Tryd.ntmps29
    go_wp2_with (first | ((with_reducible refine gate_dst (N := 2) rfl ?_); refine box_event ?hg (N := 2) ?hd (cs := #[.int .i64 a0_0, .bool a0_1, .string a0_2, .string a0_3, .slice A0_4 l0_4.length c0_4]) (t := 33) ?hr ?_; (case hd => rfl); (case hg => rfl); (case hr => first | (go_simp; done) | (go_simp; rfl)); intro gb127 hg w29 hbox hb; have n0_ := Aside0.mk (below_step (by repeat (first | (with_reducible first | exact HB.out | apply below_alloc | apply pw_below_drewN | apply below_drew1) | exact HB.out)) hb); have n1_ := Aside0.mk (hbox); have n2_ := Aside0.mk ((by rw [hg]; exact (below_size (by repeat (first | (with_reducible first | exact HB.out | apply below_alloc | apply pw_below_drewN | apply below_drew1) | exact HB.out))) : w.heap.size ≤ gb127)); have n3_ := Aside0.mk ((by rw [hg]; exact (below_size (by repeat (first | (with_reducible first | exact HB.out | apply below_alloc | apply pw_below_drewN | apply below_drew1) | exact HB.out))) : w.heap.size ≤ gb127)); clear HB; have HB := n0_; have BK127 := n1_; have GW127 := n2_; have GE127 := n3_; clear n0_ n1_ n2_ n3_; clear hb hbox hg) | ((with_reducible refine gate_dst (N := 3) rfl ?_); refine box_event ?hg (N := 3) ?hd (cs := #[.int .i64 a1_0, .bool a1_1, .string a1_2, .string a1_3, .slice A1_4 l1_4.length c1_4]) (t := 33) ?hr ?_; (case hd => rfl); (case hg => rfl); (case hr => first | (go_simp; done) | (go_simp; rfl)); intro gb128 hg w30 hbox hb; have n0_ := Aside0.mk (blk_below (g := gb127) (o := .cells #[.int .i64 a0_0, .bool a0_1, .string a0_2, .string a0_3, .slice A0_4 l0_4.length c0_4] 33 (0, 0)) (by (with_reducible repeat (first | refine blk_drewN ?_ _ | refine blk_drew ?_ | refine blk_alloc ?_ _)); exact BK127.out) hb); have n1_ := Aside0.mk (below_step (by repeat (first | (with_reducible first | exact HB.out | apply below_alloc | apply pw_below_drewN | apply below_drew1 | refine below_set ?_ GE127.out) | exact HB.out)) hb); have n2_ := Aside0.mk (hbox); have n3_ := Aside0.mk ((by rw [hg]; exact (below_size (by repeat (first | (with_reducible first | exact HB.out | apply below_alloc | apply pw_below_drewN | apply below_drew1 | refine below_set ?_ GE127.out) | exact HB.out))) : w.heap.size ≤ gb128)); have n4_ := Aside0.mk ((by rw [hg]; exact (below_size (by repeat (first | (with_reducible first | exact HB.out | apply below_alloc | apply pw_below_drewN | apply below_drew1 | refine below_set ?_ GE127.out) | exact HB.out))) : w.heap.size ≤ gb128)); have n5_ := Aside0.mk ((by rw [hg]; exact Nat.ne_of_lt (blk_lt (g := gb127) (o := .cells #[.int .i64 a0_0, .bool a0_1, .string a0_2, .string a0_3, .slice A0_4 l0_4.length c0_4] 33 (0, 0)) (by (with_reducible repeat (first | refine blk_drewN ?_ _ | refine blk_drew ?_ | refine blk_alloc ?_ _)); exact BK127.out)) : gb127 ≠ gb128)); have n6_ := Aside0.mk ((by rw [hg]; exact Nat.ne_of_gt (blk_lt (g := gb127) (o := .cells #[.int .i64 a0_0, .bool a0_1, .string a0_2, .string a0_3, .slice A0_4 l0_4.length c0_4] 33 (0, 0)) (by (with_reducible repeat (first | refine blk_drewN ?_ _ | refine blk_drew ?_ | refine blk_alloc ?_ _)); exact BK127.out)) : gb128 ≠ gb127)); clear BK127; clear HB; have BK127 := n0_; have HB := n1_; have BK128 := n2_; have GW128 := n3_; have GE128 := n4_; have NB127_128 := n5_; have NB128_127 := n6_; clear n0_ n1_ n2_ n3_ n4_ n5_ n6_; clear hb hbox hg; have hnb31 := NB127_128.out; have hnc31 := NB128_127.out; have hcz32_0 : w30.cell? ⟨gb127, 0, none⟩ = some (.int .i64 a0_0) := (blk_cell BK127.out 0).trans rfl; have hcz32_1 : w30.cell? ⟨gb127, 1, none⟩ = some (.bool a0_1) := (blk_cell BK127.out 1).trans rfl; have hcz32_2 : w30.cell? ⟨gb127, 2, none⟩ = some (.string a0_2) := (blk_cell BK127.out 2).trans rfl; have hcz32_3 : w30.cell? ⟨gb127, 3, none⟩ = some (.string a0_3) := (blk_cell BK127.out 3).trans rfl; have hcz32_4 : w30.cell? ⟨gb127, 4, none⟩ = some (.slice A0_4 l0_4.length c0_4) := (blk_cell BK127.out 4).trans rfl; have hfz32_0 := blk_frozen BK127.out 0; have hfz32_1 := blk_frozen BK127.out 1; have hfz32_2 := blk_frozen BK127.out 2; have hfz32_3 := blk_frozen BK127.out 3; have hfz32_4 := blk_frozen BK127.out 4; have hcz33_0 : w30.cell? ⟨gb128, 0, none⟩ = some (.int .i64 a1_0) := (blk_cell BK128.out 0).trans rfl; have hcz33_1 : w30.cell? ⟨gb128, 1, none⟩ = some (.bool a1_1) := (blk_cell BK128.out 1).trans rfl; have hcz33_2 : w30.cell? ⟨gb128, 2, none⟩ = some (.string a1_2) := (blk_cell BK128.out 2).trans rfl; have hcz33_3 : w30.cell? ⟨gb128, 3, none⟩ = some (.string a1_3) := (blk_cell BK128.out 3).trans rfl; have hcz33_4 : w30.cell? ⟨gb128, 4, none⟩ = some (.slice A1_4 l1_4.length c1_4) := (blk_cell BK128.out 4).trans rfl; have hfz33_0 := blk_frozen BK128.out 0; have hfz33_1 := blk_frozen BK128.out 1; have hfz33_2 := blk_frozen BK128.out 2; have hfz33_3 := blk_frozen BK128.out 3; have hfz33_4 := blk_frozen BK128.out 4))
    go_ret
    exact ⟨by first | rfl | (simp [errW_none, errW_some] <;> rfl) | (simp [*, errW_none, errW_some] <;> rfl), by repeat (first | (with_reducible first | exact HB.out | apply below_alloc | apply pw_below_drewN | apply below_drew1 | refine below_set ?_ GE127.out | refine below_set ?_ GE128.out) | exact HB.out)⟩
end
end Go.Proofs.YtkecpfjmdokieaaDoor.P
namespace Go.Proofs.YtkecpfjmdokieaaDoor.Word
open Go.RowKit Go.Proofs.YtkecpfjmdokieaaDoorW.PrintWords Go.Proofs.YtkecpfjmdokieaaDoorW.PrintLast Go.Proofs.YtkecpfjmdokieaaDoor.Base Go.Proofs.YtkecpfjmdokieaaDoor.Seq Go.Proofs.YtkecpfjmdokieaaDoor.P Go.Proofs.YtkecpfjmdokieaaDoor.NodeOps
set_option linter.unusedVariables false
set_option linter.unusedSimpArgs false
noncomputable def eqP (y z : Pt) : Bool := @decide (y = z) (Classical.propDecidable _)
theorem eqP_yes {a b : Pt} (h : a = b) : eqP a b = true := by unfold eqP; exact @decide_eq_true _ (Classical.propDecidable _) h
theorem eqP_no {a b : Pt} (h : a ≠ b) : eqP a b = false := by unfold eqP; exact @decide_eq_false _ (Classical.propDecidable _) h
theorem eqP_is {a b : Pt} : eqP a b = true ↔ a = b := by unfold eqP; exact @decide_eq_true_iff _ (Classical.propDecidable _)
theorem same_val (y z : Pt) (h : word_Same.f y.f4 z.f4 = some (eqL y.f4 z.f4)) : word_same.f y.f0 y.f1 y.f2 y.f3 y.f4 z.f0 z.f1 z.f2 z.f3 z.f4 = some (eqP y z) := by
  unfold word_same.f
  by_cases h0 : y.f0 = z.f0
  · rw [if_pos h0]
    by_cases h1 : y.f1 = z.f1
    · rw [if_pos (by rw [h1]; simp)]
      by_cases h2 : y.f2.toList = z.f2.toList
      · rw [if_pos h2]
        by_cases h3 : y.f3.toList = z.f3.toList
        · rw [if_pos h3, h, Option.bind_some]
          congr 1
          rw [Bool.eq_iff_iff, eqL_is, eqP_is]
          constructor
          · intro h4
            have := bytes_eq h2
            have := bytes_eq h3
            cases y; cases z; simp_all
          · intro e; rw [e]
        · rw [if_neg h3, eqP_no fun e => h3 (by rw [e])]
      · rw [if_neg h2, eqP_no fun e => h2 (by rw [e])]
    · rw [if_neg (by simpa using h1), eqP_no fun e => h1 (by rw [e])]
  · rw [if_neg h0, eqP_no fun e => h0 (by rw [e])]
set_option maxHeartbeats 8000000 in
set_option maxRecDepth 100000 in
theorem eqf_any (l l' : List Pt) (hsub : ∀ y z : Pt, y ∈ l → word_Same.f y.f4 z.f4 = some (eqL y.f4 z.f4)) (A B : Option Addr) (n c m d : Nat) (w : World) (h : Kd.C k33 w A n l) (h2 : Kd.C k33 w B m l') :
    Calls Tryd.prog 28 #[.slice A n c, .slice B m d, .func (.func 29) #[] #[]] w fun e w' => e = .returned (.bool (eqL l l')) ∧ Below w.heap.size w w' := by
  have hn : l.length = n := h.1
  have hm : l'.length = m := h2.1
  by_cases hnm : n = m
  · subst hnm
    have HC := Aside0.mk h
    have HD := Aside0.mk h2
    have HSUB := Aside0.mk hsub
    have HLL := Aside0.mk (hn.trans hm.symm)
    have HLN := Aside0.mk hn
    have hl := h.2.1
    clear h h2 hsub hn hm
    go_enter Tryd.func28, Tryd.ntmps28
    go_wp2
    go_loopw [17] (fun v17 w' => ∃ k : Nat, k ≤ n ∧ v17 = .int .i64 (k : Int) ∧ Aside0 (Below w.heap.size w w') ∧ Aside0 (∀ i, i < k → rd_T33 l (i : Int) = rd_T33 l' (i : Int))) (fun v17 _ => n - (intOf v17).toNat)
    case atStart => exact ⟨0, Nat.zero_le _, rfl, ⟨Below.refl _ _⟩, ⟨fun i h => absurd h (Nat.not_lt_zero _)⟩⟩
    case round =>
      obtain ⟨k, hk, rfl, HB, HE⟩ := hrel
      by_cases hkn : k < n
      · obtain ⟨ad, A4, c4, e, d0, d1, d2, d3, d4, hl4, h4⟩ := at_T33 (Kd.C_below HC.out HB.out) (k : Int) (by omega) (by omega)
        obtain ⟨bd, B4, b4, e2, f0, f1, f2, f3, f4, hm4, g4⟩ := at_T33 (Kd.C_below HD.out HB.out) (k : Int) (by omega) (by omega)
        rw [Int.toNat_natCast] at d0 d1 d2 d3 d4 f0 f1 f2 f3 f4
        subst e
        subst e2
        have HV := Aside0.mk (same_val (rd_T33 l (k : Int)) (rd_T33 l' (k : Int)) (HSUB.out _ _ (by rw [rd_in l k (by have := HLN.out; omega)]; exact List.getElem_mem _)))
        have H4 := Aside0.mk h4
        have G4 := Aside0.mk g4
        have HL4 := Aside0.mk hl4
        have HM4 := Aside0.mk hm4
        have HNE := Aside0.mk (fun h => eqL_no (ne_at (a := l) (b := l') k h))
        have HYES := Aside0.mk (fun (h : rd_T33 l (k : Int) = rd_T33 l' (k : Int)) => (show ∀ i, i < k + 1 → rd_T33 l (i : Int) = rd_T33 l' (i : Int) from fun i hi => by
          by_cases hik : i < k
          · exact HE.out i hik
          · obtain rfl : i = k := by omega
            exact h))
        generalize rd_T33 l (k : Int) = y at *
        generalize rd_T33 l' (k : Int) = z at *
        have HB1 := Aside0.mk (below_alloc (Below.refl wr.heap.size wr) (.cells #[.int .i64 y.f0, .bool y.f1, .string y.f2, .string y.f3, .slice A4 y.f4.length c4] 33))
        have HG1 := Aside0.mk (blk_new wr (.cells #[.int .i64 y.f0, .bool y.f1, .string y.f2, .string y.f3, .slice A4 y.f4.length c4] 33))
        clear h4 g4 hl4 hm4
        go_upto_region 6 with (fail)
        clear d0 d1 d2 d3 d4
        replace f0 := pw_cell_below HB1.out f0
        replace f1 := pw_cell_below HB1.out f1
        replace f2 := pw_cell_below HB1.out f2
        replace f3 := pw_cell_below HB1.out f3
        replace f4 := pw_cell_below HB1.out f4
        generalize hw1 : wr.alloc (.cells #[.int .i64 y.f0, .bool y.f1, .string y.f2, .string y.f3, .slice A4 y.f4.length c4] 33) = w1 at *
        generalize hg1 : wr.heap.size = g1 at *
        clear hw1
        have HB2 := Aside0.mk (below_alloc (Below.refl w1.heap.size w1) (.cells #[.int .i64 z.f0, .bool z.f1, .string z.f2, .string z.f3, .slice B4 z.f4.length b4] 33))
        have HG2 := Aside0.mk (blk_new w1 (.cells #[.int .i64 z.f0, .bool z.f1, .string z.f2, .string z.f3, .slice B4 z.f4.length b4] 33))
        go_upto_region 7 with (fail)
        clear f0 f1 f2 f3 f4
        generalize hw2 : w1.alloc (.cells #[.int .i64 z.f0, .bool z.f1, .string z.f2, .string z.f3, .slice B4 z.f4.length b4] 33) = w2 at *
        generalize hg2 : w1.heap.size = g2 at *
        clear hw2
        have HG3 := Aside0.mk (blk_below HG1.out (by rw [hg2]; exact HB2.out))
        have e0 : w2.cell? ⟨g1, 0, none⟩ = some (.int .i64 y.f0) := (blk_cell HG3.out 0).trans rfl
        have e1 : w2.cell? ⟨g1, 1, none⟩ = some (.bool y.f1) := (blk_cell HG3.out 1).trans rfl
        have e2 : w2.cell? ⟨g1, 2, none⟩ = some (.string y.f2) := (blk_cell HG3.out 2).trans rfl
        have e3 : w2.cell? ⟨g1, 3, none⟩ = some (.string y.f3) := (blk_cell HG3.out 3).trans rfl
        have e4 : w2.cell? ⟨g1, 4, none⟩ = some (.slice A4 y.f4.length c4) := (blk_cell HG3.out 4).trans rfl
        have f0 : w2.cell? ⟨g2, 0, none⟩ = some (.int .i64 z.f0) := (blk_cell HG2.out 0).trans rfl
        have f1 : w2.cell? ⟨g2, 1, none⟩ = some (.bool z.f1) := (blk_cell HG2.out 1).trans rfl
        have f2 : w2.cell? ⟨g2, 2, none⟩ = some (.string z.f2) := (blk_cell HG2.out 2).trans rfl
        have f3 : w2.cell? ⟨g2, 3, none⟩ = some (.string z.f3) := (blk_cell HG2.out 3).trans rfl
        have f4 : w2.cell? ⟨g2, 4, none⟩ = some (.slice B4 z.f4.length b4) := (blk_cell HG2.out 4).trans rfl
        have HBW := Aside0.mk (show Below wr.heap.size wr w2 by
          rw [hg1]
          exact HB1.out.trans (HB2.out.mono (by rw [← hg1, ← hg2]; exact HB1.out.size)))
        have HBX := Aside0.mk (show Below w.heap.size w w2 from HB.out.trans (below_sub HBW.out HB.out.size))
        obtain ⟨q, hq⟩ : ∃ q, eqP y z = q := ⟨_, rfl⟩
        rw [hq] at HV
        cases q
        · have HR := Aside0.mk (HNE.out fun e => by rw [eqP_yes e] at hq; cases hq)
          go_wp2_with ((with_reducible refine (word_same.calls _ _ _ _ A4 c4 _ _ _ _ _ B4 b4 _ false _ (Kd.C_below H4.out HBW.out) HL4.out (Kd.C_below G4.out HBW.out) HM4.out HV.out).mono ?_); rintro r w7 ⟨rfl, hB⟩; have HB7 := Aside0.mk (HBX.out.trans (below_sub hB HBX.out.size)); clear hB)
          go_ret
          exact ⟨congrArg (fun b => Ending.returned (.bool b)) HR.out.symm, HB7.out⟩
        · have HR := Aside0.mk (HYES.out (eqP_is.1 hq))
          go_wp2_with ((with_reducible refine (word_same.calls _ _ _ _ A4 c4 _ _ _ _ _ B4 b4 _ true _ (Kd.C_below H4.out HBW.out) HL4.out (Kd.C_below G4.out HBW.out) HM4.out HV.out).mono ?_); rintro r w7 ⟨rfl, hB⟩; have HB7 := Aside0.mk (HBX.out.trans (below_sub hB HBX.out.size)); clear hB)
          go_roundw
          case measure => simp [intOf]; omega
          case rel => exact ⟨k + 1, by omega, by go_num, HB7, HR⟩
      · go_wp2
        go_ret
        exact ⟨congrArg (fun b => Ending.returned (.bool b)) (eqL_yes (eq_at HLL.out fun i hi => HE.out i (by have := HLN.out; omega))).symm, HB.out⟩
  · have HR := Aside0.mk (eqL_no (a := l) (b := l') fun e => hnm (by rw [← hn, ← hm, e]))
    have hne : (((n : Int)) != (m : Int)) = true := bne_iff_ne.mpr (by omega)
    have HC := Aside0.mk (Below.refl w.heap.size w)
    clear h h2 hn hm hnm hsub
    go_enter Tryd.func28, Tryd.ntmps28
    go_wp2
    go_ret
    exact ⟨congrArg (fun b => Ending.returned (.bool b)) HR.out.symm, HC.out⟩
set_option maxHeartbeats 2000000 in
set_option maxRecDepth 100000 in
theorem wsame_step (l l' : List Pt) (hsub : ∀ y z : Pt, y ∈ l → word_Same.f y.f4 z.f4 = some (eqL y.f4 z.f4)) : SameOk l l' (eqL l l') := by
  intro A c B d w hr hc hr2 hd
  have HE := Aside0.mk (eqf_any l l' hsub A B l.length c l'.length d w hr hr2)
  clear hr hc hr2 hd hsub
  go_enter Tryd.func14, Tryd.ntmps14
  go_wp2_with (go_at_call 28; (with_reducible refine (HE.out).mono ?_); rintro r w7 ⟨rfl, hB⟩; have HB7 := Aside0.mk hB; clear hB)
  go_ret
  exact ⟨rfl, HB7.out⟩
theorem wsame_of : ∀ (N : Nat) (l l' : List Pt), SizeOf.sizeOf l < N → word_Same.f l l' = some (eqL l l')
  | 0, l, l', h => absurd h (Nat.not_lt_zero _)
  | N + 1, l, l', h => word_Same.of l l' (wsame_step l l' fun y z hy => wsame_of N y.f4 z.f4 (by have := size_in hy; omega))
theorem wsame_any (l l' : List Pt) (A B : Option Addr) (c d : Nat) (w : World) (hr : Kd.C k33 w A l.length l) (hc : l.length ≤ c) (hr2 : Kd.C k33 w B l'.length l') (hd : l'.length ≤ d) :
    Calls Tryd.prog 14 #[.slice A l.length c, .slice B l'.length d] w fun e w' => e = .returned (.bool (eqL l l')) ∧ Below w.heap.size w w' :=
  word_Same.calls A c l B d l' _ w hr hc hr2 hd (wsame_of _ l l' (Nat.lt_succ_self _))
end Go.Proofs.YtkecpfjmdokieaaDoor.Word
