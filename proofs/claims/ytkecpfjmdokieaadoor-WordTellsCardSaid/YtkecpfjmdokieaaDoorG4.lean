/- texts of this claim, one behind the other: P10 WordParts -/
import Derived.Test.YtkecpfjmdokieaaDoorG3
namespace Go.Proofs.YtkecpfjmdokieaaDoor.P
open Go.RowKit Go.Proofs.YtkecpfjmdokieaaDoorW.PrintWords Go.Proofs.YtkecpfjmdokieaaDoorW.PrintLast Go.Proofs.YtkecpfjmdokieaaDoorW.PrintMore
attribute [local go_sem] max2_int min2_int max_two min_two max_three min_three max_four min_four   -- for this text's walks alone
set_option linter.unusedVariables false
set_option linter.unusedSimpArgs false
mutual
def deadfallref03_Parts.l0 : Nat → List (S33) → Int → Int → List (S33) → Int → Int → Option (Bool)
  | 0, _, _, _, _, _, _ => none
  | k + 1, x0, x1, x2, x10, x11, x12 => if x12 < x11 then (if 0 ≤ x12 then (if x12 < (x10.length : Int) then (if ((rd_T33 x10 x12).f0) = 1 then ((deadfallref03_text.f k ((rd_T33 x10 x12).f0) ((rd_T33 x10 x12).f1) ((rd_T33 x10 x12).f2) ((rd_T33 x10 x12).f3) ((rd_T33 x10 x12).f4) x1).bind fun t146 => (if t146 = true then (if x12 > 0 then (if 0 ≤ (wrap64 (x12 - 1)) then (if (wrap64 (x12 - 1)) < (x0.length : Int) then (if ((rd_T33 x0 (wrap64 (x12 - 1))).f0) = 1 then (if (((rd_T33 x0 (wrap64 (x12 - 1))).f1) == ((rd_T33 x10 x12).f1)) = true then (some false) else (deadfallref03_Parts.l0 k x0 x1 x2 x10 x11 (wrap64 (x12 + 1)))) else (deadfallref03_Parts.l0 k x0 x1 x2 x10 x11 (wrap64 (x12 + 1)))) else (none)) else (none)) else (deadfallref03_Parts.l0 k x0 x1 x2 x10 x11 (wrap64 (x12 + 1)))) else (some false))) else (if ((rd_T33 x10 x12).f0) = 2 then (if x2 > 200 then (deadfallref03_Parts.j1 k x0 x1 x2 x10 x11 x12 true ((rd_T33 x10 x12).f0) ((rd_T33 x10 x12).f1) ((rd_T33 x10 x12).f2) ((rd_T33 x10 x12).f3) ((rd_T33 x10 x12).f4)) else ((deadfallref02_Param.f ((rd_T33 x10 x12).f2)).bind fun t149 => (if t149 = true then (if x1 = 2 then (deadfallref03_Parts.j1 k x0 x1 x2 x10 x11 x12 (!((rd_T33 x10 x12).f1)) ((rd_T33 x10 x12).f0) ((rd_T33 x10 x12).f1) ((rd_T33 x10 x12).f2) ((rd_T33 x10 x12).f3) ((rd_T33 x10 x12).f4)) else (deadfallref03_Parts.j1 k x0 x1 x2 x10 x11 x12 false ((rd_T33 x10 x12).f0) ((rd_T33 x10 x12).f1) ((rd_T33 x10 x12).f2) ((rd_T33 x10 x12).f3) ((rd_T33 x10 x12).f4))) else (deadfallref03_Parts.j1 k x0 x1 x2 x10 x11 x12 true ((rd_T33 x10 x12).f0) ((rd_T33 x10 x12).f1) ((rd_T33 x10 x12).f2) ((rd_T33 x10 x12).f3) ((rd_T33 x10 x12).f4))))) else (deadfallref03_Parts.j1 k x0 x1 x2 x10 x11 x12 true ((rd_T33 x10 x12).f0) ((rd_T33 x10 x12).f1) ((rd_T33 x10 x12).f2) ((rd_T33 x10 x12).f3) ((rd_T33 x10 x12).f4)))) else (none)) else (none)) else (some true)
def deadfallref03_Parts.j1 : Nat → List (S33) → Int → Int → List (S33) → Int → Int → Bool → Int → Bool → ByteArray → ByteArray → List (S33) → Option (Bool)
  | 0, _, _, _, _, _, _, _, _, _, _, _, _ => none
  | k + 1, x0, x1, x2, x10, x11, x12, x69, x146000, x146001, x146002, x146003, x146004 => if x69 = true then (some false) else (if x146003.toList = ([] : List UInt8) then (if (x146004.length : Int) > 0 then (deadfallref03_Parts.j2 k x0 x1 x2 x10 x11 x12 true x146000 x146001 x146002 x146003 x146004) else (deadfallref03_Parts.j2 k x0 x1 x2 x10 x11 x12 false x146000 x146001 x146002 x146003 x146004)) else ((deadfallref03_Operator.f x146003).bind fun t150 => (deadfallref03_Parts.j2 k x0 x1 x2 x10 x11 x12 (!t150) x146000 x146001 x146002 x146003 x146004)))
def deadfallref03_Parts.j2 : Nat → List (S33) → Int → Int → List (S33) → Int → Int → Bool → Int → Bool → ByteArray → ByteArray → List (S33) → Option (Bool)
  | 0, _, _, _, _, _, _, _, _, _, _, _, _ => none
  | k + 1, x0, x1, x2, x10, x11, x12, x89, x146000, x146001, x146002, x146003, x146004 => if x89 = true then (some false) else (if x146003.toList = ([61] : List UInt8) then ((deadfallref02_Name.f x146002).bind fun t151 => (deadfallref03_Parts.j3 k x0 x1 x2 x10 x11 x12 (!t151) x146000 x146001 x146002 x146003 x146004)) else (if x146003.toList = ([58, 61] : List UInt8) then ((deadfallref02_Name.f x146002).bind fun t152 => (deadfallref03_Parts.j3 k x0 x1 x2 x10 x11 x12 (!t152) x146000 x146001 x146002 x146003 x146004)) else (deadfallref03_Parts.j3 k x0 x1 x2 x10 x11 x12 false x146000 x146001 x146002 x146003 x146004)))
def deadfallref03_Parts.j3 : Nat → List (S33) → Int → Int → List (S33) → Int → Int → Bool → Int → Bool → ByteArray → ByteArray → List (S33) → Option (Bool)
  | 0, _, _, _, _, _, _, _, _, _, _, _, _ => none
  | k + 1, x0, x1, x2, x10, x11, x12, x103, x146000, x146001, x146002, x146003, x146004 => if x103 = true then (some false) else (if x146001 = true then ((deadfallref03_Parts.f k x146004 2 (wrap64 (x2 + 1))).bind fun t153 => (if t153 = true then (deadfallref03_Parts.l0 k x0 x1 x2 x10 x11 (wrap64 (x12 + 1))) else (some false))) else ((deadfallref03_Parts.f k x146004 1 (wrap64 (x2 + 1))).bind fun t154 => (if t154 = true then (deadfallref03_Parts.l0 k x0 x1 x2 x10 x11 (wrap64 (x12 + 1))) else (some false))))
def deadfallref03_Parts.f : Nat → List (S33) → Int → Int → Option (Bool)
  | 0, _, _, _ => none
  | k + 1, l0, a1, a2 => deadfallref03_Parts.l0 k l0 a1 a2 l0 (l0.length : Int) 0
end
def deadfallref03_Parts.T5 : Bool × List (List Nat × List Nat) := (true, [([], []), ([], []), ([0, 1], [0, 1]), ([2], [2]), ([3, 2], [3]), ([4], [4]), ([5, 4], [4, 5]), ([6, 4, 4], [4, 6]), ([7], [7]), ([7], [7]), ([9, 7], [7, 9]), ([8, 10, 7], [7, 8, 10]), ([11, 7], [7, 11]), ([12, 7], [7, 12]), ([13, 7], [7, 13]), ([7, 14, 4], [4, 7, 14]), ([15, 7, 4], [4, 15]), ([16], [16]), ([16], [16]), ([18, 16], [16, 18]), ([17, 19, 16], [16, 17, 19]), ([20, 16], [16, 20]), ([21, 16], [16, 21]), ([16], [16]), ([23, 16], [16, 23]), ([22, 24, 16], [16, 22, 24]), ([16, 25, 4], [4, 16, 25]), ([4, 26], [4, 26])])
def deadfallref03_Parts.B5 : List Nat := [0, 0, 3, 7, 15, 31, 63, 127, 255, 255, 767, 2047, 4095, 8191, 16383, 32767, 65535, 131071, 131071, 393215, 1048575, 2097151, 4194303, 131071, 8519679, 33554431, 67108863, 134217727]
theorem deadfallref03_Parts.tab5 : rtab .any (opsOf Tryd.f24 5) = deadfallref03_Parts.T5 := by kernel_rfl
theorem deadfallref03_Parts.bits5 : waitsOk deadfallref03_Parts.T5.2 deadfallref03_Parts.B5 = true := by kernel_rfl
set_option maxHeartbeats 8000000 in
set_option maxRecDepth 100000 in
theorem deadfallref03_Parts.calls (k : Nat) : ∀ (A0 : Option Addr) (c0 : Nat) (l0 : List (S33)) (a1 : Int) (a2 : Int) (r : Bool) (w : World) (hr0 : Kd.C k33 w A0 l0.length l0) (hc0 : l0.length ≤ c0) (h : deadfallref03_Parts.f k l0 a1 a2 = some r),
    Calls Tryd.prog 24 #[.slice A0 l0.length c0, .int .i64 a1, .int .i64 a2] w fun e w' => e = .returned (.bool r) ∧ Below w.heap.size w w' := by
  induction k using Nat.strongRecOn with
  | _ k ih =>
  intro A0 c0 l0 a1 a2 r w hr0 hc0 h
  cases k with
  | zero => exact absurd h (by simp [deadfallref03_Parts.f])
  | succ k =>
  simp only [deadfallref03_Parts.f] at h
  have hu33 := Tryd.underlying33
  have HR0 := Aside0.mk hr0
  have HC0 := Aside0.mk hc0
  clear hr0 hc0
  have HB := Aside0.mk (Below.refl w.heap.size w)
  have H : (deadfallref03_Parts.l0 k l0 a1 a2 l0 (l0.length : Int) 0) = some r := h
  clear h
  have H' := Aside0.mk H
  clear H
  go_enter Tryd.func24, Tryd.ntmps24
  go_wp2
  go_loopg [12] k (fun kq v12 w' => ∃ (x12_1 : Int), v12 = .int .i64 x12_1 ∧ Aside0 (deadfallref03_Parts.l0 kq l0 a1 a2 l0 (l0.length : Int) x12_1 = some r) ∧ Aside0 (kq ≤ k) ∧ Aside0 (Below w.heap.size w w'))
  case atStart => exact ⟨(0), (by first | rfl | (simp; done) | (simp [*]; done)), H', ⟨Nat.le_refl _⟩, ⟨by repeat (first | (with_reducible first | exact HB.out | apply below_alloc | apply pw_below_drewN | apply below_drew1) | exact HB.out)⟩⟩
  case round =>
    clear H'
    try clear c2
    try clear p2
    obtain ⟨x12_1, rfl, HA, HK1, HB⟩ := hrel
    cases gk with
    | zero => exact absurd HA.out (by simp [deadfallref03_Parts.l0])
    | succ k1 =>
      have H := HA.out
      clear HA
      simp only [deadfallref03_Parts.l0] at H
      by_cases c4 : x12_1 < (l0.length : Int)
      · rw [if_pos c4] at H
        have c4b0 : decide (x12_1 < (l0.length : Int)) = true := decide_eq_true c4
        clear c4
        by_cases c5 : 0 ≤ x12_1
        · rw [if_pos c5] at H
          have c5b0 : decide (0 ≤ x12_1) = true := decide_eq_true c5
          clear c5
          by_cases c6 : x12_1 < (l0.length : Int)
          · rw [if_pos c6] at H
            have c6b0 : decide (x12_1 < (l0.length : Int)) = true := decide_eq_true c6
            clear c6
            by_cases c7 : ((rd_T33 l0 x12_1).f0) = 1
            · rw [if_pos c7] at H
              have c7b0 : (((rd_T33 l0 x12_1).f0) == 1) = true := beq_iff_eq.mpr c7
              have c7b1 : (((rd_T33 l0 x12_1).f0) != 1) = false := bne_eq_false_iff_eq.mpr c7
              clear c7
              replace H := Option.bind_eq_some_iff.mp H
              obtain ⟨t146, A80, H⟩ := H
              replace H : (if t146 = true then (if x12_1 > 0 then (if 0 ≤ (wrap64 (x12_1 - 1)) then (if (wrap64 (x12_1 - 1)) < (l0.length : Int) then (if ((rd_T33 l0 (wrap64 (x12_1 - 1))).f0) = 1 then (if (((rd_T33 l0 (wrap64 (x12_1 - 1))).f1) == ((rd_T33 l0 x12_1).f1)) = true then (some false) else (deadfallref03_Parts.l0 k1 l0 a1 a2 l0 (l0.length : Int) (wrap64 (x12_1 + 1)))) else (deadfallref03_Parts.l0 k1 l0 a1 a2 l0 (l0.length : Int) (wrap64 (x12_1 + 1)))) else (none)) else (none)) else (deadfallref03_Parts.l0 k1 l0 a1 a2 l0 (l0.length : Int) (wrap64 (x12_1 + 1)))) else (some false)) = some r := H
              have A8 := Aside0.mk A80
              clear A80
              by_cases c9 : t146 = true
              · subst c9
                have H1 : (if x12_1 > 0 then (if 0 ≤ (wrap64 (x12_1 - 1)) then (if (wrap64 (x12_1 - 1)) < (l0.length : Int) then (if ((rd_T33 l0 (wrap64 (x12_1 - 1))).f0) = 1 then (if (((rd_T33 l0 (wrap64 (x12_1 - 1))).f1) == ((rd_T33 l0 x12_1).f1)) = true then (some false) else (deadfallref03_Parts.l0 k1 l0 a1 a2 l0 (l0.length : Int) (wrap64 (x12_1 + 1)))) else (deadfallref03_Parts.l0 k1 l0 a1 a2 l0 (l0.length : Int) (wrap64 (x12_1 + 1)))) else (none)) else (none)) else (deadfallref03_Parts.l0 k1 l0 a1 a2 l0 (l0.length : Int) (wrap64 (x12_1 + 1)))) = some r := by rw [if_pos rfl] at H; exact H
                clear H
                have H := H1
                clear H1
                by_cases c10 : x12_1 > 0
                · rw [if_pos c10] at H
                  have c10b0 : decide (0 < x12_1) = true := decide_eq_true c10
                  clear c10
                  obtain ⟨ji11, hji11⟩ : ∃ j_ : Int, (wrap64 (x12_1 - 1)) = j_ := ⟨_, rfl⟩
                  replace H : (if 0 ≤ (ji11) then (if (ji11) < (l0.length : Int) then (if ((rd_T33 l0 (ji11)).f0) = 1 then (if (((rd_T33 l0 (ji11)).f1) == ((rd_T33 l0 x12_1).f1)) = true then (some false) else (deadfallref03_Parts.l0 k1 l0 a1 a2 l0 (l0.length : Int) (wrap64 (x12_1 + 1)))) else (deadfallref03_Parts.l0 k1 l0 a1 a2 l0 (l0.length : Int) (wrap64 (x12_1 + 1)))) else (none)) else (none)) = some r := by first | (rw [hji11] at H; exact H) | (simp only [hji11] at H ⊢; exact H)
                  (try rw [hji11] at A8)
                  have hji11w : (IntKind.i64.wrap (x12_1 - 1)) = ji11 := (i64_w _).trans hji11
                  by_cases c12 : 0 ≤ (ji11)
                  · rw [if_pos c12] at H
                    have c12b0 : decide (0 ≤ (ji11)) = true := decide_eq_true c12
                    clear c12
                    by_cases c13 : (ji11) < (l0.length : Int)
                    · rw [if_pos c13] at H
                      have c13b0 : decide ((ji11) < (l0.length : Int)) = true := decide_eq_true c13
                      clear c13
                      by_cases c14 : ((rd_T33 l0 (ji11)).f0) = 1
                      · rw [if_pos c14] at H
                        have c14b0 : (((rd_T33 l0 (ji11)).f0) == 1) = true := beq_iff_eq.mpr c14
                        have c14b1 : (((rd_T33 l0 (ji11)).f0) != 1) = false := bne_eq_false_iff_eq.mpr c14
                        clear c14
                        by_cases c15 : (((rd_T33 l0 (ji11)).f1) == ((rd_T33 l0 x12_1).f1)) = true
                        · rw [if_pos c15] at H
                          have c15b0 : (((rd_T33 l0 (ji11)).f1) == ((rd_T33 l0 x12_1).f1)) = true := c15
                          (try (have c15b1 : decide (((rd_T33 l0 (ji11)).f1) = ((rd_T33 l0 x12_1).f1)) = true := by simpa using c15))
                          (try (have c15b2 : (((rd_T33 l0 (ji11)).f1) == ((rd_T33 l0 x12_1).f1)) = true := by simpa using c15))
                          clear c15
                          obtain rfl := Option.some.inj H
                          have p144 : 0 ≤ (x12_1 : Int) := of_decide_eq_true (by first | (with_reducible assumption) | assumption)
                          have q144 : x12_1 < (l0.length : Int) := of_decide_eq_true (by first | (with_reducible assumption) | assumption)
                          obtain ⟨ad144, A144_4, c144_4, e144, hx144_0, hx144_1, hx144_2, hx144_3, hx144_4, hl144_4, hi144_4⟩ := at_T33 HR0.out x12_1 p144 q144
                          cases e144
                          replace hx144_0 := (HB.out.cell (World.block_lt_of_cell? w _ hx144_0)).trans hx144_0
                          replace hx144_1 := (HB.out.cell (World.block_lt_of_cell? w _ hx144_1)).trans hx144_1
                          replace hx144_2 := (HB.out.cell (World.block_lt_of_cell? w _ hx144_2)).trans hx144_2
                          replace hx144_3 := (HB.out.cell (World.block_lt_of_cell? w _ hx144_3)).trans hx144_3
                          replace hx144_4 := (HB.out.cell (World.block_lt_of_cell? w _ hx144_4)).trans hx144_4
                          have HR144_4 := Aside0.mk hi144_4
                          have HC144_4 := Aside0.mk hl144_4
                          clear hi144_4 hl144_4
                          replace p144 := eq_true p144
                          replace q144 := eq_true q144
                          try go_wp2_with (first | ((with_reducible refine gate_dst (N := 8) rfl ?_); (try (refine gate_guard (by rfl) ?_; dsimp only)); refine box_event ?hg (N := 8) ?hd (cs := #[.int .i64 0, .bool false, .string (⟨#[]⟩ : ByteArray), .string (⟨#[]⟩ : ByteArray), .slice none 0 0]) (t := 33) ?hr ?_; (case hd => rfl); (case hg => rfl); (case hr => first | (go_simp; done) | (go_simp; rfl)); intro gb145 hg w16 hbox hb; have n0_ := Aside0.mk (below_step (by repeat (first | (with_reducible first | exact HB.out | apply below_alloc | apply pw_below_drewN | apply below_drew1) | exact HB.out)) hb); have n1_ := Aside0.mk (hbox); have n2_ := Aside0.mk ((by rw [hg]; exact (below_size (by repeat (first | (with_reducible first | exact HB.out | apply below_alloc | apply pw_below_drewN | apply below_drew1) | exact HB.out))) : w.heap.size ≤ gb145)); have n3_ := Aside0.mk ((by rw [hg]; exact (below_size (by repeat (first | (with_reducible first | exact HB.out | apply below_alloc | apply pw_below_drewN | apply below_drew1) | exact HB.out))) : w.heap.size ≤ gb145)); clear HB; have HB := n0_; have BK145 := n1_; have GW145 := n2_; have GE145 := n3_; clear n0_ n1_ n2_ n3_; clear hb hbox hg; have hcz17_0 : w16.cell? ⟨gb145, 0, none⟩ = some (.int .i64 0) := (blk_cell BK145.out 0).trans rfl; have hcz17_1 : w16.cell? ⟨gb145, 1, none⟩ = some (.bool false) := (blk_cell BK145.out 1).trans rfl; have hcz17_2 : w16.cell? ⟨gb145, 2, none⟩ = some (.string (⟨#[]⟩ : ByteArray)) := (blk_cell BK145.out 2).trans rfl; have hcz17_3 : w16.cell? ⟨gb145, 3, none⟩ = some (.string (⟨#[]⟩ : ByteArray)) := (blk_cell BK145.out 3).trans rfl; have hcz17_4 : w16.cell? ⟨gb145, 4, none⟩ = some (.slice none 0 0) := (blk_cell BK145.out 4).trans rfl; have hfz17_0 := blk_frozen BK145.out 0; have hfz17_1 := blk_frozen BK145.out 1; have hfz17_2 := blk_frozen BK145.out 2; have hfz17_3 := blk_frozen BK145.out 3; have hfz17_4 := blk_frozen BK145.out 4))
                          have n0_ : Aside0 ((((((w16.setCell ⟨gb145, 0, none⟩ (.int .i64 ((rd_T33 l0 x12_1).f0))).setCell ⟨gb145, 1, none⟩ (.bool ((rd_T33 l0 x12_1).f1))).setCell ⟨gb145, 2, none⟩ (.string ((rd_T33 l0 x12_1).f2))).setCell ⟨gb145, 3, none⟩ (.string ((rd_T33 l0 x12_1).f3))).setCell ⟨gb145, 4, none⟩ (.slice A144_4 ((rd_T33 l0 x12_1).f4).length c144_4)).heap[gb145]? = some (.cells #[.int .i64 ((rd_T33 l0 x12_1).f0), .bool ((rd_T33 l0 x12_1).f1), .string ((rd_T33 l0 x12_1).f2), .string ((rd_T33 l0 x12_1).f3), .slice A144_4 ((rd_T33 l0 x12_1).f4).length c144_4] 33 (0, 0))) := ⟨by (with_reducible repeat (first | refine blk_drewN ?_ _ | refine blk_drew ?_ | refine blk_alloc ?_ _)); refine blk_put (cs := #[.int .i64 ((rd_T33 l0 x12_1).f0), .bool ((rd_T33 l0 x12_1).f1), .string ((rd_T33 l0 x12_1).f2), .string ((rd_T33 l0 x12_1).f3), .slice none 0 0]) ?_ 4 _ rfl; (with_reducible repeat (first | refine blk_drewN ?_ _ | refine blk_drew ?_ | refine blk_alloc ?_ _)); refine blk_put (cs := #[.int .i64 ((rd_T33 l0 x12_1).f0), .bool ((rd_T33 l0 x12_1).f1), .string ((rd_T33 l0 x12_1).f2), .string (⟨#[]⟩ : ByteArray), .slice none 0 0]) ?_ 3 _ rfl; (with_reducible repeat (first | refine blk_drewN ?_ _ | refine blk_drew ?_ | refine blk_alloc ?_ _)); refine blk_put (cs := #[.int .i64 ((rd_T33 l0 x12_1).f0), .bool ((rd_T33 l0 x12_1).f1), .string (⟨#[]⟩ : ByteArray), .string (⟨#[]⟩ : ByteArray), .slice none 0 0]) ?_ 2 _ rfl; (with_reducible repeat (first | refine blk_drewN ?_ _ | refine blk_drew ?_ | refine blk_alloc ?_ _)); refine blk_put (cs := #[.int .i64 ((rd_T33 l0 x12_1).f0), .bool false, .string (⟨#[]⟩ : ByteArray), .string (⟨#[]⟩ : ByteArray), .slice none 0 0]) ?_ 1 _ rfl; (with_reducible repeat (first | refine blk_drewN ?_ _ | refine blk_drew ?_ | refine blk_alloc ?_ _)); refine blk_put (cs := #[.int .i64 0, .bool false, .string (⟨#[]⟩ : ByteArray), .string (⟨#[]⟩ : ByteArray), .slice none 0 0]) ?_ 0 _ rfl; (with_reducible repeat (first | refine blk_drewN ?_ _ | refine blk_drew ?_ | refine blk_alloc ?_ _)); exact BK145.out⟩
                          have n1_ : Aside0 (Below w.heap.size w (((((w16.setCell ⟨gb145, 0, none⟩ (.int .i64 ((rd_T33 l0 x12_1).f0))).setCell ⟨gb145, 1, none⟩ (.bool ((rd_T33 l0 x12_1).f1))).setCell ⟨gb145, 2, none⟩ (.string ((rd_T33 l0 x12_1).f2))).setCell ⟨gb145, 3, none⟩ (.string ((rd_T33 l0 x12_1).f3))).setCell ⟨gb145, 4, none⟩ (.slice A144_4 ((rd_T33 l0 x12_1).f4).length c144_4))) := ⟨by repeat (first | (with_reducible first | exact HB.out | apply below_alloc | apply pw_below_drewN | apply below_drew1 | refine below_set ?_ GE145.out) | exact HB.out)⟩
                          (try clear BK145)
                          (try clear HB)
                          generalize (((((w16.setCell ⟨gb145, 0, none⟩ (.int .i64 ((rd_T33 l0 x12_1).f0))).setCell ⟨gb145, 1, none⟩ (.bool ((rd_T33 l0 x12_1).f1))).setCell ⟨gb145, 2, none⟩ (.string ((rd_T33 l0 x12_1).f2))).setCell ⟨gb145, 3, none⟩ (.string ((rd_T33 l0 x12_1).f3))).setCell ⟨gb145, 4, none⟩ (.slice A144_4 ((rd_T33 l0 x12_1).f4).length c144_4)) = w18 at n0_ n1_ ⊢
                          have BK145 := n0_
                          have HB := n1_
                          clear n0_ n1_
                          have n0_ := Aside0.mk (blk_drew BK145.out)
                          have n1_ := Aside0.mk (below_drew1 HB.out)
                          clear BK145
                          clear HB
                          have BK145 := n0_
                          have HB := n1_
                          clear n0_ n1_
                          have p147 : 0 ≤ ((ji11) : Int) := of_decide_eq_true (by first | (with_reducible assumption) | assumption)
                          have q147 : (ji11) < (l0.length : Int) := of_decide_eq_true (by first | (with_reducible assumption) | assumption)
                          obtain ⟨ad147, A147_4, c147_4, e147, hx147_0, hx147_1, hx147_2, hx147_3, hx147_4, hl147_4, hi147_4⟩ := at_T33 HR0.out (ji11) p147 q147
                          have hw147_4 := hx147_4
                          have hw147_3 := hx147_3
                          have hw147_2 := hx147_2
                          have hw147_1 := hx147_1
                          have hw147_0 := hx147_0
                          obtain rfl : ad144 = ad147 := (by injection e147)
                          replace hx147_0 := (HB.out.cell (World.block_lt_of_cell? w _ hx147_0)).trans hx147_0
                          replace hx147_1 := (HB.out.cell (World.block_lt_of_cell? w _ hx147_1)).trans hx147_1
                          replace hx147_2 := (HB.out.cell (World.block_lt_of_cell? w _ hx147_2)).trans hx147_2
                          replace hx147_3 := (HB.out.cell (World.block_lt_of_cell? w _ hx147_3)).trans hx147_3
                          replace hx147_4 := (HB.out.cell (World.block_lt_of_cell? w _ hx147_4)).trans hx147_4
                          have HR147_4 := Aside0.mk hi147_4
                          have HC147_4 := Aside0.mk hl147_4
                          clear hi147_4 hl147_4
                          replace p147 := eq_true p147
                          replace q147 := eq_true q147
                          have p148 : 0 ≤ ((ji11) : Int) := of_decide_eq_true (by first | (with_reducible assumption) | assumption)
                          have q148 : (ji11) < (l0.length : Int) := of_decide_eq_true (by first | (with_reducible assumption) | assumption)
                          obtain ⟨ad148, A148_4, c148_4, e148, hx148_0, hx148_1, hx148_2, hx148_3, hx148_4, hl148_4, hi148_4⟩ := at_T33 HR0.out (ji11) p148 q148
                          have hw148_4 := hx148_4
                          have hw148_3 := hx148_3
                          have hw148_2 := hx148_2
                          have hw148_1 := hx148_1
                          have hw148_0 := hx148_0
                          obtain rfl : ad144 = ad148 := (by injection e148)
                          replace hx148_0 := (HB.out.cell (World.block_lt_of_cell? w _ hx148_0)).trans hx148_0
                          replace hx148_1 := (HB.out.cell (World.block_lt_of_cell? w _ hx148_1)).trans hx148_1
                          replace hx148_2 := (HB.out.cell (World.block_lt_of_cell? w _ hx148_2)).trans hx148_2
                          replace hx148_3 := (HB.out.cell (World.block_lt_of_cell? w _ hx148_3)).trans hx148_3
                          replace hx148_4 := (HB.out.cell (World.block_lt_of_cell? w _ hx148_4)).trans hx148_4
                          have HR148_4 := Aside0.mk hi148_4
                          have HC148_4 := Aside0.mk hl148_4
                          clear hi148_4 hl148_4
                          replace p148 := eq_true p148
                          replace q148 := eq_true q148
                          have ea_ := Option.some.inj (hx147_4.symm.trans hx148_4)
                          injection ea_ with ea_ en_ ec_
                          subst ea_
                          subst ec_
                          clear en_
                          refine start_ (n := 28) (S := fun w' => w'.cell? ⟨gb145, 0, none⟩ = some (.int .i64 ((rd_T33 l0 x12_1).f0)) ∧ w'.cell? ⟨gb145, 1, none⟩ = some (.bool ((rd_T33 l0 x12_1).f1)) ∧ w'.cell? ⟨gb145, 2, none⟩ = some (.string ((rd_T33 l0 x12_1).f2)) ∧ w'.cell? ⟨gb145, 3, none⟩ = some (.string ((rd_T33 l0 x12_1).f3)) ∧ w'.cell? ⟨gb145, 4, none⟩ = some (.slice A144_4 ((rd_T33 l0 x12_1).f4).length c144_4) ∧ w'.cell? (ad144.add (((ji11)).toNat * 5)) = some (.int .i64 ((rd_T33 l0 (ji11)).f0)) ∧ w'.cell? ⟨(ad144.add (((ji11)).toNat * 5)).block, (ad144.add (((ji11)).toNat * 5)).off + 1, none⟩ = some (.bool ((rd_T33 l0 (ji11)).f1)) ∧ w'.cell? ⟨(ad144.add (((ji11)).toNat * 5)).block, (ad144.add (((ji11)).toNat * 5)).off + 2, none⟩ = some (.string ((rd_T33 l0 (ji11)).f2)) ∧ w'.cell? ⟨(ad144.add (((ji11)).toNat * 5)).block, (ad144.add (((ji11)).toNat * 5)).off + 3, none⟩ = some (.string ((rd_T33 l0 (ji11)).f3)) ∧ w'.cell? ⟨(ad144.add (((ji11)).toNat * 5)).block, (ad144.add (((ji11)).toNat * 5)).off + 4, none⟩ = some (.slice A147_4 ((rd_T33 l0 (ji11)).f4).length c147_4) ∧ w'.cell? (ad144.add (((ji11)).toNat * 5)) = some (.int .i64 ((rd_T33 l0 (ji11)).f0)) ∧ w'.cell? ⟨(ad144.add (((ji11)).toNat * 5)).block, (ad144.add (((ji11)).toNat * 5)).off + 1, none⟩ = some (.bool ((rd_T33 l0 (ji11)).f1)) ∧ w'.cell? ⟨(ad144.add (((ji11)).toNat * 5)).block, (ad144.add (((ji11)).toNat * 5)).off + 2, none⟩ = some (.string ((rd_T33 l0 (ji11)).f2)) ∧ w'.cell? ⟨(ad144.add (((ji11)).toNat * 5)).block, (ad144.add (((ji11)).toNat * 5)).off + 3, none⟩ = some (.string ((rd_T33 l0 (ji11)).f3)) ∧ w'.cell? ⟨(ad144.add (((ji11)).toNat * 5)).block, (ad144.add (((ji11)).toNat * 5)).off + 4, none⟩ = some (.slice A147_4 ((rd_T33 l0 (ji11)).f4).length c147_4)) (ds := []) #[false, false, false, false, false, false, false, false, false, false, false, false, false, false, false, false, false, false, false, false, false, false, false, false, false, false, false, false] (by kernel_rfl) rfl rfl ⟨(blk_cell BK145.out 0).trans rfl, (blk_cell BK145.out 1).trans rfl, (blk_cell BK145.out 2).trans rfl, (blk_cell BK145.out 3).trans rfl, (blk_cell BK145.out 4).trans rfl, ((HB.out.cell (World.block_lt_of_cell? w _ hw147_0)).trans hw147_0), ((HB.out.cell (World.block_lt_of_cell? w _ hw147_1)).trans hw147_1), ((HB.out.cell (World.block_lt_of_cell? w _ hw147_2)).trans hw147_2), ((HB.out.cell (World.block_lt_of_cell? w _ hw147_3)).trans hw147_3), ((HB.out.cell (World.block_lt_of_cell? w _ hw147_4)).trans hw147_4), ((HB.out.cell (World.block_lt_of_cell? w _ hw148_0)).trans hw148_0), ((HB.out.cell (World.block_lt_of_cell? w _ hw148_1)).trans hw148_1), ((HB.out.cell (World.block_lt_of_cell? w _ hw148_2)).trans hw148_2), ((HB.out.cell (World.block_lt_of_cell? w _ hw148_3)).trans hw148_3), ((HB.out.cell (World.block_lt_of_cell? w _ hw148_4)).trans hw148_4)⟩ (fun hHeld => ?_); refine with_tabW deadfallref03_Parts.tab5 deadfallref03_Parts.bits5 (fun HT_ HW_ => ?_)
                          generalize w18.drew = w19 at BK145 HB HR147_4 HR148_4 hx147_0 hx147_1 hx147_2 hx147_3 hx147_4 hx148_0 hx148_1 hx148_2 hx148_3 hx148_4 hHeld ⊢
                          refine pure_ (i := 1) (N := some 21) (v := ?_) (a' := ?_) #[false, true, false, false, false, false, false, false, false, false, false, false, false, false, false, false, false, false, false, false, false, false, false, false, false, false, false, false] rfl rfl (any_of HT_.out (by kernel_rfl)) (fun _ _ _ h => h) (Or.inl ⟨by rfl, ?_⟩) ?_ ?_
                          rotate_left
                          · intro w'
                            go_simp
                            with_reducible rfl
                          rotate_left
                          · simp only [Act.put, List.setIfInBounds_toArray, List.set_cons_zero, List.set_cons_succ, i64_w, i32_w]
                            rfl
                          refine take_ (i := 0) (N := some 20) (v := ?_) (a' := ?_) #[true, true, false, false, false, false, false, false, false, false, false, false, false, false, false, false, false, false, false, false, false, false, false, false, false, false, false, false] rfl rfl (take_ofW HT_.out HW_.out (by kernel_rfl)) (fun _ _ _ h => h) (Or.inl ⟨by rfl, ?_⟩) hHeld ?_ ?_
                          rotate_left
                          · rintro w' ⟨s0, s1, s2, s3, s4, s5, s6, s7, s8, s9, s10, s11, s12, s13, s14⟩
                            go_simp
                            with_reducible rfl
                          rotate_left
                          · simp only [Act.put, List.setIfInBounds_toArray, List.set_cons_zero, List.set_cons_succ, i64_w, i32_w]
                            rfl
                          refine one_ (i := 2) (N := some 22) #[true, true, true, false, false, false, false, false, false, false, false, false, false, false, false, false, false, false, false, false, false, false, false, false, false, false, false, false] rfl rfl (one_of HT_.out (by kernel_rfl)) (by decide) (fun K hK => ?_)
                          refine goes_ Tryd.func37 (by kernel_rfl) rfl #[.agg #[.int .i64 ((rd_T33 l0 x12_1).f0), .bool ((rd_T33 l0 x12_1).f1), .string ((rd_T33 l0 x12_1).f2), .string ((rd_T33 l0 x12_1).f3), .slice A144_4 ((rd_T33 l0 x12_1).f4).length c144_4], .int .i64 a1] (by rfl) rfl rfl (by (try simp only [List.map_toArray, List.map_cons, List.map_nil]); first | done | rfl | (simp only [List.length_drop, List.length_take]; rfl)) ?_
                          with_reducible refine (deadfallref03_text.calls k1 ((rd_T33 l0 x12_1).f0) ((rd_T33 l0 x12_1).f1) ((rd_T33 l0 x12_1).f2) ((rd_T33 l0 x12_1).f3) _ _ ((rd_T33 l0 x12_1).f4) a1 true _ ?side1 ?side2 A8.out).mono ?_
                          (case side1 => repeat (first | exact (Kd.C_below HR144_4.out HB.out) | (with_reducible refine Kd.C_alloc ?_ _) | (with_reducible refine Kd.C_drewN ?_ _) | (with_reducible refine Kd.C_drew ?_)))
                          (case side2 => exact HC144_4.out)
                          rintro e w20 ⟨rfl, hb⟩
                          refine ⟨_, rfl, ?_⟩
                          have n0_ := Aside0.mk (blk_below (g := gb145) (o := .cells #[.int .i64 ((rd_T33 l0 x12_1).f0), .bool ((rd_T33 l0 x12_1).f1), .string ((rd_T33 l0 x12_1).f2), .string ((rd_T33 l0 x12_1).f3), .slice A144_4 ((rd_T33 l0 x12_1).f4).length c144_4] 33 (0, 0)) (by (with_reducible repeat (first | refine blk_drewN ?_ _ | refine blk_drew ?_ | refine blk_alloc ?_ _)); exact BK145.out) hb)
                          have n1_ := Aside0.mk (below_step (by repeat (first | (with_reducible first | exact HB.out | apply below_alloc | apply pw_below_drewN | apply below_drew1 | refine below_set ?_ GE145.out) | exact HB.out)) hb)
                          clear BK145
                          clear HB
                          have BK145 := n0_
                          have HB := n1_
                          clear n0_ n1_
                          (try clear hb)
                          (try clear hb2)
                          (try clear hk)
                          (try clear hi)
                          refine hK.out _ _ ⟨(blk_cell BK145.out 0).trans rfl, (blk_cell BK145.out 1).trans rfl, (blk_cell BK145.out 2).trans rfl, (blk_cell BK145.out 3).trans rfl, (blk_cell BK145.out 4).trans rfl, ((HB.out.cell (World.block_lt_of_cell? w _ hw147_0)).trans hw147_0), ((HB.out.cell (World.block_lt_of_cell? w _ hw147_1)).trans hw147_1), ((HB.out.cell (World.block_lt_of_cell? w _ hw147_2)).trans hw147_2), ((HB.out.cell (World.block_lt_of_cell? w _ hw147_3)).trans hw147_3), ((HB.out.cell (World.block_lt_of_cell? w _ hw147_4)).trans hw147_4), ((HB.out.cell (World.block_lt_of_cell? w _ hw148_0)).trans hw148_0), ((HB.out.cell (World.block_lt_of_cell? w _ hw148_1)).trans hw148_1), ((HB.out.cell (World.block_lt_of_cell? w _ hw148_2)).trans hw148_2), ((HB.out.cell (World.block_lt_of_cell? w _ hw148_3)).trans hw148_3), ((HB.out.cell (World.block_lt_of_cell? w _ hw148_4)).trans hw148_4)⟩ (fun hHeld => ?_)
                          clear hK K
                          refine norm_ (a' := ?_) ?_ ?_
                          rotate_left
                          · show Act.put _ (some 22) _ = _
                            simp only [Act.put, List.setIfInBounds_toArray, List.set_cons_zero, List.set_cons_succ, i64_w, i32_w]
                            rfl
                          refine pure_ (i := 3) (N := some 23) (v := ?_) (a' := ?_) #[true, true, true, true, false, false, false, false, false, false, false, false, false, false, false, false, false, false, false, false, false, false, false, false, false, false, false, false] rfl rfl (any_of HT_.out (by kernel_rfl)) (fun _ _ _ h => h) (Or.inl ⟨by rfl, ?_⟩) ?_ ?_
                          rotate_left
                          · intro w'
                            go_simp
                            with_reducible rfl
                          rotate_left
                          · simp only [Act.put, List.setIfInBounds_toArray, List.set_cons_zero, List.set_cons_succ, i64_w, i32_w]
                            rfl
                          refine pure_ (i := 4) (N := some 24) (v := ?_) (a' := ?_) #[true, true, true, true, true, false, false, false, false, false, false, false, false, false, false, false, false, false, false, false, false, false, false, false, false, false, false, false] rfl rfl (any_of HT_.out (by kernel_rfl)) (fun _ _ _ h => h) (Or.inl ⟨by rfl, ?_⟩) ?_ ?_
                          rotate_left
                          · intro w'
                            go_simp
                            with_reducible rfl
                          rotate_left
                          · simp only [Act.put, List.setIfInBounds_toArray, List.set_cons_zero, List.set_cons_succ, i64_w, i32_w]
                            rfl
                          refine pure_ (i := 5) (N := some 25) (v := ?_) (a' := ?_) #[true, true, true, true, true, true, false, false, false, false, false, false, false, false, false, false, false, false, false, false, false, false, false, false, false, false, false, false] rfl rfl (any_of HT_.out (by kernel_rfl)) (fun _ _ _ h => h) (Or.inl ⟨by rfl, ?_⟩) ?_ ?_
                          rotate_left
                          · intro w'
                            go_simp
                            with_reducible rfl
                          rotate_left
                          · simp only [Act.put, List.setIfInBounds_toArray, List.set_cons_zero, List.set_cons_succ, i64_w, i32_w]
                            rfl
                          refine pure_ (i := 6) (N := some 26) (v := ?_) (a' := ?_) #[true, true, true, true, true, true, true, false, false, false, false, false, false, false, false, false, false, false, false, false, false, false, false, false, false, false, false, false] rfl rfl (any_of HT_.out (by kernel_rfl)) (fun _ _ _ h => h) (Or.inl ⟨by rfl, ?_⟩) ?_ ?_
                          rotate_left
                          · intro w'
                            go_simp
                            with_reducible rfl
                          rotate_left
                          · simp only [Act.put, List.setIfInBounds_toArray, List.set_cons_zero, List.set_cons_succ, i64_w, i32_w]
                            rfl
                          refine pure_ (i := 7) (N := some 27) (v := ?_) (a' := ?_) #[true, true, true, true, true, true, true, true, false, false, false, false, false, false, false, false, false, false, false, false, false, false, false, false, false, false, false, false] rfl rfl (any_of HT_.out (by kernel_rfl)) (fun _ _ _ h => h) (Or.inl ⟨by rfl, ?_⟩) ?_ ?_
                          rotate_left
                          · intro w'
                            go_simp
                            with_reducible rfl
                          rotate_left
                          · simp only [Act.put, List.setIfInBounds_toArray, List.set_cons_zero, List.set_cons_succ, i64_w, i32_w]
                            rfl
                          refine pure_ (i := 8) (N := some 28) (v := ?_) (a' := ?_) #[true, true, true, true, true, true, true, true, true, false, false, false, false, false, false, false, false, false, false, false, false, false, false, false, false, false, false, false] rfl rfl (any_of HT_.out (by kernel_rfl)) (fun _ _ _ h => h) (Or.inl ⟨by rfl, ?_⟩) ?_ ?_
                          rotate_left
                          · intro w'
                            go_simp
                            with_reducible rfl
                          rotate_left
                          · simp only [Act.put, List.setIfInBounds_toArray, List.set_cons_zero, List.set_cons_succ, i64_w, i32_w]
                            rfl
                          refine pure_ (i := 9) (N := some 29) (v := ?_) (a' := ?_) #[true, true, true, true, true, true, true, true, true, true, false, false, false, false, false, false, false, false, false, false, false, false, false, false, false, false, false, false] rfl rfl (any_of HT_.out (by kernel_rfl)) (fun _ _ _ h => h) (Or.inl ⟨by rfl, ?_⟩) ?_ ?_
                          rotate_left
                          · intro w'
                            go_simp
                            with_reducible rfl
                          rotate_left
                          · simp only [Act.put, List.setIfInBounds_toArray, List.set_cons_zero, List.set_cons_succ, i64_w, i32_w]
                            rfl
                          refine pure_ (i := 10) (N := some 30) (v := ?_) (a' := ?_) #[true, true, true, true, true, true, true, true, true, true, true, false, false, false, false, false, false, false, false, false, false, false, false, false, false, false, false, false] rfl rfl (any_of HT_.out (by kernel_rfl)) (fun _ _ _ h => h) (Or.inl ⟨by rfl, ?_⟩) ?_ ?_
                          rotate_left
                          · intro w'
                            go_simp
                            with_reducible rfl
                          rotate_left
                          · simp only [Act.put, List.setIfInBounds_toArray, List.set_cons_zero, List.set_cons_succ, i64_w, i32_w]
                            rfl
                          refine pure_ (i := 11) (N := some 31) (v := ?_) (a' := ?_) #[true, true, true, true, true, true, true, true, true, true, true, true, false, false, false, false, false, false, false, false, false, false, false, false, false, false, false, false] rfl rfl (any_of HT_.out (by kernel_rfl)) (fun _ _ _ h => h) (Or.inl ⟨by rfl, ?_⟩) ?_ ?_
                          rotate_left
                          · intro w'
                            go_simp
                            with_reducible rfl
                          rotate_left
                          · simp only [Act.put, List.setIfInBounds_toArray, List.set_cons_zero, List.set_cons_succ, i64_w, i32_w]
                            rfl
                          refine pure_ (i := 12) (N := some 32) (v := ?_) (a' := ?_) #[true, true, true, true, true, true, true, true, true, true, true, true, true, false, false, false, false, false, false, false, false, false, false, false, false, false, false, false] rfl rfl (any_of HT_.out (by kernel_rfl)) (fun _ _ _ h => h) (Or.inl ⟨by rfl, ?_⟩) ?_ ?_
                          rotate_left
                          · intro w'
                            go_simp
                            with_reducible rfl
                          rotate_left
                          · simp only [Act.put, List.setIfInBounds_toArray, List.set_cons_zero, List.set_cons_succ, i64_w, i32_w]
                            rfl
                          refine take_ (i := 13) (N := some 33) (v := ?_) (a' := ?_) #[true, true, true, true, true, true, true, true, true, true, true, true, true, true, false, false, false, false, false, false, false, false, false, false, false, false, false, false] rfl rfl (take_ofW HT_.out HW_.out (by kernel_rfl)) (fun _ _ _ h => h) (Or.inl ⟨by rfl, ?_⟩) hHeld ?_ ?_
                          rotate_left
                          · rintro w' ⟨s0, s1, s2, s3, s4, s5, s6, s7, s8, s9, s10, s11, s12, s13, s14⟩
                            go_simp
                            with_reducible rfl
                          rotate_left
                          · simp only [Act.put, List.setIfInBounds_toArray, List.set_cons_zero, List.set_cons_succ, i64_w, i32_w]
                            rfl
                          refine pure_ (i := 14) (N := some 34) (v := ?_) (a' := ?_) #[true, true, true, true, true, true, true, true, true, true, true, true, true, true, true, false, false, false, false, false, false, false, false, false, false, false, false, false] rfl rfl (any_of HT_.out (by kernel_rfl)) (fun _ _ _ h => h) (Or.inl ⟨by rfl, ?_⟩) ?_ ?_
                          rotate_left
                          · intro w'
                            go_simp
                            with_reducible rfl
                          rotate_left
                          · simp only [Act.put, List.setIfInBounds_toArray, List.set_cons_zero, List.set_cons_succ, i64_w, i32_w]
                            rfl
                          refine pure_ (i := 15) (N := some 35) (v := ?_) (a' := ?_) #[true, true, true, true, true, true, true, true, true, true, true, true, true, true, true, true, false, false, false, false, false, false, false, false, false, false, false, false] rfl rfl (any_of HT_.out (by kernel_rfl)) (fun _ _ _ h => h) (Or.inl ⟨by rfl, ?_⟩) ?_ ?_
                          rotate_left
                          · intro w'
                            go_simp
                            with_reducible rfl
                          rotate_left
                          · simp only [Act.put, List.setIfInBounds_toArray, List.set_cons_zero, List.set_cons_succ, i64_w, i32_w]
                            rfl
                          refine pure_ (i := 16) (N := some 36) (v := ?_) (a' := ?_) #[true, true, true, true, true, true, true, true, true, true, true, true, true, true, true, true, true, false, false, false, false, false, false, false, false, false, false, false] rfl rfl (any_of HT_.out (by kernel_rfl)) (fun _ _ _ h => h) (Or.inl ⟨by rfl, ?_⟩) ?_ ?_
                          rotate_left
                          · intro w'
                            go_simp
                            with_reducible rfl
                          rotate_left
                          · simp only [Act.put, List.setIfInBounds_toArray, List.set_cons_zero, List.set_cons_succ, i64_w, i32_w]
                            rfl
                          refine pure_ (i := 17) (N := some 37) (v := ?_) (a' := ?_) #[true, true, true, true, true, true, true, true, true, true, true, true, true, true, true, true, true, true, false, false, false, false, false, false, false, false, false, false] rfl rfl (any_of HT_.out (by kernel_rfl)) (fun _ _ _ h => h) (Or.inl ⟨by rfl, ?_⟩) ?_ ?_
                          rotate_left
                          · intro w'
                            go_simp
                            with_reducible rfl
                          rotate_left
                          · simp only [Act.put, List.setIfInBounds_toArray, List.set_cons_zero, List.set_cons_succ, i64_w, i32_w]
                            rfl
                          refine pure_ (i := 18) (N := some 38) (v := ?_) (a' := ?_) #[true, true, true, true, true, true, true, true, true, true, true, true, true, true, true, true, true, true, true, false, false, false, false, false, false, false, false, false] rfl rfl (any_of HT_.out (by kernel_rfl)) (fun _ _ _ h => h) (Or.inl ⟨by rfl, ?_⟩) ?_ ?_
                          rotate_left
                          · intro w'
                            go_simp
                            with_reducible rfl
                          rotate_left
                          · simp only [Act.put, List.setIfInBounds_toArray, List.set_cons_zero, List.set_cons_succ, i64_w, i32_w]
                            rfl
                          refine pure_ (i := 19) (N := some 39) (v := ?_) (a' := ?_) #[true, true, true, true, true, true, true, true, true, true, true, true, true, true, true, true, true, true, true, true, false, false, false, false, false, false, false, false] rfl rfl (any_of HT_.out (by kernel_rfl)) (fun _ _ _ h => h) (Or.inl ⟨by rfl, ?_⟩) ?_ ?_
                          rotate_left
                          · intro w'
                            go_simp
                            with_reducible rfl
                          rotate_left
                          · simp only [Act.put, List.setIfInBounds_toArray, List.set_cons_zero, List.set_cons_succ, i64_w, i32_w]
                            rfl
                          refine pure_ (i := 20) (N := some 40) (v := ?_) (a' := ?_) #[true, true, true, true, true, true, true, true, true, true, true, true, true, true, true, true, true, true, true, true, true, false, false, false, false, false, false, false] rfl rfl (any_of HT_.out (by kernel_rfl)) (fun _ _ _ h => h) (Or.inl ⟨by rfl, ?_⟩) ?_ ?_
                          rotate_left
                          · intro w'
                            go_simp
                            with_reducible rfl
                          rotate_left
                          · simp only [Act.put, List.setIfInBounds_toArray, List.set_cons_zero, List.set_cons_succ, i64_w, i32_w]
                            rfl
                          refine pure_ (i := 21) (N := some 41) (v := ?_) (a' := ?_) #[true, true, true, true, true, true, true, true, true, true, true, true, true, true, true, true, true, true, true, true, true, true, false, false, false, false, false, false] rfl rfl (any_of HT_.out (by kernel_rfl)) (fun _ _ _ h => h) (Or.inl ⟨by rfl, ?_⟩) ?_ ?_
                          rotate_left
                          · intro w'
                            go_simp
                            with_reducible rfl
                          rotate_left
                          · simp only [Act.put, List.setIfInBounds_toArray, List.set_cons_zero, List.set_cons_succ, i64_w, i32_w]
                            rfl
                          refine pure_ (i := 23) (N := some 43) (v := ?_) (a' := ?_) #[true, true, true, true, true, true, true, true, true, true, true, true, true, true, true, true, true, true, true, true, true, true, false, true, false, false, false, false] rfl rfl (any_of HT_.out (by kernel_rfl)) (fun _ _ _ h => h) (Or.inl ⟨by rfl, ?_⟩) ?_ ?_
                          rotate_left
                          · intro w'
                            go_simp
                            with_reducible rfl
                          rotate_left
                          · simp only [Act.put, List.setIfInBounds_toArray, List.set_cons_zero, List.set_cons_succ, i64_w, i32_w]
                            rfl
                          refine take_ (i := 22) (N := some 42) (v := ?_) (a' := ?_) #[true, true, true, true, true, true, true, true, true, true, true, true, true, true, true, true, true, true, true, true, true, true, true, true, false, false, false, false] rfl rfl (take_ofW HT_.out HW_.out (by kernel_rfl)) (fun _ _ _ h => h) (Or.inl ⟨by rfl, ?_⟩) hHeld ?_ ?_
                          rotate_left
                          · rintro w' ⟨s0, s1, s2, s3, s4, s5, s6, s7, s8, s9, s10, s11, s12, s13, s14⟩
                            go_simp
                            with_reducible rfl
                          rotate_left
                          · simp only [Act.put, List.setIfInBounds_toArray, List.set_cons_zero, List.set_cons_succ, i64_w, i32_w]
                            rfl
                          refine take_ (i := 24) (N := some 44) (v := ?_) (a' := ?_) #[true, true, true, true, true, true, true, true, true, true, true, true, true, true, true, true, true, true, true, true, true, true, true, true, true, false, false, false] rfl rfl (take_ofW HT_.out HW_.out (by kernel_rfl)) (fun _ _ _ h => h) (Or.inl ⟨by rfl, ?_⟩) hHeld ?_ ?_
                          rotate_left
                          · rintro w' ⟨s0, s1, s2, s3, s4, s5, s6, s7, s8, s9, s10, s11, s12, s13, s14⟩
                            go_simp
                            with_reducible rfl
                          rotate_left
                          · simp only [Act.put, List.setIfInBounds_toArray, List.set_cons_zero, List.set_cons_succ, i64_w, i32_w]
                            rfl
                          refine pure_ (i := 25) (N := some 45) (v := ?_) (a' := ?_) #[true, true, true, true, true, true, true, true, true, true, true, true, true, true, true, true, true, true, true, true, true, true, true, true, true, true, false, false] rfl rfl (any_of HT_.out (by kernel_rfl)) (fun _ _ _ h => h) (Or.inl ⟨by rfl, ?_⟩) ?_ ?_
                          rotate_left
                          · intro w'
                            go_simp
                            with_reducible rfl
                          rotate_left
                          · simp only [Act.put, List.setIfInBounds_toArray, List.set_cons_zero, List.set_cons_succ, i64_w, i32_w]
                            rfl
                          refine pure_ (i := 26) (N := some 46) (v := ?_) (a' := ?_) #[true, true, true, true, true, true, true, true, true, true, true, true, true, true, true, true, true, true, true, true, true, true, true, true, true, true, true, false] rfl rfl (any_of HT_.out (by kernel_rfl)) (fun _ _ _ h => h) (Or.inl ⟨by rfl, ?_⟩) ?_ ?_
                          rotate_left
                          · intro w'
                            go_simp
                            with_reducible rfl
                          rotate_left
                          · simp only [Act.put, List.setIfInBounds_toArray, List.set_cons_zero, List.set_cons_succ, i64_w, i32_w]
                            rfl
                          refine pure_ (i := 27) (N := some 47) (v := ?_) (a' := ?_) #[true, true, true, true, true, true, true, true, true, true, true, true, true, true, true, true, true, true, true, true, true, true, true, true, true, true, true, true] rfl rfl (any_of HT_.out (by kernel_rfl)) (fun _ _ _ h => h) (Or.inl ⟨by rfl, ?_⟩) ?_ ?_
                          rotate_left
                          · intro w'
                            go_simp
                            with_reducible rfl
                          rotate_left
                          · simp only [Act.put, List.setIfInBounds_toArray, List.set_cons_zero, List.set_cons_succ, i64_w, i32_w]
                            rfl
                          refine done_ (done_of HT_.out (by kernel_rfl)) ?_
                          try go_wp2
                          go_ret
                          exact ⟨by first | rfl | (simp [errW_none, errW_some] <;> rfl) | (simp only [← hji11]; first | rfl | (simp [errW_none, errW_some] <;> rfl)) | (simp [*, errW_none, errW_some] <;> rfl), by repeat (first | (with_reducible first | exact HB.out | apply below_alloc | apply pw_below_drewN | apply below_drew1 | refine below_set ?_ GE145.out) | exact HB.out)⟩
                        · rw [if_neg c15] at H
                          have c15b0 : (((rd_T33 l0 (ji11)).f1) == ((rd_T33 l0 x12_1).f1)) = false := by simpa using c15
                          (try (have c15b1 : decide (((rd_T33 l0 (ji11)).f1) = ((rd_T33 l0 x12_1).f1)) = false := by simpa using c15))
                          (try (have c15b2 : (((rd_T33 l0 (ji11)).f1) == ((rd_T33 l0 x12_1).f1)) = false := by simpa using c15))
                          (try (have c15b3 : ¬ (((rd_T33 l0 (ji11)).f1) = ((rd_T33 l0 x12_1).f1)) := by simpa using c15))
                          clear c15
                          have H' := Aside0.mk H
                          clear H
                          have p144 : 0 ≤ (x12_1 : Int) := of_decide_eq_true (by first | (with_reducible assumption) | assumption)
                          have q144 : x12_1 < (l0.length : Int) := of_decide_eq_true (by first | (with_reducible assumption) | assumption)
                          obtain ⟨ad144, A144_4, c144_4, e144, hx144_0, hx144_1, hx144_2, hx144_3, hx144_4, hl144_4, hi144_4⟩ := at_T33 HR0.out x12_1 p144 q144
                          cases e144
                          replace hx144_0 := (HB.out.cell (World.block_lt_of_cell? w _ hx144_0)).trans hx144_0
                          replace hx144_1 := (HB.out.cell (World.block_lt_of_cell? w _ hx144_1)).trans hx144_1
                          replace hx144_2 := (HB.out.cell (World.block_lt_of_cell? w _ hx144_2)).trans hx144_2
                          replace hx144_3 := (HB.out.cell (World.block_lt_of_cell? w _ hx144_3)).trans hx144_3
                          replace hx144_4 := (HB.out.cell (World.block_lt_of_cell? w _ hx144_4)).trans hx144_4
                          have HR144_4 := Aside0.mk hi144_4
                          have HC144_4 := Aside0.mk hl144_4
                          clear hi144_4 hl144_4
                          replace p144 := eq_true p144
                          replace q144 := eq_true q144
                          try go_wp2_with (first | ((with_reducible refine gate_dst (N := 8) rfl ?_); (try (refine gate_guard (by rfl) ?_; dsimp only)); refine box_event ?hg (N := 8) ?hd (cs := #[.int .i64 0, .bool false, .string (⟨#[]⟩ : ByteArray), .string (⟨#[]⟩ : ByteArray), .slice none 0 0]) (t := 33) ?hr ?_; (case hd => rfl); (case hg => rfl); (case hr => first | (go_simp; done) | (go_simp; rfl)); intro gb145 hg w21 hbox hb; have n0_ := Aside0.mk (below_step (by repeat (first | (with_reducible first | exact HB.out | apply below_alloc | apply pw_below_drewN | apply below_drew1) | exact HB.out)) hb); have n1_ := Aside0.mk (hbox); have n2_ := Aside0.mk ((by rw [hg]; exact (below_size (by repeat (first | (with_reducible first | exact HB.out | apply below_alloc | apply pw_below_drewN | apply below_drew1) | exact HB.out))) : w.heap.size ≤ gb145)); have n3_ := Aside0.mk ((by rw [hg]; exact (below_size (by repeat (first | (with_reducible first | exact HB.out | apply below_alloc | apply pw_below_drewN | apply below_drew1) | exact HB.out))) : w.heap.size ≤ gb145)); clear HB; have HB := n0_; have BK145 := n1_; have GW145 := n2_; have GE145 := n3_; clear n0_ n1_ n2_ n3_; clear hb hbox hg; have hcz22_0 : w21.cell? ⟨gb145, 0, none⟩ = some (.int .i64 0) := (blk_cell BK145.out 0).trans rfl; have hcz22_1 : w21.cell? ⟨gb145, 1, none⟩ = some (.bool false) := (blk_cell BK145.out 1).trans rfl; have hcz22_2 : w21.cell? ⟨gb145, 2, none⟩ = some (.string (⟨#[]⟩ : ByteArray)) := (blk_cell BK145.out 2).trans rfl; have hcz22_3 : w21.cell? ⟨gb145, 3, none⟩ = some (.string (⟨#[]⟩ : ByteArray)) := (blk_cell BK145.out 3).trans rfl; have hcz22_4 : w21.cell? ⟨gb145, 4, none⟩ = some (.slice none 0 0) := (blk_cell BK145.out 4).trans rfl; have hfz22_0 := blk_frozen BK145.out 0; have hfz22_1 := blk_frozen BK145.out 1; have hfz22_2 := blk_frozen BK145.out 2; have hfz22_3 := blk_frozen BK145.out 3; have hfz22_4 := blk_frozen BK145.out 4))
                          have n0_ : Aside0 ((((((w21.setCell ⟨gb145, 0, none⟩ (.int .i64 ((rd_T33 l0 x12_1).f0))).setCell ⟨gb145, 1, none⟩ (.bool ((rd_T33 l0 x12_1).f1))).setCell ⟨gb145, 2, none⟩ (.string ((rd_T33 l0 x12_1).f2))).setCell ⟨gb145, 3, none⟩ (.string ((rd_T33 l0 x12_1).f3))).setCell ⟨gb145, 4, none⟩ (.slice A144_4 ((rd_T33 l0 x12_1).f4).length c144_4)).heap[gb145]? = some (.cells #[.int .i64 ((rd_T33 l0 x12_1).f0), .bool ((rd_T33 l0 x12_1).f1), .string ((rd_T33 l0 x12_1).f2), .string ((rd_T33 l0 x12_1).f3), .slice A144_4 ((rd_T33 l0 x12_1).f4).length c144_4] 33 (0, 0))) := ⟨by (with_reducible repeat (first | refine blk_drewN ?_ _ | refine blk_drew ?_ | refine blk_alloc ?_ _)); refine blk_put (cs := #[.int .i64 ((rd_T33 l0 x12_1).f0), .bool ((rd_T33 l0 x12_1).f1), .string ((rd_T33 l0 x12_1).f2), .string ((rd_T33 l0 x12_1).f3), .slice none 0 0]) ?_ 4 _ rfl; (with_reducible repeat (first | refine blk_drewN ?_ _ | refine blk_drew ?_ | refine blk_alloc ?_ _)); refine blk_put (cs := #[.int .i64 ((rd_T33 l0 x12_1).f0), .bool ((rd_T33 l0 x12_1).f1), .string ((rd_T33 l0 x12_1).f2), .string (⟨#[]⟩ : ByteArray), .slice none 0 0]) ?_ 3 _ rfl; (with_reducible repeat (first | refine blk_drewN ?_ _ | refine blk_drew ?_ | refine blk_alloc ?_ _)); refine blk_put (cs := #[.int .i64 ((rd_T33 l0 x12_1).f0), .bool ((rd_T33 l0 x12_1).f1), .string (⟨#[]⟩ : ByteArray), .string (⟨#[]⟩ : ByteArray), .slice none 0 0]) ?_ 2 _ rfl; (with_reducible repeat (first | refine blk_drewN ?_ _ | refine blk_drew ?_ | refine blk_alloc ?_ _)); refine blk_put (cs := #[.int .i64 ((rd_T33 l0 x12_1).f0), .bool false, .string (⟨#[]⟩ : ByteArray), .string (⟨#[]⟩ : ByteArray), .slice none 0 0]) ?_ 1 _ rfl; (with_reducible repeat (first | refine blk_drewN ?_ _ | refine blk_drew ?_ | refine blk_alloc ?_ _)); refine blk_put (cs := #[.int .i64 0, .bool false, .string (⟨#[]⟩ : ByteArray), .string (⟨#[]⟩ : ByteArray), .slice none 0 0]) ?_ 0 _ rfl; (with_reducible repeat (first | refine blk_drewN ?_ _ | refine blk_drew ?_ | refine blk_alloc ?_ _)); exact BK145.out⟩
                          have n1_ : Aside0 (Below w.heap.size w (((((w21.setCell ⟨gb145, 0, none⟩ (.int .i64 ((rd_T33 l0 x12_1).f0))).setCell ⟨gb145, 1, none⟩ (.bool ((rd_T33 l0 x12_1).f1))).setCell ⟨gb145, 2, none⟩ (.string ((rd_T33 l0 x12_1).f2))).setCell ⟨gb145, 3, none⟩ (.string ((rd_T33 l0 x12_1).f3))).setCell ⟨gb145, 4, none⟩ (.slice A144_4 ((rd_T33 l0 x12_1).f4).length c144_4))) := ⟨by repeat (first | (with_reducible first | exact HB.out | apply below_alloc | apply pw_below_drewN | apply below_drew1 | refine below_set ?_ GE145.out) | exact HB.out)⟩
                          (try clear BK145)
                          (try clear HB)
                          generalize (((((w21.setCell ⟨gb145, 0, none⟩ (.int .i64 ((rd_T33 l0 x12_1).f0))).setCell ⟨gb145, 1, none⟩ (.bool ((rd_T33 l0 x12_1).f1))).setCell ⟨gb145, 2, none⟩ (.string ((rd_T33 l0 x12_1).f2))).setCell ⟨gb145, 3, none⟩ (.string ((rd_T33 l0 x12_1).f3))).setCell ⟨gb145, 4, none⟩ (.slice A144_4 ((rd_T33 l0 x12_1).f4).length c144_4)) = w23 at n0_ n1_ ⊢
                          have BK145 := n0_
                          have HB := n1_
                          clear n0_ n1_
                          have n0_ := Aside0.mk (blk_drew BK145.out)
                          have n1_ := Aside0.mk (below_drew1 HB.out)
                          clear BK145
                          clear HB
                          have BK145 := n0_
                          have HB := n1_
                          clear n0_ n1_
                          have p147 : 0 ≤ ((ji11) : Int) := of_decide_eq_true (by first | (with_reducible assumption) | assumption)
                          have q147 : (ji11) < (l0.length : Int) := of_decide_eq_true (by first | (with_reducible assumption) | assumption)
                          obtain ⟨ad147, A147_4, c147_4, e147, hx147_0, hx147_1, hx147_2, hx147_3, hx147_4, hl147_4, hi147_4⟩ := at_T33 HR0.out (ji11) p147 q147
                          have hw147_4 := hx147_4
                          have hw147_3 := hx147_3
                          have hw147_2 := hx147_2
                          have hw147_1 := hx147_1
                          have hw147_0 := hx147_0
                          obtain rfl : ad144 = ad147 := (by injection e147)
                          replace hx147_0 := (HB.out.cell (World.block_lt_of_cell? w _ hx147_0)).trans hx147_0
                          replace hx147_1 := (HB.out.cell (World.block_lt_of_cell? w _ hx147_1)).trans hx147_1
                          replace hx147_2 := (HB.out.cell (World.block_lt_of_cell? w _ hx147_2)).trans hx147_2
                          replace hx147_3 := (HB.out.cell (World.block_lt_of_cell? w _ hx147_3)).trans hx147_3
                          replace hx147_4 := (HB.out.cell (World.block_lt_of_cell? w _ hx147_4)).trans hx147_4
                          have HR147_4 := Aside0.mk hi147_4
                          have HC147_4 := Aside0.mk hl147_4
                          clear hi147_4 hl147_4
                          replace p147 := eq_true p147
                          replace q147 := eq_true q147
                          have p148 : 0 ≤ ((ji11) : Int) := of_decide_eq_true (by first | (with_reducible assumption) | assumption)
                          have q148 : (ji11) < (l0.length : Int) := of_decide_eq_true (by first | (with_reducible assumption) | assumption)
                          obtain ⟨ad148, A148_4, c148_4, e148, hx148_0, hx148_1, hx148_2, hx148_3, hx148_4, hl148_4, hi148_4⟩ := at_T33 HR0.out (ji11) p148 q148
                          have hw148_4 := hx148_4
                          have hw148_3 := hx148_3
                          have hw148_2 := hx148_2
                          have hw148_1 := hx148_1
                          have hw148_0 := hx148_0
                          obtain rfl : ad144 = ad148 := (by injection e148)
                          replace hx148_0 := (HB.out.cell (World.block_lt_of_cell? w _ hx148_0)).trans hx148_0
                          replace hx148_1 := (HB.out.cell (World.block_lt_of_cell? w _ hx148_1)).trans hx148_1
                          replace hx148_2 := (HB.out.cell (World.block_lt_of_cell? w _ hx148_2)).trans hx148_2
                          replace hx148_3 := (HB.out.cell (World.block_lt_of_cell? w _ hx148_3)).trans hx148_3
                          replace hx148_4 := (HB.out.cell (World.block_lt_of_cell? w _ hx148_4)).trans hx148_4
                          have HR148_4 := Aside0.mk hi148_4
                          have HC148_4 := Aside0.mk hl148_4
                          clear hi148_4 hl148_4
                          replace p148 := eq_true p148
                          replace q148 := eq_true q148
                          have ea_ := Option.some.inj (hx147_4.symm.trans hx148_4)
                          injection ea_ with ea_ en_ ec_
                          subst ea_
                          subst ec_
                          clear en_
                          refine start_ (n := 28) (S := fun w' => w'.cell? ⟨gb145, 0, none⟩ = some (.int .i64 ((rd_T33 l0 x12_1).f0)) ∧ w'.cell? ⟨gb145, 1, none⟩ = some (.bool ((rd_T33 l0 x12_1).f1)) ∧ w'.cell? ⟨gb145, 2, none⟩ = some (.string ((rd_T33 l0 x12_1).f2)) ∧ w'.cell? ⟨gb145, 3, none⟩ = some (.string ((rd_T33 l0 x12_1).f3)) ∧ w'.cell? ⟨gb145, 4, none⟩ = some (.slice A144_4 ((rd_T33 l0 x12_1).f4).length c144_4) ∧ w'.cell? (ad144.add (((ji11)).toNat * 5)) = some (.int .i64 ((rd_T33 l0 (ji11)).f0)) ∧ w'.cell? ⟨(ad144.add (((ji11)).toNat * 5)).block, (ad144.add (((ji11)).toNat * 5)).off + 1, none⟩ = some (.bool ((rd_T33 l0 (ji11)).f1)) ∧ w'.cell? ⟨(ad144.add (((ji11)).toNat * 5)).block, (ad144.add (((ji11)).toNat * 5)).off + 2, none⟩ = some (.string ((rd_T33 l0 (ji11)).f2)) ∧ w'.cell? ⟨(ad144.add (((ji11)).toNat * 5)).block, (ad144.add (((ji11)).toNat * 5)).off + 3, none⟩ = some (.string ((rd_T33 l0 (ji11)).f3)) ∧ w'.cell? ⟨(ad144.add (((ji11)).toNat * 5)).block, (ad144.add (((ji11)).toNat * 5)).off + 4, none⟩ = some (.slice A147_4 ((rd_T33 l0 (ji11)).f4).length c147_4) ∧ w'.cell? (ad144.add (((ji11)).toNat * 5)) = some (.int .i64 ((rd_T33 l0 (ji11)).f0)) ∧ w'.cell? ⟨(ad144.add (((ji11)).toNat * 5)).block, (ad144.add (((ji11)).toNat * 5)).off + 1, none⟩ = some (.bool ((rd_T33 l0 (ji11)).f1)) ∧ w'.cell? ⟨(ad144.add (((ji11)).toNat * 5)).block, (ad144.add (((ji11)).toNat * 5)).off + 2, none⟩ = some (.string ((rd_T33 l0 (ji11)).f2)) ∧ w'.cell? ⟨(ad144.add (((ji11)).toNat * 5)).block, (ad144.add (((ji11)).toNat * 5)).off + 3, none⟩ = some (.string ((rd_T33 l0 (ji11)).f3)) ∧ w'.cell? ⟨(ad144.add (((ji11)).toNat * 5)).block, (ad144.add (((ji11)).toNat * 5)).off + 4, none⟩ = some (.slice A147_4 ((rd_T33 l0 (ji11)).f4).length c147_4)) (ds := []) #[false, false, false, false, false, false, false, false, false, false, false, false, false, false, false, false, false, false, false, false, false, false, false, false, false, false, false, false] (by kernel_rfl) rfl rfl ⟨(blk_cell BK145.out 0).trans rfl, (blk_cell BK145.out 1).trans rfl, (blk_cell BK145.out 2).trans rfl, (blk_cell BK145.out 3).trans rfl, (blk_cell BK145.out 4).trans rfl, ((HB.out.cell (World.block_lt_of_cell? w _ hw147_0)).trans hw147_0), ((HB.out.cell (World.block_lt_of_cell? w _ hw147_1)).trans hw147_1), ((HB.out.cell (World.block_lt_of_cell? w _ hw147_2)).trans hw147_2), ((HB.out.cell (World.block_lt_of_cell? w _ hw147_3)).trans hw147_3), ((HB.out.cell (World.block_lt_of_cell? w _ hw147_4)).trans hw147_4), ((HB.out.cell (World.block_lt_of_cell? w _ hw148_0)).trans hw148_0), ((HB.out.cell (World.block_lt_of_cell? w _ hw148_1)).trans hw148_1), ((HB.out.cell (World.block_lt_of_cell? w _ hw148_2)).trans hw148_2), ((HB.out.cell (World.block_lt_of_cell? w _ hw148_3)).trans hw148_3), ((HB.out.cell (World.block_lt_of_cell? w _ hw148_4)).trans hw148_4)⟩ (fun hHeld => ?_); refine with_tabW deadfallref03_Parts.tab5 deadfallref03_Parts.bits5 (fun HT_ HW_ => ?_)
                          generalize w23.drew = w24 at BK145 HB HR147_4 HR148_4 hx147_0 hx147_1 hx147_2 hx147_3 hx147_4 hx148_0 hx148_1 hx148_2 hx148_3 hx148_4 hHeld ⊢
                          refine pure_ (i := 1) (N := some 21) (v := ?_) (a' := ?_) #[false, true, false, false, false, false, false, false, false, false, false, false, false, false, false, false, false, false, false, false, false, false, false, false, false, false, false, false] rfl rfl (any_of HT_.out (by kernel_rfl)) (fun _ _ _ h => h) (Or.inl ⟨by rfl, ?_⟩) ?_ ?_
                          rotate_left
                          · intro w'
                            go_simp
                            with_reducible rfl
                          rotate_left
                          · simp only [Act.put, List.setIfInBounds_toArray, List.set_cons_zero, List.set_cons_succ, i64_w, i32_w]
                            rfl
                          refine take_ (i := 0) (N := some 20) (v := ?_) (a' := ?_) #[true, true, false, false, false, false, false, false, false, false, false, false, false, false, false, false, false, false, false, false, false, false, false, false, false, false, false, false] rfl rfl (take_ofW HT_.out HW_.out (by kernel_rfl)) (fun _ _ _ h => h) (Or.inl ⟨by rfl, ?_⟩) hHeld ?_ ?_
                          rotate_left
                          · rintro w' ⟨s0, s1, s2, s3, s4, s5, s6, s7, s8, s9, s10, s11, s12, s13, s14⟩
                            go_simp
                            with_reducible rfl
                          rotate_left
                          · simp only [Act.put, List.setIfInBounds_toArray, List.set_cons_zero, List.set_cons_succ, i64_w, i32_w]
                            rfl
                          refine one_ (i := 2) (N := some 22) #[true, true, true, false, false, false, false, false, false, false, false, false, false, false, false, false, false, false, false, false, false, false, false, false, false, false, false, false] rfl rfl (one_of HT_.out (by kernel_rfl)) (by decide) (fun K hK => ?_)
                          refine goes_ Tryd.func37 (by kernel_rfl) rfl #[.agg #[.int .i64 ((rd_T33 l0 x12_1).f0), .bool ((rd_T33 l0 x12_1).f1), .string ((rd_T33 l0 x12_1).f2), .string ((rd_T33 l0 x12_1).f3), .slice A144_4 ((rd_T33 l0 x12_1).f4).length c144_4], .int .i64 a1] (by rfl) rfl rfl (by (try simp only [List.map_toArray, List.map_cons, List.map_nil]); first | done | rfl | (simp only [List.length_drop, List.length_take]; rfl)) ?_
                          with_reducible refine (deadfallref03_text.calls k1 ((rd_T33 l0 x12_1).f0) ((rd_T33 l0 x12_1).f1) ((rd_T33 l0 x12_1).f2) ((rd_T33 l0 x12_1).f3) _ _ ((rd_T33 l0 x12_1).f4) a1 true _ ?side1 ?side2 A8.out).mono ?_
                          (case side1 => repeat (first | exact (Kd.C_below HR144_4.out HB.out) | (with_reducible refine Kd.C_alloc ?_ _) | (with_reducible refine Kd.C_drewN ?_ _) | (with_reducible refine Kd.C_drew ?_)))
                          (case side2 => exact HC144_4.out)
                          rintro e w25 ⟨rfl, hb⟩
                          refine ⟨_, rfl, ?_⟩
                          have n0_ := Aside0.mk (blk_below (g := gb145) (o := .cells #[.int .i64 ((rd_T33 l0 x12_1).f0), .bool ((rd_T33 l0 x12_1).f1), .string ((rd_T33 l0 x12_1).f2), .string ((rd_T33 l0 x12_1).f3), .slice A144_4 ((rd_T33 l0 x12_1).f4).length c144_4] 33 (0, 0)) (by (with_reducible repeat (first | refine blk_drewN ?_ _ | refine blk_drew ?_ | refine blk_alloc ?_ _)); exact BK145.out) hb)
                          have n1_ := Aside0.mk (below_step (by repeat (first | (with_reducible first | exact HB.out | apply below_alloc | apply pw_below_drewN | apply below_drew1 | refine below_set ?_ GE145.out) | exact HB.out)) hb)
                          clear BK145
                          clear HB
                          have BK145 := n0_
                          have HB := n1_
                          clear n0_ n1_
                          (try clear hb)
                          (try clear hb2)
                          (try clear hk)
                          (try clear hi)
                          refine hK.out _ _ ⟨(blk_cell BK145.out 0).trans rfl, (blk_cell BK145.out 1).trans rfl, (blk_cell BK145.out 2).trans rfl, (blk_cell BK145.out 3).trans rfl, (blk_cell BK145.out 4).trans rfl, ((HB.out.cell (World.block_lt_of_cell? w _ hw147_0)).trans hw147_0), ((HB.out.cell (World.block_lt_of_cell? w _ hw147_1)).trans hw147_1), ((HB.out.cell (World.block_lt_of_cell? w _ hw147_2)).trans hw147_2), ((HB.out.cell (World.block_lt_of_cell? w _ hw147_3)).trans hw147_3), ((HB.out.cell (World.block_lt_of_cell? w _ hw147_4)).trans hw147_4), ((HB.out.cell (World.block_lt_of_cell? w _ hw148_0)).trans hw148_0), ((HB.out.cell (World.block_lt_of_cell? w _ hw148_1)).trans hw148_1), ((HB.out.cell (World.block_lt_of_cell? w _ hw148_2)).trans hw148_2), ((HB.out.cell (World.block_lt_of_cell? w _ hw148_3)).trans hw148_3), ((HB.out.cell (World.block_lt_of_cell? w _ hw148_4)).trans hw148_4)⟩ (fun hHeld => ?_)
                          clear hK K
                          refine norm_ (a' := ?_) ?_ ?_
                          rotate_left
                          · show Act.put _ (some 22) _ = _
                            simp only [Act.put, List.setIfInBounds_toArray, List.set_cons_zero, List.set_cons_succ, i64_w, i32_w]
                            rfl
                          refine pure_ (i := 3) (N := some 23) (v := ?_) (a' := ?_) #[true, true, true, true, false, false, false, false, false, false, false, false, false, false, false, false, false, false, false, false, false, false, false, false, false, false, false, false] rfl rfl (any_of HT_.out (by kernel_rfl)) (fun _ _ _ h => h) (Or.inl ⟨by rfl, ?_⟩) ?_ ?_
                          rotate_left
                          · intro w'
                            go_simp
                            with_reducible rfl
                          rotate_left
                          · simp only [Act.put, List.setIfInBounds_toArray, List.set_cons_zero, List.set_cons_succ, i64_w, i32_w]
                            rfl
                          refine pure_ (i := 4) (N := some 24) (v := ?_) (a' := ?_) #[true, true, true, true, true, false, false, false, false, false, false, false, false, false, false, false, false, false, false, false, false, false, false, false, false, false, false, false] rfl rfl (any_of HT_.out (by kernel_rfl)) (fun _ _ _ h => h) (Or.inl ⟨by rfl, ?_⟩) ?_ ?_
                          rotate_left
                          · intro w'
                            go_simp
                            with_reducible rfl
                          rotate_left
                          · simp only [Act.put, List.setIfInBounds_toArray, List.set_cons_zero, List.set_cons_succ, i64_w, i32_w]
                            rfl
                          refine pure_ (i := 5) (N := some 25) (v := ?_) (a' := ?_) #[true, true, true, true, true, true, false, false, false, false, false, false, false, false, false, false, false, false, false, false, false, false, false, false, false, false, false, false] rfl rfl (any_of HT_.out (by kernel_rfl)) (fun _ _ _ h => h) (Or.inl ⟨by rfl, ?_⟩) ?_ ?_
                          rotate_left
                          · intro w'
                            go_simp
                            with_reducible rfl
                          rotate_left
                          · simp only [Act.put, List.setIfInBounds_toArray, List.set_cons_zero, List.set_cons_succ, i64_w, i32_w]
                            rfl
                          refine pure_ (i := 6) (N := some 26) (v := ?_) (a' := ?_) #[true, true, true, true, true, true, true, false, false, false, false, false, false, false, false, false, false, false, false, false, false, false, false, false, false, false, false, false] rfl rfl (any_of HT_.out (by kernel_rfl)) (fun _ _ _ h => h) (Or.inl ⟨by rfl, ?_⟩) ?_ ?_
                          rotate_left
                          · intro w'
                            go_simp
                            with_reducible rfl
                          rotate_left
                          · simp only [Act.put, List.setIfInBounds_toArray, List.set_cons_zero, List.set_cons_succ, i64_w, i32_w]
                            rfl
                          refine pure_ (i := 7) (N := some 27) (v := ?_) (a' := ?_) #[true, true, true, true, true, true, true, true, false, false, false, false, false, false, false, false, false, false, false, false, false, false, false, false, false, false, false, false] rfl rfl (any_of HT_.out (by kernel_rfl)) (fun _ _ _ h => h) (Or.inl ⟨by rfl, ?_⟩) ?_ ?_
                          rotate_left
                          · intro w'
                            go_simp
                            with_reducible rfl
                          rotate_left
                          · simp only [Act.put, List.setIfInBounds_toArray, List.set_cons_zero, List.set_cons_succ, i64_w, i32_w]
                            rfl
                          refine pure_ (i := 8) (N := some 28) (v := ?_) (a' := ?_) #[true, true, true, true, true, true, true, true, true, false, false, false, false, false, false, false, false, false, false, false, false, false, false, false, false, false, false, false] rfl rfl (any_of HT_.out (by kernel_rfl)) (fun _ _ _ h => h) (Or.inl ⟨by rfl, ?_⟩) ?_ ?_
                          rotate_left
                          · intro w'
                            go_simp
                            with_reducible rfl
                          rotate_left
                          · simp only [Act.put, List.setIfInBounds_toArray, List.set_cons_zero, List.set_cons_succ, i64_w, i32_w]
                            rfl
                          refine pure_ (i := 9) (N := some 29) (v := ?_) (a' := ?_) #[true, true, true, true, true, true, true, true, true, true, false, false, false, false, false, false, false, false, false, false, false, false, false, false, false, false, false, false] rfl rfl (any_of HT_.out (by kernel_rfl)) (fun _ _ _ h => h) (Or.inl ⟨by rfl, ?_⟩) ?_ ?_
                          rotate_left
                          · intro w'
                            go_simp
                            with_reducible rfl
                          rotate_left
                          · simp only [Act.put, List.setIfInBounds_toArray, List.set_cons_zero, List.set_cons_succ, i64_w, i32_w]
                            rfl
                          refine pure_ (i := 10) (N := some 30) (v := ?_) (a' := ?_) #[true, true, true, true, true, true, true, true, true, true, true, false, false, false, false, false, false, false, false, false, false, false, false, false, false, false, false, false] rfl rfl (any_of HT_.out (by kernel_rfl)) (fun _ _ _ h => h) (Or.inl ⟨by rfl, ?_⟩) ?_ ?_
                          rotate_left
                          · intro w'
                            go_simp
                            with_reducible rfl
                          rotate_left
                          · simp only [Act.put, List.setIfInBounds_toArray, List.set_cons_zero, List.set_cons_succ, i64_w, i32_w]
                            rfl
                          refine pure_ (i := 11) (N := some 31) (v := ?_) (a' := ?_) #[true, true, true, true, true, true, true, true, true, true, true, true, false, false, false, false, false, false, false, false, false, false, false, false, false, false, false, false] rfl rfl (any_of HT_.out (by kernel_rfl)) (fun _ _ _ h => h) (Or.inl ⟨by rfl, ?_⟩) ?_ ?_
                          rotate_left
                          · intro w'
                            go_simp
                            with_reducible rfl
                          rotate_left
                          · simp only [Act.put, List.setIfInBounds_toArray, List.set_cons_zero, List.set_cons_succ, i64_w, i32_w]
                            rfl
                          refine pure_ (i := 12) (N := some 32) (v := ?_) (a' := ?_) #[true, true, true, true, true, true, true, true, true, true, true, true, true, false, false, false, false, false, false, false, false, false, false, false, false, false, false, false] rfl rfl (any_of HT_.out (by kernel_rfl)) (fun _ _ _ h => h) (Or.inl ⟨by rfl, ?_⟩) ?_ ?_
                          rotate_left
                          · intro w'
                            go_simp
                            with_reducible rfl
                          rotate_left
                          · simp only [Act.put, List.setIfInBounds_toArray, List.set_cons_zero, List.set_cons_succ, i64_w, i32_w]
                            rfl
                          refine take_ (i := 13) (N := some 33) (v := ?_) (a' := ?_) #[true, true, true, true, true, true, true, true, true, true, true, true, true, true, false, false, false, false, false, false, false, false, false, false, false, false, false, false] rfl rfl (take_ofW HT_.out HW_.out (by kernel_rfl)) (fun _ _ _ h => h) (Or.inl ⟨by rfl, ?_⟩) hHeld ?_ ?_
                          rotate_left
                          · rintro w' ⟨s0, s1, s2, s3, s4, s5, s6, s7, s8, s9, s10, s11, s12, s13, s14⟩
                            go_simp
                            with_reducible rfl
                          rotate_left
                          · simp only [Act.put, List.setIfInBounds_toArray, List.set_cons_zero, List.set_cons_succ, i64_w, i32_w]
                            rfl
                          refine pure_ (i := 14) (N := some 34) (v := ?_) (a' := ?_) #[true, true, true, true, true, true, true, true, true, true, true, true, true, true, true, false, false, false, false, false, false, false, false, false, false, false, false, false] rfl rfl (any_of HT_.out (by kernel_rfl)) (fun _ _ _ h => h) (Or.inl ⟨by rfl, ?_⟩) ?_ ?_
                          rotate_left
                          · intro w'
                            go_simp
                            with_reducible rfl
                          rotate_left
                          · simp only [Act.put, List.setIfInBounds_toArray, List.set_cons_zero, List.set_cons_succ, i64_w, i32_w]
                            rfl
                          refine pure_ (i := 15) (N := some 35) (v := ?_) (a' := ?_) #[true, true, true, true, true, true, true, true, true, true, true, true, true, true, true, true, false, false, false, false, false, false, false, false, false, false, false, false] rfl rfl (any_of HT_.out (by kernel_rfl)) (fun _ _ _ h => h) (Or.inl ⟨by rfl, ?_⟩) ?_ ?_
                          rotate_left
                          · intro w'
                            go_simp
                            with_reducible rfl
                          rotate_left
                          · simp only [Act.put, List.setIfInBounds_toArray, List.set_cons_zero, List.set_cons_succ, i64_w, i32_w]
                            rfl
                          refine pure_ (i := 16) (N := some 36) (v := ?_) (a' := ?_) #[true, true, true, true, true, true, true, true, true, true, true, true, true, true, true, true, true, false, false, false, false, false, false, false, false, false, false, false] rfl rfl (any_of HT_.out (by kernel_rfl)) (fun _ _ _ h => h) (Or.inl ⟨by rfl, ?_⟩) ?_ ?_
                          rotate_left
                          · intro w'
                            go_simp
                            with_reducible rfl
                          rotate_left
                          · simp only [Act.put, List.setIfInBounds_toArray, List.set_cons_zero, List.set_cons_succ, i64_w, i32_w]
                            rfl
                          refine pure_ (i := 17) (N := some 37) (v := ?_) (a' := ?_) #[true, true, true, true, true, true, true, true, true, true, true, true, true, true, true, true, true, true, false, false, false, false, false, false, false, false, false, false] rfl rfl (any_of HT_.out (by kernel_rfl)) (fun _ _ _ h => h) (Or.inl ⟨by rfl, ?_⟩) ?_ ?_
                          rotate_left
                          · intro w'
                            go_simp
                            with_reducible rfl
                          rotate_left
                          · simp only [Act.put, List.setIfInBounds_toArray, List.set_cons_zero, List.set_cons_succ, i64_w, i32_w]
                            rfl
                          refine pure_ (i := 18) (N := some 38) (v := ?_) (a' := ?_) #[true, true, true, true, true, true, true, true, true, true, true, true, true, true, true, true, true, true, true, false, false, false, false, false, false, false, false, false] rfl rfl (any_of HT_.out (by kernel_rfl)) (fun _ _ _ h => h) (Or.inl ⟨by rfl, ?_⟩) ?_ ?_
                          rotate_left
                          · intro w'
                            go_simp
                            with_reducible rfl
                          rotate_left
                          · simp only [Act.put, List.setIfInBounds_toArray, List.set_cons_zero, List.set_cons_succ, i64_w, i32_w]
                            rfl
                          refine pure_ (i := 19) (N := some 39) (v := ?_) (a' := ?_) #[true, true, true, true, true, true, true, true, true, true, true, true, true, true, true, true, true, true, true, true, false, false, false, false, false, false, false, false] rfl rfl (any_of HT_.out (by kernel_rfl)) (fun _ _ _ h => h) (Or.inl ⟨by rfl, ?_⟩) ?_ ?_
                          rotate_left
                          · intro w'
                            go_simp
                            with_reducible rfl
                          rotate_left
                          · simp only [Act.put, List.setIfInBounds_toArray, List.set_cons_zero, List.set_cons_succ, i64_w, i32_w]
                            rfl
                          refine pure_ (i := 20) (N := some 40) (v := ?_) (a' := ?_) #[true, true, true, true, true, true, true, true, true, true, true, true, true, true, true, true, true, true, true, true, true, false, false, false, false, false, false, false] rfl rfl (any_of HT_.out (by kernel_rfl)) (fun _ _ _ h => h) (Or.inl ⟨by rfl, ?_⟩) ?_ ?_
                          rotate_left
                          · intro w'
                            go_simp
                            with_reducible rfl
                          rotate_left
                          · simp only [Act.put, List.setIfInBounds_toArray, List.set_cons_zero, List.set_cons_succ, i64_w, i32_w]
                            rfl
                          refine pure_ (i := 21) (N := some 41) (v := ?_) (a' := ?_) #[true, true, true, true, true, true, true, true, true, true, true, true, true, true, true, true, true, true, true, true, true, true, false, false, false, false, false, false] rfl rfl (any_of HT_.out (by kernel_rfl)) (fun _ _ _ h => h) (Or.inl ⟨by rfl, ?_⟩) ?_ ?_
                          rotate_left
                          · intro w'
                            go_simp
                            with_reducible rfl
                          rotate_left
                          · simp only [Act.put, List.setIfInBounds_toArray, List.set_cons_zero, List.set_cons_succ, i64_w, i32_w]
                            rfl
                          refine pure_ (i := 23) (N := some 43) (v := ?_) (a' := ?_) #[true, true, true, true, true, true, true, true, true, true, true, true, true, true, true, true, true, true, true, true, true, true, false, true, false, false, false, false] rfl rfl (any_of HT_.out (by kernel_rfl)) (fun _ _ _ h => h) (Or.inl ⟨by rfl, ?_⟩) ?_ ?_
                          rotate_left
                          · intro w'
                            go_simp
                            with_reducible rfl
                          rotate_left
                          · simp only [Act.put, List.setIfInBounds_toArray, List.set_cons_zero, List.set_cons_succ, i64_w, i32_w]
                            rfl
                          refine take_ (i := 22) (N := some 42) (v := ?_) (a' := ?_) #[true, true, true, true, true, true, true, true, true, true, true, true, true, true, true, true, true, true, true, true, true, true, true, true, false, false, false, false] rfl rfl (take_ofW HT_.out HW_.out (by kernel_rfl)) (fun _ _ _ h => h) (Or.inl ⟨by rfl, ?_⟩) hHeld ?_ ?_
                          rotate_left
                          · rintro w' ⟨s0, s1, s2, s3, s4, s5, s6, s7, s8, s9, s10, s11, s12, s13, s14⟩
                            go_simp
                            with_reducible rfl
                          rotate_left
                          · simp only [Act.put, List.setIfInBounds_toArray, List.set_cons_zero, List.set_cons_succ, i64_w, i32_w]
                            rfl
                          refine take_ (i := 24) (N := some 44) (v := ?_) (a' := ?_) #[true, true, true, true, true, true, true, true, true, true, true, true, true, true, true, true, true, true, true, true, true, true, true, true, true, false, false, false] rfl rfl (take_ofW HT_.out HW_.out (by kernel_rfl)) (fun _ _ _ h => h) (Or.inl ⟨by rfl, ?_⟩) hHeld ?_ ?_
                          rotate_left
                          · rintro w' ⟨s0, s1, s2, s3, s4, s5, s6, s7, s8, s9, s10, s11, s12, s13, s14⟩
                            go_simp
                            with_reducible rfl
                          rotate_left
                          · simp only [Act.put, List.setIfInBounds_toArray, List.set_cons_zero, List.set_cons_succ, i64_w, i32_w]
                            rfl
                          refine pure_ (i := 25) (N := some 45) (v := ?_) (a' := ?_) #[true, true, true, true, true, true, true, true, true, true, true, true, true, true, true, true, true, true, true, true, true, true, true, true, true, true, false, false] rfl rfl (any_of HT_.out (by kernel_rfl)) (fun _ _ _ h => h) (Or.inl ⟨by rfl, ?_⟩) ?_ ?_
                          rotate_left
                          · intro w'
                            go_simp
                            with_reducible rfl
                          rotate_left
                          · simp only [Act.put, List.setIfInBounds_toArray, List.set_cons_zero, List.set_cons_succ, i64_w, i32_w]
                            rfl
                          refine pure_ (i := 26) (N := some 46) (v := ?_) (a' := ?_) #[true, true, true, true, true, true, true, true, true, true, true, true, true, true, true, true, true, true, true, true, true, true, true, true, true, true, true, false] rfl rfl (any_of HT_.out (by kernel_rfl)) (fun _ _ _ h => h) (Or.inl ⟨by rfl, ?_⟩) ?_ ?_
                          rotate_left
                          · intro w'
                            go_simp
                            with_reducible rfl
                          rotate_left
                          · simp only [Act.put, List.setIfInBounds_toArray, List.set_cons_zero, List.set_cons_succ, i64_w, i32_w]
                            rfl
                          refine pure_ (i := 27) (N := some 47) (v := ?_) (a' := ?_) #[true, true, true, true, true, true, true, true, true, true, true, true, true, true, true, true, true, true, true, true, true, true, true, true, true, true, true, true] rfl rfl (any_of HT_.out (by kernel_rfl)) (fun _ _ _ h => h) (Or.inl ⟨by rfl, ?_⟩) ?_ ?_
                          rotate_left
                          · intro w'
                            go_simp
                            with_reducible rfl
                          rotate_left
                          · simp only [Act.put, List.setIfInBounds_toArray, List.set_cons_zero, List.set_cons_succ, i64_w, i32_w]
                            rfl
                          refine done_ (done_of HT_.out (by kernel_rfl)) ?_
                          try go_wp2
                          go_roundg k1
                          case measure => have := HK1.out; omega
                          case rel => exact ⟨(wrap64 (x12_1 + 1)), (by first | rfl | (simp; done) | (simp [*]; done)), H', ⟨by have := HK1.out; omega⟩, ⟨by repeat (first | (with_reducible first | exact HB.out | apply below_alloc | apply pw_below_drewN | apply below_drew1 | refine below_set ?_ GE145.out) | exact HB.out)⟩⟩
                      · rw [if_neg c14] at H
                        have c14b0 : (((rd_T33 l0 (ji11)).f0) == 1) = false := beq_eq_false_iff_ne.mpr c14
                        have c14b1 : (((rd_T33 l0 (ji11)).f0) != 1) = true := bne_iff_ne.mpr c14
                        have H' := Aside0.mk H
                        clear H
                        have p144 : 0 ≤ (x12_1 : Int) := of_decide_eq_true (by first | (with_reducible assumption) | assumption)
                        have q144 : x12_1 < (l0.length : Int) := of_decide_eq_true (by first | (with_reducible assumption) | assumption)
                        obtain ⟨ad144, A144_4, c144_4, e144, hx144_0, hx144_1, hx144_2, hx144_3, hx144_4, hl144_4, hi144_4⟩ := at_T33 HR0.out x12_1 p144 q144
                        cases e144
                        replace hx144_0 := (HB.out.cell (World.block_lt_of_cell? w _ hx144_0)).trans hx144_0
                        replace hx144_1 := (HB.out.cell (World.block_lt_of_cell? w _ hx144_1)).trans hx144_1
                        replace hx144_2 := (HB.out.cell (World.block_lt_of_cell? w _ hx144_2)).trans hx144_2
                        replace hx144_3 := (HB.out.cell (World.block_lt_of_cell? w _ hx144_3)).trans hx144_3
                        replace hx144_4 := (HB.out.cell (World.block_lt_of_cell? w _ hx144_4)).trans hx144_4
                        have HR144_4 := Aside0.mk hi144_4
                        have HC144_4 := Aside0.mk hl144_4
                        clear hi144_4 hl144_4
                        replace p144 := eq_true p144
                        replace q144 := eq_true q144
                        try go_wp2_with (first | ((with_reducible refine gate_dst (N := 8) rfl ?_); (try (refine gate_guard (by rfl) ?_; dsimp only)); refine box_event ?hg (N := 8) ?hd (cs := #[.int .i64 0, .bool false, .string (⟨#[]⟩ : ByteArray), .string (⟨#[]⟩ : ByteArray), .slice none 0 0]) (t := 33) ?hr ?_; (case hd => rfl); (case hg => rfl); (case hr => first | (go_simp; done) | (go_simp; rfl)); intro gb145 hg w26 hbox hb; have n0_ := Aside0.mk (below_step (by repeat (first | (with_reducible first | exact HB.out | apply below_alloc | apply pw_below_drewN | apply below_drew1) | exact HB.out)) hb); have n1_ := Aside0.mk (hbox); have n2_ := Aside0.mk ((by rw [hg]; exact (below_size (by repeat (first | (with_reducible first | exact HB.out | apply below_alloc | apply pw_below_drewN | apply below_drew1) | exact HB.out))) : w.heap.size ≤ gb145)); have n3_ := Aside0.mk ((by rw [hg]; exact (below_size (by repeat (first | (with_reducible first | exact HB.out | apply below_alloc | apply pw_below_drewN | apply below_drew1) | exact HB.out))) : w.heap.size ≤ gb145)); clear HB; have HB := n0_; have BK145 := n1_; have GW145 := n2_; have GE145 := n3_; clear n0_ n1_ n2_ n3_; clear hb hbox hg; have hcz27_0 : w26.cell? ⟨gb145, 0, none⟩ = some (.int .i64 0) := (blk_cell BK145.out 0).trans rfl; have hcz27_1 : w26.cell? ⟨gb145, 1, none⟩ = some (.bool false) := (blk_cell BK145.out 1).trans rfl; have hcz27_2 : w26.cell? ⟨gb145, 2, none⟩ = some (.string (⟨#[]⟩ : ByteArray)) := (blk_cell BK145.out 2).trans rfl; have hcz27_3 : w26.cell? ⟨gb145, 3, none⟩ = some (.string (⟨#[]⟩ : ByteArray)) := (blk_cell BK145.out 3).trans rfl; have hcz27_4 : w26.cell? ⟨gb145, 4, none⟩ = some (.slice none 0 0) := (blk_cell BK145.out 4).trans rfl; have hfz27_0 := blk_frozen BK145.out 0; have hfz27_1 := blk_frozen BK145.out 1; have hfz27_2 := blk_frozen BK145.out 2; have hfz27_3 := blk_frozen BK145.out 3; have hfz27_4 := blk_frozen BK145.out 4))
                        have n0_ : Aside0 ((((((w26.setCell ⟨gb145, 0, none⟩ (.int .i64 ((rd_T33 l0 x12_1).f0))).setCell ⟨gb145, 1, none⟩ (.bool ((rd_T33 l0 x12_1).f1))).setCell ⟨gb145, 2, none⟩ (.string ((rd_T33 l0 x12_1).f2))).setCell ⟨gb145, 3, none⟩ (.string ((rd_T33 l0 x12_1).f3))).setCell ⟨gb145, 4, none⟩ (.slice A144_4 ((rd_T33 l0 x12_1).f4).length c144_4)).heap[gb145]? = some (.cells #[.int .i64 ((rd_T33 l0 x12_1).f0), .bool ((rd_T33 l0 x12_1).f1), .string ((rd_T33 l0 x12_1).f2), .string ((rd_T33 l0 x12_1).f3), .slice A144_4 ((rd_T33 l0 x12_1).f4).length c144_4] 33 (0, 0))) := ⟨by (with_reducible repeat (first | refine blk_drewN ?_ _ | refine blk_drew ?_ | refine blk_alloc ?_ _)); refine blk_put (cs := #[.int .i64 ((rd_T33 l0 x12_1).f0), .bool ((rd_T33 l0 x12_1).f1), .string ((rd_T33 l0 x12_1).f2), .string ((rd_T33 l0 x12_1).f3), .slice none 0 0]) ?_ 4 _ rfl; (with_reducible repeat (first | refine blk_drewN ?_ _ | refine blk_drew ?_ | refine blk_alloc ?_ _)); refine blk_put (cs := #[.int .i64 ((rd_T33 l0 x12_1).f0), .bool ((rd_T33 l0 x12_1).f1), .string ((rd_T33 l0 x12_1).f2), .string (⟨#[]⟩ : ByteArray), .slice none 0 0]) ?_ 3 _ rfl; (with_reducible repeat (first | refine blk_drewN ?_ _ | refine blk_drew ?_ | refine blk_alloc ?_ _)); refine blk_put (cs := #[.int .i64 ((rd_T33 l0 x12_1).f0), .bool ((rd_T33 l0 x12_1).f1), .string (⟨#[]⟩ : ByteArray), .string (⟨#[]⟩ : ByteArray), .slice none 0 0]) ?_ 2 _ rfl; (with_reducible repeat (first | refine blk_drewN ?_ _ | refine blk_drew ?_ | refine blk_alloc ?_ _)); refine blk_put (cs := #[.int .i64 ((rd_T33 l0 x12_1).f0), .bool false, .string (⟨#[]⟩ : ByteArray), .string (⟨#[]⟩ : ByteArray), .slice none 0 0]) ?_ 1 _ rfl; (with_reducible repeat (first | refine blk_drewN ?_ _ | refine blk_drew ?_ | refine blk_alloc ?_ _)); refine blk_put (cs := #[.int .i64 0, .bool false, .string (⟨#[]⟩ : ByteArray), .string (⟨#[]⟩ : ByteArray), .slice none 0 0]) ?_ 0 _ rfl; (with_reducible repeat (first | refine blk_drewN ?_ _ | refine blk_drew ?_ | refine blk_alloc ?_ _)); exact BK145.out⟩
                        have n1_ : Aside0 (Below w.heap.size w (((((w26.setCell ⟨gb145, 0, none⟩ (.int .i64 ((rd_T33 l0 x12_1).f0))).setCell ⟨gb145, 1, none⟩ (.bool ((rd_T33 l0 x12_1).f1))).setCell ⟨gb145, 2, none⟩ (.string ((rd_T33 l0 x12_1).f2))).setCell ⟨gb145, 3, none⟩ (.string ((rd_T33 l0 x12_1).f3))).setCell ⟨gb145, 4, none⟩ (.slice A144_4 ((rd_T33 l0 x12_1).f4).length c144_4))) := ⟨by repeat (first | (with_reducible first | exact HB.out | apply below_alloc | apply pw_below_drewN | apply below_drew1 | refine below_set ?_ GE145.out) | exact HB.out)⟩
                        (try clear BK145)
                        (try clear HB)
                        generalize (((((w26.setCell ⟨gb145, 0, none⟩ (.int .i64 ((rd_T33 l0 x12_1).f0))).setCell ⟨gb145, 1, none⟩ (.bool ((rd_T33 l0 x12_1).f1))).setCell ⟨gb145, 2, none⟩ (.string ((rd_T33 l0 x12_1).f2))).setCell ⟨gb145, 3, none⟩ (.string ((rd_T33 l0 x12_1).f3))).setCell ⟨gb145, 4, none⟩ (.slice A144_4 ((rd_T33 l0 x12_1).f4).length c144_4)) = w28 at n0_ n1_ ⊢
                        have BK145 := n0_
                        have HB := n1_
                        clear n0_ n1_
                        have n0_ := Aside0.mk (blk_drew BK145.out)
                        have n1_ := Aside0.mk (below_drew1 HB.out)
                        clear BK145
                        clear HB
                        have BK145 := n0_
                        have HB := n1_
                        clear n0_ n1_
                        have p147 : 0 ≤ ((ji11) : Int) := of_decide_eq_true (by first | (with_reducible assumption) | assumption)
                        have q147 : (ji11) < (l0.length : Int) := of_decide_eq_true (by first | (with_reducible assumption) | assumption)
                        obtain ⟨ad147, A147_4, c147_4, e147, hx147_0, hx147_1, hx147_2, hx147_3, hx147_4, hl147_4, hi147_4⟩ := at_T33 HR0.out (ji11) p147 q147
                        have hw147_4 := hx147_4
                        have hw147_3 := hx147_3
                        have hw147_2 := hx147_2
                        have hw147_1 := hx147_1
                        have hw147_0 := hx147_0
                        obtain rfl : ad144 = ad147 := (by injection e147)
                        replace hx147_0 := (HB.out.cell (World.block_lt_of_cell? w _ hx147_0)).trans hx147_0
                        replace hx147_1 := (HB.out.cell (World.block_lt_of_cell? w _ hx147_1)).trans hx147_1
                        replace hx147_2 := (HB.out.cell (World.block_lt_of_cell? w _ hx147_2)).trans hx147_2
                        replace hx147_3 := (HB.out.cell (World.block_lt_of_cell? w _ hx147_3)).trans hx147_3
                        replace hx147_4 := (HB.out.cell (World.block_lt_of_cell? w _ hx147_4)).trans hx147_4
                        have HR147_4 := Aside0.mk hi147_4
                        have HC147_4 := Aside0.mk hl147_4
                        clear hi147_4 hl147_4
                        replace p147 := eq_true p147
                        replace q147 := eq_true q147
                        refine start_ (n := 28) (S := fun w' => w'.cell? ⟨gb145, 0, none⟩ = some (.int .i64 ((rd_T33 l0 x12_1).f0)) ∧ w'.cell? ⟨gb145, 1, none⟩ = some (.bool ((rd_T33 l0 x12_1).f1)) ∧ w'.cell? ⟨gb145, 2, none⟩ = some (.string ((rd_T33 l0 x12_1).f2)) ∧ w'.cell? ⟨gb145, 3, none⟩ = some (.string ((rd_T33 l0 x12_1).f3)) ∧ w'.cell? ⟨gb145, 4, none⟩ = some (.slice A144_4 ((rd_T33 l0 x12_1).f4).length c144_4) ∧ w'.cell? (ad144.add (((ji11)).toNat * 5)) = some (.int .i64 ((rd_T33 l0 (ji11)).f0)) ∧ w'.cell? ⟨(ad144.add (((ji11)).toNat * 5)).block, (ad144.add (((ji11)).toNat * 5)).off + 1, none⟩ = some (.bool ((rd_T33 l0 (ji11)).f1)) ∧ w'.cell? ⟨(ad144.add (((ji11)).toNat * 5)).block, (ad144.add (((ji11)).toNat * 5)).off + 2, none⟩ = some (.string ((rd_T33 l0 (ji11)).f2)) ∧ w'.cell? ⟨(ad144.add (((ji11)).toNat * 5)).block, (ad144.add (((ji11)).toNat * 5)).off + 3, none⟩ = some (.string ((rd_T33 l0 (ji11)).f3)) ∧ w'.cell? ⟨(ad144.add (((ji11)).toNat * 5)).block, (ad144.add (((ji11)).toNat * 5)).off + 4, none⟩ = some (.slice A147_4 ((rd_T33 l0 (ji11)).f4).length c147_4)) (ds := []) #[false, false, false, false, false, false, false, false, false, false, false, false, false, false, false, false, false, false, false, false, false, false, false, false, false, false, false, false] (by kernel_rfl) rfl rfl ⟨(blk_cell BK145.out 0).trans rfl, (blk_cell BK145.out 1).trans rfl, (blk_cell BK145.out 2).trans rfl, (blk_cell BK145.out 3).trans rfl, (blk_cell BK145.out 4).trans rfl, ((HB.out.cell (World.block_lt_of_cell? w _ hw147_0)).trans hw147_0), ((HB.out.cell (World.block_lt_of_cell? w _ hw147_1)).trans hw147_1), ((HB.out.cell (World.block_lt_of_cell? w _ hw147_2)).trans hw147_2), ((HB.out.cell (World.block_lt_of_cell? w _ hw147_3)).trans hw147_3), ((HB.out.cell (World.block_lt_of_cell? w _ hw147_4)).trans hw147_4)⟩ (fun hHeld => ?_); refine with_tabW deadfallref03_Parts.tab5 deadfallref03_Parts.bits5 (fun HT_ HW_ => ?_)
                        generalize w28.drew = w29 at BK145 HB HR147_4 hx147_0 hx147_1 hx147_2 hx147_3 hx147_4 hHeld ⊢
                        refine pure_ (i := 1) (N := some 21) (v := ?_) (a' := ?_) #[false, true, false, false, false, false, false, false, false, false, false, false, false, false, false, false, false, false, false, false, false, false, false, false, false, false, false, false] rfl rfl (any_of HT_.out (by kernel_rfl)) (fun _ _ _ h => h) (Or.inl ⟨by rfl, ?_⟩) ?_ ?_
                        rotate_left
                        · intro w'
                          go_simp
                          with_reducible rfl
                        rotate_left
                        · simp only [Act.put, List.setIfInBounds_toArray, List.set_cons_zero, List.set_cons_succ, i64_w, i32_w]
                          rfl
                        refine take_ (i := 0) (N := some 20) (v := ?_) (a' := ?_) #[true, true, false, false, false, false, false, false, false, false, false, false, false, false, false, false, false, false, false, false, false, false, false, false, false, false, false, false] rfl rfl (take_ofW HT_.out HW_.out (by kernel_rfl)) (fun _ _ _ h => h) (Or.inl ⟨by rfl, ?_⟩) hHeld ?_ ?_
                        rotate_left
                        · rintro w' ⟨s0, s1, s2, s3, s4, s5, s6, s7, s8, s9⟩
                          go_simp
                          with_reducible rfl
                        rotate_left
                        · simp only [Act.put, List.setIfInBounds_toArray, List.set_cons_zero, List.set_cons_succ, i64_w, i32_w]
                          rfl
                        refine one_ (i := 2) (N := some 22) #[true, true, true, false, false, false, false, false, false, false, false, false, false, false, false, false, false, false, false, false, false, false, false, false, false, false, false, false] rfl rfl (one_of HT_.out (by kernel_rfl)) (by decide) (fun K hK => ?_)
                        refine goes_ Tryd.func37 (by kernel_rfl) rfl #[.agg #[.int .i64 ((rd_T33 l0 x12_1).f0), .bool ((rd_T33 l0 x12_1).f1), .string ((rd_T33 l0 x12_1).f2), .string ((rd_T33 l0 x12_1).f3), .slice A144_4 ((rd_T33 l0 x12_1).f4).length c144_4], .int .i64 a1] (by rfl) rfl rfl (by (try simp only [List.map_toArray, List.map_cons, List.map_nil]); first | done | rfl | (simp only [List.length_drop, List.length_take]; rfl)) ?_
                        with_reducible refine (deadfallref03_text.calls k1 ((rd_T33 l0 x12_1).f0) ((rd_T33 l0 x12_1).f1) ((rd_T33 l0 x12_1).f2) ((rd_T33 l0 x12_1).f3) _ _ ((rd_T33 l0 x12_1).f4) a1 true _ ?side1 ?side2 A8.out).mono ?_
                        (case side1 => repeat (first | exact (Kd.C_below HR144_4.out HB.out) | (with_reducible refine Kd.C_alloc ?_ _) | (with_reducible refine Kd.C_drewN ?_ _) | (with_reducible refine Kd.C_drew ?_)))
                        (case side2 => exact HC144_4.out)
                        rintro e w30 ⟨rfl, hb⟩
                        refine ⟨_, rfl, ?_⟩
                        have n0_ := Aside0.mk (blk_below (g := gb145) (o := .cells #[.int .i64 ((rd_T33 l0 x12_1).f0), .bool ((rd_T33 l0 x12_1).f1), .string ((rd_T33 l0 x12_1).f2), .string ((rd_T33 l0 x12_1).f3), .slice A144_4 ((rd_T33 l0 x12_1).f4).length c144_4] 33 (0, 0)) (by (with_reducible repeat (first | refine blk_drewN ?_ _ | refine blk_drew ?_ | refine blk_alloc ?_ _)); exact BK145.out) hb)
                        have n1_ := Aside0.mk (below_step (by repeat (first | (with_reducible first | exact HB.out | apply below_alloc | apply pw_below_drewN | apply below_drew1 | refine below_set ?_ GE145.out) | exact HB.out)) hb)
                        clear BK145
                        clear HB
                        have BK145 := n0_
                        have HB := n1_
                        clear n0_ n1_
                        (try clear hb)
                        (try clear hb2)
                        (try clear hk)
                        (try clear hi)
                        refine hK.out _ _ ⟨(blk_cell BK145.out 0).trans rfl, (blk_cell BK145.out 1).trans rfl, (blk_cell BK145.out 2).trans rfl, (blk_cell BK145.out 3).trans rfl, (blk_cell BK145.out 4).trans rfl, ((HB.out.cell (World.block_lt_of_cell? w _ hw147_0)).trans hw147_0), ((HB.out.cell (World.block_lt_of_cell? w _ hw147_1)).trans hw147_1), ((HB.out.cell (World.block_lt_of_cell? w _ hw147_2)).trans hw147_2), ((HB.out.cell (World.block_lt_of_cell? w _ hw147_3)).trans hw147_3), ((HB.out.cell (World.block_lt_of_cell? w _ hw147_4)).trans hw147_4)⟩ (fun hHeld => ?_)
                        clear hK K
                        refine norm_ (a' := ?_) ?_ ?_
                        rotate_left
                        · show Act.put _ (some 22) _ = _
                          simp only [Act.put, List.setIfInBounds_toArray, List.set_cons_zero, List.set_cons_succ, i64_w, i32_w]
                          rfl
                        refine pure_ (i := 3) (N := some 23) (v := ?_) (a' := ?_) #[true, true, true, true, false, false, false, false, false, false, false, false, false, false, false, false, false, false, false, false, false, false, false, false, false, false, false, false] rfl rfl (any_of HT_.out (by kernel_rfl)) (fun _ _ _ h => h) (Or.inl ⟨by rfl, ?_⟩) ?_ ?_
                        rotate_left
                        · intro w'
                          go_simp
                          with_reducible rfl
                        rotate_left
                        · simp only [Act.put, List.setIfInBounds_toArray, List.set_cons_zero, List.set_cons_succ, i64_w, i32_w]
                          rfl
                        refine pure_ (i := 4) (N := some 24) (v := ?_) (a' := ?_) #[true, true, true, true, true, false, false, false, false, false, false, false, false, false, false, false, false, false, false, false, false, false, false, false, false, false, false, false] rfl rfl (any_of HT_.out (by kernel_rfl)) (fun _ _ _ h => h) (Or.inl ⟨by rfl, ?_⟩) ?_ ?_
                        rotate_left
                        · intro w'
                          go_simp
                          with_reducible rfl
                        rotate_left
                        · simp only [Act.put, List.setIfInBounds_toArray, List.set_cons_zero, List.set_cons_succ, i64_w, i32_w]
                          rfl
                        refine pure_ (i := 5) (N := some 25) (v := ?_) (a' := ?_) #[true, true, true, true, true, true, false, false, false, false, false, false, false, false, false, false, false, false, false, false, false, false, false, false, false, false, false, false] rfl rfl (any_of HT_.out (by kernel_rfl)) (fun _ _ _ h => h) (Or.inl ⟨by rfl, ?_⟩) ?_ ?_
                        rotate_left
                        · intro w'
                          go_simp
                          with_reducible rfl
                        rotate_left
                        · simp only [Act.put, List.setIfInBounds_toArray, List.set_cons_zero, List.set_cons_succ, i64_w, i32_w]
                          rfl
                        refine pure_ (i := 6) (N := some 26) (v := ?_) (a' := ?_) #[true, true, true, true, true, true, true, false, false, false, false, false, false, false, false, false, false, false, false, false, false, false, false, false, false, false, false, false] rfl rfl (any_of HT_.out (by kernel_rfl)) (fun _ _ _ h => h) (Or.inl ⟨by rfl, ?_⟩) ?_ ?_
                        rotate_left
                        · intro w'
                          go_simp
                          with_reducible rfl
                        rotate_left
                        · simp only [Act.put, List.setIfInBounds_toArray, List.set_cons_zero, List.set_cons_succ, i64_w, i32_w]
                          rfl
                        refine pure_ (i := 7) (N := some 27) (v := ?_) (a' := ?_) #[true, true, true, true, true, true, true, true, false, false, false, false, false, false, false, false, false, false, false, false, false, false, false, false, false, false, false, false] rfl rfl (any_of HT_.out (by kernel_rfl)) (fun _ _ _ h => h) (Or.inl ⟨by rfl, ?_⟩) ?_ ?_
                        rotate_left
                        · intro w'
                          go_simp
                          with_reducible rfl
                        rotate_left
                        · simp only [Act.put, List.setIfInBounds_toArray, List.set_cons_zero, List.set_cons_succ, i64_w, i32_w]
                          rfl
                        refine pure_ (i := 8) (N := some 28) (v := ?_) (a' := ?_) #[true, true, true, true, true, true, true, true, true, false, false, false, false, false, false, false, false, false, false, false, false, false, false, false, false, false, false, false] rfl rfl (any_of HT_.out (by kernel_rfl)) (fun _ _ _ h => h) (Or.inl ⟨by rfl, ?_⟩) ?_ ?_
                        rotate_left
                        · intro w'
                          go_simp
                          with_reducible rfl
                        rotate_left
                        · simp only [Act.put, List.setIfInBounds_toArray, List.set_cons_zero, List.set_cons_succ, i64_w, i32_w]
                          rfl
                        refine pure_ (i := 9) (N := some 29) (v := ?_) (a' := ?_) #[true, true, true, true, true, true, true, true, true, true, false, false, false, false, false, false, false, false, false, false, false, false, false, false, false, false, false, false] rfl rfl (any_of HT_.out (by kernel_rfl)) (fun _ _ _ h => h) (Or.inl ⟨by rfl, ?_⟩) ?_ ?_
                        rotate_left
                        · intro w'
                          go_simp
                          with_reducible rfl
                        rotate_left
                        · simp only [Act.put, List.setIfInBounds_toArray, List.set_cons_zero, List.set_cons_succ, i64_w, i32_w]
                          rfl
                        refine pure_ (i := 10) (N := some 30) (v := ?_) (a' := ?_) #[true, true, true, true, true, true, true, true, true, true, true, false, false, false, false, false, false, false, false, false, false, false, false, false, false, false, false, false] rfl rfl (any_of HT_.out (by kernel_rfl)) (fun _ _ _ h => h) (Or.inl ⟨by rfl, ?_⟩) ?_ ?_
                        rotate_left
                        · intro w'
                          go_simp
                          with_reducible rfl
                        rotate_left
                        · simp only [Act.put, List.setIfInBounds_toArray, List.set_cons_zero, List.set_cons_succ, i64_w, i32_w]
                          rfl
                        refine pure_ (i := 11) (N := some 31) (v := ?_) (a' := ?_) #[true, true, true, true, true, true, true, true, true, true, true, true, false, false, false, false, false, false, false, false, false, false, false, false, false, false, false, false] rfl rfl (any_of HT_.out (by kernel_rfl)) (fun _ _ _ h => h) (Or.inl ⟨by rfl, ?_⟩) ?_ ?_
                        rotate_left
                        · intro w'
                          go_simp
                          with_reducible rfl
                        rotate_left
                        · simp only [Act.put, List.setIfInBounds_toArray, List.set_cons_zero, List.set_cons_succ, i64_w, i32_w]
                          rfl
                        refine pure_ (i := 12) (N := some 32) (v := ?_) (a' := ?_) #[true, true, true, true, true, true, true, true, true, true, true, true, true, false, false, false, false, false, false, false, false, false, false, false, false, false, false, false] rfl rfl (any_of HT_.out (by kernel_rfl)) (fun _ _ _ h => h) (Or.inl ⟨by rfl, ?_⟩) ?_ ?_
                        rotate_left
                        · intro w'
                          go_simp
                          with_reducible rfl
                        rotate_left
                        · simp only [Act.put, List.setIfInBounds_toArray, List.set_cons_zero, List.set_cons_succ, i64_w, i32_w]
                          rfl
                        refine take_ (i := 13) (N := some 33) (v := ?_) (a' := ?_) #[true, true, true, true, true, true, true, true, true, true, true, true, true, true, false, false, false, false, false, false, false, false, false, false, false, false, false, false] rfl rfl (take_ofW HT_.out HW_.out (by kernel_rfl)) (fun _ _ _ h => h) (Or.inl ⟨by rfl, ?_⟩) hHeld ?_ ?_
                        rotate_left
                        · rintro w' ⟨s0, s1, s2, s3, s4, s5, s6, s7, s8, s9⟩
                          go_simp
                          with_reducible rfl
                        rotate_left
                        · simp only [Act.put, List.setIfInBounds_toArray, List.set_cons_zero, List.set_cons_succ, i64_w, i32_w]
                          rfl
                        refine pure_ (i := 14) (N := some 34) (v := ?_) (a' := ?_) #[true, true, true, true, true, true, true, true, true, true, true, true, true, true, true, false, false, false, false, false, false, false, false, false, false, false, false, false] rfl rfl (any_of HT_.out (by kernel_rfl)) (fun _ _ _ h => h) (Or.inl ⟨by rfl, ?_⟩) ?_ ?_
                        rotate_left
                        · intro w'
                          go_simp
                          with_reducible rfl
                        rotate_left
                        · simp only [Act.put, List.setIfInBounds_toArray, List.set_cons_zero, List.set_cons_succ, i64_w, i32_w]
                          rfl
                        refine pure_ (i := 15) (N := some 35) (v := ?_) (a' := ?_) #[true, true, true, true, true, true, true, true, true, true, true, true, true, true, true, true, false, false, false, false, false, false, false, false, false, false, false, false] rfl rfl (any_of HT_.out (by kernel_rfl)) (fun _ _ _ h => h) (Or.inl ⟨by rfl, ?_⟩) ?_ ?_
                        rotate_left
                        · intro w'
                          go_simp
                          with_reducible rfl
                        rotate_left
                        · simp only [Act.put, List.setIfInBounds_toArray, List.set_cons_zero, List.set_cons_succ, i64_w, i32_w]
                          rfl
                        refine pure_ (i := 16) (N := some 36) (v := ?_) (a' := ?_) #[true, true, true, true, true, true, true, true, true, true, true, true, true, true, true, true, true, false, false, false, false, false, false, false, false, false, false, false] rfl rfl (any_of HT_.out (by kernel_rfl)) (fun _ _ _ h => h) (Or.inl ⟨by rfl, ?_⟩) ?_ ?_
                        rotate_left
                        · intro w'
                          go_simp
                          with_reducible rfl
                        rotate_left
                        · simp only [Act.put, List.setIfInBounds_toArray, List.set_cons_zero, List.set_cons_succ, i64_w, i32_w]
                          rfl
                        refine pure_ (i := 17) (N := some 37) (v := undef) (a' := ?_) #[true, true, true, true, true, true, true, true, true, true, true, true, true, true, true, true, true, true, false, false, false, false, false, false, false, false, false, false] rfl rfl (any_of HT_.out (by kernel_rfl)) (fun _ _ _ h => h) (Or.inr ⟨by rfl, rfl⟩) ?_ ?_
                        rotate_left
                        · simp only [Act.put, List.setIfInBounds_toArray, List.set_cons_zero, List.set_cons_succ, i64_w, i32_w]
                          rfl
                        refine pure_ (i := 18) (N := some 38) (v := undef) (a' := ?_) #[true, true, true, true, true, true, true, true, true, true, true, true, true, true, true, true, true, true, true, false, false, false, false, false, false, false, false, false] rfl rfl (any_of HT_.out (by kernel_rfl)) (fun _ _ _ h => h) (Or.inr ⟨by rfl, rfl⟩) ?_ ?_
                        rotate_left
                        · simp only [Act.put, List.setIfInBounds_toArray, List.set_cons_zero, List.set_cons_succ, i64_w, i32_w]
                          rfl
                        refine pure_ (i := 19) (N := some 39) (v := undef) (a' := ?_) #[true, true, true, true, true, true, true, true, true, true, true, true, true, true, true, true, true, true, true, true, false, false, false, false, false, false, false, false] rfl rfl (any_of HT_.out (by kernel_rfl)) (fun _ _ _ h => h) (Or.inr ⟨by rfl, rfl⟩) ?_ ?_
                        rotate_left
                        · simp only [Act.put, List.setIfInBounds_toArray, List.set_cons_zero, List.set_cons_succ, i64_w, i32_w]
                          rfl
                        refine pure_ (i := 20) (N := some 40) (v := undef) (a' := ?_) #[true, true, true, true, true, true, true, true, true, true, true, true, true, true, true, true, true, true, true, true, true, false, false, false, false, false, false, false] rfl rfl (any_of HT_.out (by kernel_rfl)) (fun _ _ _ h => h) (Or.inr ⟨by rfl, rfl⟩) ?_ ?_
                        rotate_left
                        · simp only [Act.put, List.setIfInBounds_toArray, List.set_cons_zero, List.set_cons_succ, i64_w, i32_w]
                          rfl
                        refine pure_ (i := 21) (N := some 41) (v := undef) (a' := ?_) #[true, true, true, true, true, true, true, true, true, true, true, true, true, true, true, true, true, true, true, true, true, true, false, false, false, false, false, false] rfl rfl (any_of HT_.out (by kernel_rfl)) (fun _ _ _ h => h) (Or.inr ⟨by rfl, rfl⟩) ?_ ?_
                        rotate_left
                        · simp only [Act.put, List.setIfInBounds_toArray, List.set_cons_zero, List.set_cons_succ, i64_w, i32_w]
                          rfl
                        refine pure_ (i := 22) (N := some 42) (v := undef) (a' := ?_) #[true, true, true, true, true, true, true, true, true, true, true, true, true, true, true, true, true, true, true, true, true, true, true, false, false, false, false, false] rfl rfl (any_of HT_.out (by kernel_rfl)) (fun _ _ _ h => h) (Or.inr ⟨by rfl, rfl⟩) ?_ ?_
                        rotate_left
                        · simp only [Act.put, List.setIfInBounds_toArray, List.set_cons_zero, List.set_cons_succ, i64_w, i32_w]
                          rfl
                        refine pure_ (i := 23) (N := some 43) (v := undef) (a' := ?_) #[true, true, true, true, true, true, true, true, true, true, true, true, true, true, true, true, true, true, true, true, true, true, true, true, false, false, false, false] rfl rfl (any_of HT_.out (by kernel_rfl)) (fun _ _ _ h => h) (Or.inr ⟨by rfl, rfl⟩) ?_ ?_
                        rotate_left
                        · simp only [Act.put, List.setIfInBounds_toArray, List.set_cons_zero, List.set_cons_succ, i64_w, i32_w]
                          rfl
                        refine pure_ (i := 24) (N := some 44) (v := undef) (a' := ?_) #[true, true, true, true, true, true, true, true, true, true, true, true, true, true, true, true, true, true, true, true, true, true, true, true, true, false, false, false] rfl rfl (any_of HT_.out (by kernel_rfl)) (fun _ _ _ h => h) (Or.inr ⟨by rfl, rfl⟩) ?_ ?_
                        rotate_left
                        · simp only [Act.put, List.setIfInBounds_toArray, List.set_cons_zero, List.set_cons_succ, i64_w, i32_w]
                          rfl
                        refine pure_ (i := 25) (N := some 45) (v := undef) (a' := ?_) #[true, true, true, true, true, true, true, true, true, true, true, true, true, true, true, true, true, true, true, true, true, true, true, true, true, true, false, false] rfl rfl (any_of HT_.out (by kernel_rfl)) (fun _ _ _ h => h) (Or.inr ⟨by rfl, rfl⟩) ?_ ?_
                        rotate_left
                        · simp only [Act.put, List.setIfInBounds_toArray, List.set_cons_zero, List.set_cons_succ, i64_w, i32_w]
                          rfl
                        refine pure_ (i := 26) (N := some 46) (v := ?_) (a' := ?_) #[true, true, true, true, true, true, true, true, true, true, true, true, true, true, true, true, true, true, true, true, true, true, true, true, true, true, true, false] rfl rfl (any_of HT_.out (by kernel_rfl)) (fun _ _ _ h => h) (Or.inl ⟨by rfl, ?_⟩) ?_ ?_
                        rotate_left
                        · intro w'
                          go_simp
                          with_reducible rfl
                        rotate_left
                        · simp only [Act.put, List.setIfInBounds_toArray, List.set_cons_zero, List.set_cons_succ, i64_w, i32_w]
                          rfl
                        refine pure_ (i := 27) (N := some 47) (v := ?_) (a' := ?_) #[true, true, true, true, true, true, true, true, true, true, true, true, true, true, true, true, true, true, true, true, true, true, true, true, true, true, true, true] rfl rfl (any_of HT_.out (by kernel_rfl)) (fun _ _ _ h => h) (Or.inl ⟨by rfl, ?_⟩) ?_ ?_
                        rotate_left
                        · intro w'
                          go_simp
                          with_reducible rfl
                        rotate_left
                        · simp only [Act.put, List.setIfInBounds_toArray, List.set_cons_zero, List.set_cons_succ, i64_w, i32_w]
                          rfl
                        refine done_ (done_of HT_.out (by kernel_rfl)) ?_
                        try go_wp2
                        go_roundg k1
                        case measure => have := HK1.out; omega
                        case rel => exact ⟨(wrap64 (x12_1 + 1)), (by first | rfl | (simp; done) | (simp [*]; done)), H', ⟨by have := HK1.out; omega⟩, ⟨by repeat (first | (with_reducible first | exact HB.out | apply below_alloc | apply pw_below_drewN | apply below_drew1 | refine below_set ?_ GE145.out) | exact HB.out)⟩⟩
                    · rw [if_neg c13] at H
                      exact absurd H (by simp)
                  · rw [if_neg c12] at H
                    exact absurd H (by simp)
                · rw [if_neg c10] at H
                  have c10b0 : decide (0 < x12_1) = false := decide_eq_false c10
                  clear c10
                  have H' := Aside0.mk H
                  clear H
                  have p144 : 0 ≤ (x12_1 : Int) := of_decide_eq_true (by first | (with_reducible assumption) | assumption)
                  have q144 : x12_1 < (l0.length : Int) := of_decide_eq_true (by first | (with_reducible assumption) | assumption)
                  obtain ⟨ad144, A144_4, c144_4, e144, hx144_0, hx144_1, hx144_2, hx144_3, hx144_4, hl144_4, hi144_4⟩ := at_T33 HR0.out x12_1 p144 q144
                  cases e144
                  replace hx144_0 := (HB.out.cell (World.block_lt_of_cell? w _ hx144_0)).trans hx144_0
                  replace hx144_1 := (HB.out.cell (World.block_lt_of_cell? w _ hx144_1)).trans hx144_1
                  replace hx144_2 := (HB.out.cell (World.block_lt_of_cell? w _ hx144_2)).trans hx144_2
                  replace hx144_3 := (HB.out.cell (World.block_lt_of_cell? w _ hx144_3)).trans hx144_3
                  replace hx144_4 := (HB.out.cell (World.block_lt_of_cell? w _ hx144_4)).trans hx144_4
                  have HR144_4 := Aside0.mk hi144_4
                  have HC144_4 := Aside0.mk hl144_4
                  clear hi144_4 hl144_4
                  replace p144 := eq_true p144
                  replace q144 := eq_true q144
                  try go_wp2_with (first | ((with_reducible refine gate_dst (N := 8) rfl ?_); (try (refine gate_guard (by rfl) ?_; dsimp only)); refine box_event ?hg (N := 8) ?hd (cs := #[.int .i64 0, .bool false, .string (⟨#[]⟩ : ByteArray), .string (⟨#[]⟩ : ByteArray), .slice none 0 0]) (t := 33) ?hr ?_; (case hd => rfl); (case hg => rfl); (case hr => first | (go_simp; done) | (go_simp; rfl)); intro gb145 hg w31 hbox hb; have n0_ := Aside0.mk (below_step (by repeat (first | (with_reducible first | exact HB.out | apply below_alloc | apply pw_below_drewN | apply below_drew1) | exact HB.out)) hb); have n1_ := Aside0.mk (hbox); have n2_ := Aside0.mk ((by rw [hg]; exact (below_size (by repeat (first | (with_reducible first | exact HB.out | apply below_alloc | apply pw_below_drewN | apply below_drew1) | exact HB.out))) : w.heap.size ≤ gb145)); have n3_ := Aside0.mk ((by rw [hg]; exact (below_size (by repeat (first | (with_reducible first | exact HB.out | apply below_alloc | apply pw_below_drewN | apply below_drew1) | exact HB.out))) : w.heap.size ≤ gb145)); clear HB; have HB := n0_; have BK145 := n1_; have GW145 := n2_; have GE145 := n3_; clear n0_ n1_ n2_ n3_; clear hb hbox hg; have hcz32_0 : w31.cell? ⟨gb145, 0, none⟩ = some (.int .i64 0) := (blk_cell BK145.out 0).trans rfl; have hcz32_1 : w31.cell? ⟨gb145, 1, none⟩ = some (.bool false) := (blk_cell BK145.out 1).trans rfl; have hcz32_2 : w31.cell? ⟨gb145, 2, none⟩ = some (.string (⟨#[]⟩ : ByteArray)) := (blk_cell BK145.out 2).trans rfl; have hcz32_3 : w31.cell? ⟨gb145, 3, none⟩ = some (.string (⟨#[]⟩ : ByteArray)) := (blk_cell BK145.out 3).trans rfl; have hcz32_4 : w31.cell? ⟨gb145, 4, none⟩ = some (.slice none 0 0) := (blk_cell BK145.out 4).trans rfl; have hfz32_0 := blk_frozen BK145.out 0; have hfz32_1 := blk_frozen BK145.out 1; have hfz32_2 := blk_frozen BK145.out 2; have hfz32_3 := blk_frozen BK145.out 3; have hfz32_4 := blk_frozen BK145.out 4))
                  have n0_ : Aside0 ((((((w31.setCell ⟨gb145, 0, none⟩ (.int .i64 ((rd_T33 l0 x12_1).f0))).setCell ⟨gb145, 1, none⟩ (.bool ((rd_T33 l0 x12_1).f1))).setCell ⟨gb145, 2, none⟩ (.string ((rd_T33 l0 x12_1).f2))).setCell ⟨gb145, 3, none⟩ (.string ((rd_T33 l0 x12_1).f3))).setCell ⟨gb145, 4, none⟩ (.slice A144_4 ((rd_T33 l0 x12_1).f4).length c144_4)).heap[gb145]? = some (.cells #[.int .i64 ((rd_T33 l0 x12_1).f0), .bool ((rd_T33 l0 x12_1).f1), .string ((rd_T33 l0 x12_1).f2), .string ((rd_T33 l0 x12_1).f3), .slice A144_4 ((rd_T33 l0 x12_1).f4).length c144_4] 33 (0, 0))) := ⟨by (with_reducible repeat (first | refine blk_drewN ?_ _ | refine blk_drew ?_ | refine blk_alloc ?_ _)); refine blk_put (cs := #[.int .i64 ((rd_T33 l0 x12_1).f0), .bool ((rd_T33 l0 x12_1).f1), .string ((rd_T33 l0 x12_1).f2), .string ((rd_T33 l0 x12_1).f3), .slice none 0 0]) ?_ 4 _ rfl; (with_reducible repeat (first | refine blk_drewN ?_ _ | refine blk_drew ?_ | refine blk_alloc ?_ _)); refine blk_put (cs := #[.int .i64 ((rd_T33 l0 x12_1).f0), .bool ((rd_T33 l0 x12_1).f1), .string ((rd_T33 l0 x12_1).f2), .string (⟨#[]⟩ : ByteArray), .slice none 0 0]) ?_ 3 _ rfl; (with_reducible repeat (first | refine blk_drewN ?_ _ | refine blk_drew ?_ | refine blk_alloc ?_ _)); refine blk_put (cs := #[.int .i64 ((rd_T33 l0 x12_1).f0), .bool ((rd_T33 l0 x12_1).f1), .string (⟨#[]⟩ : ByteArray), .string (⟨#[]⟩ : ByteArray), .slice none 0 0]) ?_ 2 _ rfl; (with_reducible repeat (first | refine blk_drewN ?_ _ | refine blk_drew ?_ | refine blk_alloc ?_ _)); refine blk_put (cs := #[.int .i64 ((rd_T33 l0 x12_1).f0), .bool false, .string (⟨#[]⟩ : ByteArray), .string (⟨#[]⟩ : ByteArray), .slice none 0 0]) ?_ 1 _ rfl; (with_reducible repeat (first | refine blk_drewN ?_ _ | refine blk_drew ?_ | refine blk_alloc ?_ _)); refine blk_put (cs := #[.int .i64 0, .bool false, .string (⟨#[]⟩ : ByteArray), .string (⟨#[]⟩ : ByteArray), .slice none 0 0]) ?_ 0 _ rfl; (with_reducible repeat (first | refine blk_drewN ?_ _ | refine blk_drew ?_ | refine blk_alloc ?_ _)); exact BK145.out⟩
                  have n1_ : Aside0 (Below w.heap.size w (((((w31.setCell ⟨gb145, 0, none⟩ (.int .i64 ((rd_T33 l0 x12_1).f0))).setCell ⟨gb145, 1, none⟩ (.bool ((rd_T33 l0 x12_1).f1))).setCell ⟨gb145, 2, none⟩ (.string ((rd_T33 l0 x12_1).f2))).setCell ⟨gb145, 3, none⟩ (.string ((rd_T33 l0 x12_1).f3))).setCell ⟨gb145, 4, none⟩ (.slice A144_4 ((rd_T33 l0 x12_1).f4).length c144_4))) := ⟨by repeat (first | (with_reducible first | exact HB.out | apply below_alloc | apply pw_below_drewN | apply below_drew1 | refine below_set ?_ GE145.out) | exact HB.out)⟩
                  (try clear BK145)
                  (try clear HB)
                  generalize (((((w31.setCell ⟨gb145, 0, none⟩ (.int .i64 ((rd_T33 l0 x12_1).f0))).setCell ⟨gb145, 1, none⟩ (.bool ((rd_T33 l0 x12_1).f1))).setCell ⟨gb145, 2, none⟩ (.string ((rd_T33 l0 x12_1).f2))).setCell ⟨gb145, 3, none⟩ (.string ((rd_T33 l0 x12_1).f3))).setCell ⟨gb145, 4, none⟩ (.slice A144_4 ((rd_T33 l0 x12_1).f4).length c144_4)) = w33 at n0_ n1_ ⊢
                  have BK145 := n0_
                  have HB := n1_
                  clear n0_ n1_
                  have n0_ := Aside0.mk (blk_drew BK145.out)
                  have n1_ := Aside0.mk (below_drew1 HB.out)
                  clear BK145
                  clear HB
                  have BK145 := n0_
                  have HB := n1_
                  clear n0_ n1_
                  refine start_ (n := 28) (S := fun w' => w'.cell? ⟨gb145, 0, none⟩ = some (.int .i64 ((rd_T33 l0 x12_1).f0)) ∧ w'.cell? ⟨gb145, 1, none⟩ = some (.bool ((rd_T33 l0 x12_1).f1)) ∧ w'.cell? ⟨gb145, 2, none⟩ = some (.string ((rd_T33 l0 x12_1).f2)) ∧ w'.cell? ⟨gb145, 3, none⟩ = some (.string ((rd_T33 l0 x12_1).f3)) ∧ w'.cell? ⟨gb145, 4, none⟩ = some (.slice A144_4 ((rd_T33 l0 x12_1).f4).length c144_4)) (ds := []) #[false, false, false, false, false, false, false, false, false, false, false, false, false, false, false, false, false, false, false, false, false, false, false, false, false, false, false, false] (by kernel_rfl) rfl rfl ⟨(blk_cell BK145.out 0).trans rfl, (blk_cell BK145.out 1).trans rfl, (blk_cell BK145.out 2).trans rfl, (blk_cell BK145.out 3).trans rfl, (blk_cell BK145.out 4).trans rfl⟩ (fun hHeld => ?_); refine with_tabW deadfallref03_Parts.tab5 deadfallref03_Parts.bits5 (fun HT_ HW_ => ?_)
                  generalize w33.drew = w34 at BK145 HB hHeld ⊢
                  refine pure_ (i := 1) (N := some 21) (v := ?_) (a' := ?_) #[false, true, false, false, false, false, false, false, false, false, false, false, false, false, false, false, false, false, false, false, false, false, false, false, false, false, false, false] rfl rfl (any_of HT_.out (by kernel_rfl)) (fun _ _ _ h => h) (Or.inl ⟨by rfl, ?_⟩) ?_ ?_
                  rotate_left
                  · intro w'
                    go_simp
                    with_reducible rfl
                  rotate_left
                  · simp only [Act.put, List.setIfInBounds_toArray, List.set_cons_zero, List.set_cons_succ, i64_w, i32_w]
                    rfl
                  refine take_ (i := 0) (N := some 20) (v := ?_) (a' := ?_) #[true, true, false, false, false, false, false, false, false, false, false, false, false, false, false, false, false, false, false, false, false, false, false, false, false, false, false, false] rfl rfl (take_ofW HT_.out HW_.out (by kernel_rfl)) (fun _ _ _ h => h) (Or.inl ⟨by rfl, ?_⟩) hHeld ?_ ?_
                  rotate_left
                  · rintro w' ⟨s0, s1, s2, s3, s4⟩
                    go_simp
                    with_reducible rfl
                  rotate_left
                  · simp only [Act.put, List.setIfInBounds_toArray, List.set_cons_zero, List.set_cons_succ, i64_w, i32_w]
                    rfl
                  refine one_ (i := 2) (N := some 22) #[true, true, true, false, false, false, false, false, false, false, false, false, false, false, false, false, false, false, false, false, false, false, false, false, false, false, false, false] rfl rfl (one_of HT_.out (by kernel_rfl)) (by decide) (fun K hK => ?_)
                  refine goes_ Tryd.func37 (by kernel_rfl) rfl #[.agg #[.int .i64 ((rd_T33 l0 x12_1).f0), .bool ((rd_T33 l0 x12_1).f1), .string ((rd_T33 l0 x12_1).f2), .string ((rd_T33 l0 x12_1).f3), .slice A144_4 ((rd_T33 l0 x12_1).f4).length c144_4], .int .i64 a1] (by rfl) rfl rfl (by (try simp only [List.map_toArray, List.map_cons, List.map_nil]); first | done | rfl | (simp only [List.length_drop, List.length_take]; rfl)) ?_
                  with_reducible refine (deadfallref03_text.calls k1 ((rd_T33 l0 x12_1).f0) ((rd_T33 l0 x12_1).f1) ((rd_T33 l0 x12_1).f2) ((rd_T33 l0 x12_1).f3) _ _ ((rd_T33 l0 x12_1).f4) a1 true _ ?side1 ?side2 A8.out).mono ?_
                  (case side1 => repeat (first | exact (Kd.C_below HR144_4.out HB.out) | (with_reducible refine Kd.C_alloc ?_ _) | (with_reducible refine Kd.C_drewN ?_ _) | (with_reducible refine Kd.C_drew ?_)))
                  (case side2 => exact HC144_4.out)
                  rintro e w35 ⟨rfl, hb⟩
                  refine ⟨_, rfl, ?_⟩
                  have n0_ := Aside0.mk (blk_below (g := gb145) (o := .cells #[.int .i64 ((rd_T33 l0 x12_1).f0), .bool ((rd_T33 l0 x12_1).f1), .string ((rd_T33 l0 x12_1).f2), .string ((rd_T33 l0 x12_1).f3), .slice A144_4 ((rd_T33 l0 x12_1).f4).length c144_4] 33 (0, 0)) (by (with_reducible repeat (first | refine blk_drewN ?_ _ | refine blk_drew ?_ | refine blk_alloc ?_ _)); exact BK145.out) hb)
                  have n1_ := Aside0.mk (below_step (by repeat (first | (with_reducible first | exact HB.out | apply below_alloc | apply pw_below_drewN | apply below_drew1 | refine below_set ?_ GE145.out) | exact HB.out)) hb)
                  clear BK145
                  clear HB
                  have BK145 := n0_
                  have HB := n1_
                  clear n0_ n1_
                  (try clear hb)
                  (try clear hb2)
                  (try clear hk)
                  (try clear hi)
                  refine hK.out _ _ ⟨(blk_cell BK145.out 0).trans rfl, (blk_cell BK145.out 1).trans rfl, (blk_cell BK145.out 2).trans rfl, (blk_cell BK145.out 3).trans rfl, (blk_cell BK145.out 4).trans rfl⟩ (fun hHeld => ?_)
                  clear hK K
                  refine norm_ (a' := ?_) ?_ ?_
                  rotate_left
                  · show Act.put _ (some 22) _ = _
                    simp only [Act.put, List.setIfInBounds_toArray, List.set_cons_zero, List.set_cons_succ, i64_w, i32_w]
                    rfl
                  refine pure_ (i := 3) (N := some 23) (v := ?_) (a' := ?_) #[true, true, true, true, false, false, false, false, false, false, false, false, false, false, false, false, false, false, false, false, false, false, false, false, false, false, false, false] rfl rfl (any_of HT_.out (by kernel_rfl)) (fun _ _ _ h => h) (Or.inl ⟨by rfl, ?_⟩) ?_ ?_
                  rotate_left
                  · intro w'
                    go_simp
                    with_reducible rfl
                  rotate_left
                  · simp only [Act.put, List.setIfInBounds_toArray, List.set_cons_zero, List.set_cons_succ, i64_w, i32_w]
                    rfl
                  refine pure_ (i := 4) (N := some 24) (v := ?_) (a' := ?_) #[true, true, true, true, true, false, false, false, false, false, false, false, false, false, false, false, false, false, false, false, false, false, false, false, false, false, false, false] rfl rfl (any_of HT_.out (by kernel_rfl)) (fun _ _ _ h => h) (Or.inl ⟨by rfl, ?_⟩) ?_ ?_
                  rotate_left
                  · intro w'
                    go_simp
                    with_reducible rfl
                  rotate_left
                  · simp only [Act.put, List.setIfInBounds_toArray, List.set_cons_zero, List.set_cons_succ, i64_w, i32_w]
                    rfl
                  refine pure_ (i := 5) (N := some 25) (v := ?_) (a' := ?_) #[true, true, true, true, true, true, false, false, false, false, false, false, false, false, false, false, false, false, false, false, false, false, false, false, false, false, false, false] rfl rfl (any_of HT_.out (by kernel_rfl)) (fun _ _ _ h => h) (Or.inl ⟨by rfl, ?_⟩) ?_ ?_
                  rotate_left
                  · intro w'
                    go_simp
                    with_reducible rfl
                  rotate_left
                  · simp only [Act.put, List.setIfInBounds_toArray, List.set_cons_zero, List.set_cons_succ, i64_w, i32_w]
                    rfl
                  refine pure_ (i := 6) (N := some 26) (v := ?_) (a' := ?_) #[true, true, true, true, true, true, true, false, false, false, false, false, false, false, false, false, false, false, false, false, false, false, false, false, false, false, false, false] rfl rfl (any_of HT_.out (by kernel_rfl)) (fun _ _ _ h => h) (Or.inl ⟨by rfl, ?_⟩) ?_ ?_
                  rotate_left
                  · intro w'
                    go_simp
                    with_reducible rfl
                  rotate_left
                  · simp only [Act.put, List.setIfInBounds_toArray, List.set_cons_zero, List.set_cons_succ, i64_w, i32_w]
                    rfl
                  refine pure_ (i := 7) (N := some 27) (v := ?_) (a' := ?_) #[true, true, true, true, true, true, true, true, false, false, false, false, false, false, false, false, false, false, false, false, false, false, false, false, false, false, false, false] rfl rfl (any_of HT_.out (by kernel_rfl)) (fun _ _ _ h => h) (Or.inl ⟨by rfl, ?_⟩) ?_ ?_
                  rotate_left
                  · intro w'
                    go_simp
                    with_reducible rfl
                  rotate_left
                  · simp only [Act.put, List.setIfInBounds_toArray, List.set_cons_zero, List.set_cons_succ, i64_w, i32_w]
                    rfl
                  refine pure_ (i := 8) (N := some 28) (v := undef) (a' := ?_) #[true, true, true, true, true, true, true, true, true, false, false, false, false, false, false, false, false, false, false, false, false, false, false, false, false, false, false, false] rfl rfl (any_of HT_.out (by kernel_rfl)) (fun _ _ _ h => h) (Or.inr ⟨by rfl, rfl⟩) ?_ ?_
                  rotate_left
                  · simp only [Act.put, List.setIfInBounds_toArray, List.set_cons_zero, List.set_cons_succ, i64_w, i32_w]
                    rfl
                  refine pure_ (i := 9) (N := some 29) (v := undef) (a' := ?_) #[true, true, true, true, true, true, true, true, true, true, false, false, false, false, false, false, false, false, false, false, false, false, false, false, false, false, false, false] rfl rfl (any_of HT_.out (by kernel_rfl)) (fun _ _ _ h => h) (Or.inr ⟨by rfl, rfl⟩) ?_ ?_
                  rotate_left
                  · simp only [Act.put, List.setIfInBounds_toArray, List.set_cons_zero, List.set_cons_succ, i64_w, i32_w]
                    rfl
                  refine pure_ (i := 10) (N := some 30) (v := undef) (a' := ?_) #[true, true, true, true, true, true, true, true, true, true, true, false, false, false, false, false, false, false, false, false, false, false, false, false, false, false, false, false] rfl rfl (any_of HT_.out (by kernel_rfl)) (fun _ _ _ h => h) (Or.inr ⟨by rfl, rfl⟩) ?_ ?_
                  rotate_left
                  · simp only [Act.put, List.setIfInBounds_toArray, List.set_cons_zero, List.set_cons_succ, i64_w, i32_w]
                    rfl
                  refine pure_ (i := 11) (N := some 31) (v := undef) (a' := ?_) #[true, true, true, true, true, true, true, true, true, true, true, true, false, false, false, false, false, false, false, false, false, false, false, false, false, false, false, false] rfl rfl (any_of HT_.out (by kernel_rfl)) (fun _ _ _ h => h) (Or.inr ⟨by rfl, rfl⟩) ?_ ?_
                  rotate_left
                  · simp only [Act.put, List.setIfInBounds_toArray, List.set_cons_zero, List.set_cons_succ, i64_w, i32_w]
                    rfl
                  refine pure_ (i := 12) (N := some 32) (v := undef) (a' := ?_) #[true, true, true, true, true, true, true, true, true, true, true, true, true, false, false, false, false, false, false, false, false, false, false, false, false, false, false, false] rfl rfl (any_of HT_.out (by kernel_rfl)) (fun _ _ _ h => h) (Or.inr ⟨by rfl, rfl⟩) ?_ ?_
                  rotate_left
                  · simp only [Act.put, List.setIfInBounds_toArray, List.set_cons_zero, List.set_cons_succ, i64_w, i32_w]
                    rfl
                  refine pure_ (i := 13) (N := some 33) (v := undef) (a' := ?_) #[true, true, true, true, true, true, true, true, true, true, true, true, true, true, false, false, false, false, false, false, false, false, false, false, false, false, false, false] rfl rfl (any_of HT_.out (by kernel_rfl)) (fun _ _ _ h => h) (Or.inr ⟨by rfl, rfl⟩) ?_ ?_
                  rotate_left
                  · simp only [Act.put, List.setIfInBounds_toArray, List.set_cons_zero, List.set_cons_succ, i64_w, i32_w]
                    rfl
                  refine pure_ (i := 14) (N := some 34) (v := undef) (a' := ?_) #[true, true, true, true, true, true, true, true, true, true, true, true, true, true, true, false, false, false, false, false, false, false, false, false, false, false, false, false] rfl rfl (any_of HT_.out (by kernel_rfl)) (fun _ _ _ h => h) (Or.inr ⟨by rfl, rfl⟩) ?_ ?_
                  rotate_left
                  · simp only [Act.put, List.setIfInBounds_toArray, List.set_cons_zero, List.set_cons_succ, i64_w, i32_w]
                    rfl
                  refine pure_ (i := 15) (N := some 35) (v := ?_) (a' := ?_) #[true, true, true, true, true, true, true, true, true, true, true, true, true, true, true, true, false, false, false, false, false, false, false, false, false, false, false, false] rfl rfl (any_of HT_.out (by kernel_rfl)) (fun _ _ _ h => h) (Or.inl ⟨by rfl, ?_⟩) ?_ ?_
                  rotate_left
                  · intro w'
                    go_simp
                    with_reducible rfl
                  rotate_left
                  · simp only [Act.put, List.setIfInBounds_toArray, List.set_cons_zero, List.set_cons_succ, i64_w, i32_w]
                    rfl
                  refine pure_ (i := 16) (N := some 36) (v := ?_) (a' := ?_) #[true, true, true, true, true, true, true, true, true, true, true, true, true, true, true, true, true, false, false, false, false, false, false, false, false, false, false, false] rfl rfl (any_of HT_.out (by kernel_rfl)) (fun _ _ _ h => h) (Or.inl ⟨by rfl, ?_⟩) ?_ ?_
                  rotate_left
                  · intro w'
                    go_simp
                    with_reducible rfl
                  rotate_left
                  · simp only [Act.put, List.setIfInBounds_toArray, List.set_cons_zero, List.set_cons_succ, i64_w, i32_w]
                    rfl
                  refine pure_ (i := 17) (N := some 37) (v := undef) (a' := ?_) #[true, true, true, true, true, true, true, true, true, true, true, true, true, true, true, true, true, true, false, false, false, false, false, false, false, false, false, false] rfl rfl (any_of HT_.out (by kernel_rfl)) (fun _ _ _ h => h) (Or.inr ⟨by rfl, rfl⟩) ?_ ?_
                  rotate_left
                  · simp only [Act.put, List.setIfInBounds_toArray, List.set_cons_zero, List.set_cons_succ, i64_w, i32_w]
                    rfl
                  refine pure_ (i := 18) (N := some 38) (v := undef) (a' := ?_) #[true, true, true, true, true, true, true, true, true, true, true, true, true, true, true, true, true, true, true, false, false, false, false, false, false, false, false, false] rfl rfl (any_of HT_.out (by kernel_rfl)) (fun _ _ _ h => h) (Or.inr ⟨by rfl, rfl⟩) ?_ ?_
                  rotate_left
                  · simp only [Act.put, List.setIfInBounds_toArray, List.set_cons_zero, List.set_cons_succ, i64_w, i32_w]
                    rfl
                  refine pure_ (i := 19) (N := some 39) (v := undef) (a' := ?_) #[true, true, true, true, true, true, true, true, true, true, true, true, true, true, true, true, true, true, true, true, false, false, false, false, false, false, false, false] rfl rfl (any_of HT_.out (by kernel_rfl)) (fun _ _ _ h => h) (Or.inr ⟨by rfl, rfl⟩) ?_ ?_
                  rotate_left
                  · simp only [Act.put, List.setIfInBounds_toArray, List.set_cons_zero, List.set_cons_succ, i64_w, i32_w]
                    rfl
                  refine pure_ (i := 20) (N := some 40) (v := undef) (a' := ?_) #[true, true, true, true, true, true, true, true, true, true, true, true, true, true, true, true, true, true, true, true, true, false, false, false, false, false, false, false] rfl rfl (any_of HT_.out (by kernel_rfl)) (fun _ _ _ h => h) (Or.inr ⟨by rfl, rfl⟩) ?_ ?_
                  rotate_left
                  · simp only [Act.put, List.setIfInBounds_toArray, List.set_cons_zero, List.set_cons_succ, i64_w, i32_w]
                    rfl
                  refine pure_ (i := 21) (N := some 41) (v := undef) (a' := ?_) #[true, true, true, true, true, true, true, true, true, true, true, true, true, true, true, true, true, true, true, true, true, true, false, false, false, false, false, false] rfl rfl (any_of HT_.out (by kernel_rfl)) (fun _ _ _ h => h) (Or.inr ⟨by rfl, rfl⟩) ?_ ?_
                  rotate_left
                  · simp only [Act.put, List.setIfInBounds_toArray, List.set_cons_zero, List.set_cons_succ, i64_w, i32_w]
                    rfl
                  refine pure_ (i := 22) (N := some 42) (v := undef) (a' := ?_) #[true, true, true, true, true, true, true, true, true, true, true, true, true, true, true, true, true, true, true, true, true, true, true, false, false, false, false, false] rfl rfl (any_of HT_.out (by kernel_rfl)) (fun _ _ _ h => h) (Or.inr ⟨by rfl, rfl⟩) ?_ ?_
                  rotate_left
                  · simp only [Act.put, List.setIfInBounds_toArray, List.set_cons_zero, List.set_cons_succ, i64_w, i32_w]
                    rfl
                  refine pure_ (i := 23) (N := some 43) (v := undef) (a' := ?_) #[true, true, true, true, true, true, true, true, true, true, true, true, true, true, true, true, true, true, true, true, true, true, true, true, false, false, false, false] rfl rfl (any_of HT_.out (by kernel_rfl)) (fun _ _ _ h => h) (Or.inr ⟨by rfl, rfl⟩) ?_ ?_
                  rotate_left
                  · simp only [Act.put, List.setIfInBounds_toArray, List.set_cons_zero, List.set_cons_succ, i64_w, i32_w]
                    rfl
                  refine pure_ (i := 24) (N := some 44) (v := undef) (a' := ?_) #[true, true, true, true, true, true, true, true, true, true, true, true, true, true, true, true, true, true, true, true, true, true, true, true, true, false, false, false] rfl rfl (any_of HT_.out (by kernel_rfl)) (fun _ _ _ h => h) (Or.inr ⟨by rfl, rfl⟩) ?_ ?_
                  rotate_left
                  · simp only [Act.put, List.setIfInBounds_toArray, List.set_cons_zero, List.set_cons_succ, i64_w, i32_w]
                    rfl
                  refine pure_ (i := 25) (N := some 45) (v := undef) (a' := ?_) #[true, true, true, true, true, true, true, true, true, true, true, true, true, true, true, true, true, true, true, true, true, true, true, true, true, true, false, false] rfl rfl (any_of HT_.out (by kernel_rfl)) (fun _ _ _ h => h) (Or.inr ⟨by rfl, rfl⟩) ?_ ?_
                  rotate_left
                  · simp only [Act.put, List.setIfInBounds_toArray, List.set_cons_zero, List.set_cons_succ, i64_w, i32_w]
                    rfl
                  refine pure_ (i := 26) (N := some 46) (v := ?_) (a' := ?_) #[true, true, true, true, true, true, true, true, true, true, true, true, true, true, true, true, true, true, true, true, true, true, true, true, true, true, true, false] rfl rfl (any_of HT_.out (by kernel_rfl)) (fun _ _ _ h => h) (Or.inl ⟨by rfl, ?_⟩) ?_ ?_
                  rotate_left
                  · intro w'
                    go_simp
                    with_reducible rfl
                  rotate_left
                  · simp only [Act.put, List.setIfInBounds_toArray, List.set_cons_zero, List.set_cons_succ, i64_w, i32_w]
                    rfl
                  refine pure_ (i := 27) (N := some 47) (v := ?_) (a' := ?_) #[true, true, true, true, true, true, true, true, true, true, true, true, true, true, true, true, true, true, true, true, true, true, true, true, true, true, true, true] rfl rfl (any_of HT_.out (by kernel_rfl)) (fun _ _ _ h => h) (Or.inl ⟨by rfl, ?_⟩) ?_ ?_
                  rotate_left
                  · intro w'
                    go_simp
                    with_reducible rfl
                  rotate_left
                  · simp only [Act.put, List.setIfInBounds_toArray, List.set_cons_zero, List.set_cons_succ, i64_w, i32_w]
                    rfl
                  refine done_ (done_of HT_.out (by kernel_rfl)) ?_
                  try go_wp2
                  go_roundg k1
                  case measure => have := HK1.out; omega
                  case rel => exact ⟨(wrap64 (x12_1 + 1)), (by first | rfl | (simp; done) | (simp [*]; done)), H', ⟨by have := HK1.out; omega⟩, ⟨by repeat (first | (with_reducible first | exact HB.out | apply below_alloc | apply pw_below_drewN | apply below_drew1 | refine below_set ?_ GE145.out) | exact HB.out)⟩⟩
              · replace c9 := Bool.eq_false_iff.mpr c9
                subst c9
                have H1 : (some false) = some r := by rw [if_neg (show ¬ (false = true) by decide)] at H; exact H
                clear H
                have H := H1
                clear H1
                obtain rfl := Option.some.inj H
                have p144 : 0 ≤ (x12_1 : Int) := of_decide_eq_true (by first | (with_reducible assumption) | assumption)
                have q144 : x12_1 < (l0.length : Int) := of_decide_eq_true (by first | (with_reducible assumption) | assumption)
                obtain ⟨ad144, A144_4, c144_4, e144, hx144_0, hx144_1, hx144_2, hx144_3, hx144_4, hl144_4, hi144_4⟩ := at_T33 HR0.out x12_1 p144 q144
                cases e144
                replace hx144_0 := (HB.out.cell (World.block_lt_of_cell? w _ hx144_0)).trans hx144_0
                replace hx144_1 := (HB.out.cell (World.block_lt_of_cell? w _ hx144_1)).trans hx144_1
                replace hx144_2 := (HB.out.cell (World.block_lt_of_cell? w _ hx144_2)).trans hx144_2
                replace hx144_3 := (HB.out.cell (World.block_lt_of_cell? w _ hx144_3)).trans hx144_3
                replace hx144_4 := (HB.out.cell (World.block_lt_of_cell? w _ hx144_4)).trans hx144_4
                have HR144_4 := Aside0.mk hi144_4
                have HC144_4 := Aside0.mk hl144_4
                clear hi144_4 hl144_4
                replace p144 := eq_true p144
                replace q144 := eq_true q144
                try go_wp2_with (first | ((with_reducible refine gate_dst (N := 8) rfl ?_); (try (refine gate_guard (by rfl) ?_; dsimp only)); refine box_event ?hg (N := 8) ?hd (cs := #[.int .i64 0, .bool false, .string (⟨#[]⟩ : ByteArray), .string (⟨#[]⟩ : ByteArray), .slice none 0 0]) (t := 33) ?hr ?_; (case hd => rfl); (case hg => rfl); (case hr => first | (go_simp; done) | (go_simp; rfl)); intro gb145 hg w36 hbox hb; have n0_ := Aside0.mk (below_step (by repeat (first | (with_reducible first | exact HB.out | apply below_alloc | apply pw_below_drewN | apply below_drew1) | exact HB.out)) hb); have n1_ := Aside0.mk (hbox); have n2_ := Aside0.mk ((by rw [hg]; exact (below_size (by repeat (first | (with_reducible first | exact HB.out | apply below_alloc | apply pw_below_drewN | apply below_drew1) | exact HB.out))) : w.heap.size ≤ gb145)); have n3_ := Aside0.mk ((by rw [hg]; exact (below_size (by repeat (first | (with_reducible first | exact HB.out | apply below_alloc | apply pw_below_drewN | apply below_drew1) | exact HB.out))) : w.heap.size ≤ gb145)); clear HB; have HB := n0_; have BK145 := n1_; have GW145 := n2_; have GE145 := n3_; clear n0_ n1_ n2_ n3_; clear hb hbox hg; have hcz37_0 : w36.cell? ⟨gb145, 0, none⟩ = some (.int .i64 0) := (blk_cell BK145.out 0).trans rfl; have hcz37_1 : w36.cell? ⟨gb145, 1, none⟩ = some (.bool false) := (blk_cell BK145.out 1).trans rfl; have hcz37_2 : w36.cell? ⟨gb145, 2, none⟩ = some (.string (⟨#[]⟩ : ByteArray)) := (blk_cell BK145.out 2).trans rfl; have hcz37_3 : w36.cell? ⟨gb145, 3, none⟩ = some (.string (⟨#[]⟩ : ByteArray)) := (blk_cell BK145.out 3).trans rfl; have hcz37_4 : w36.cell? ⟨gb145, 4, none⟩ = some (.slice none 0 0) := (blk_cell BK145.out 4).trans rfl; have hfz37_0 := blk_frozen BK145.out 0; have hfz37_1 := blk_frozen BK145.out 1; have hfz37_2 := blk_frozen BK145.out 2; have hfz37_3 := blk_frozen BK145.out 3; have hfz37_4 := blk_frozen BK145.out 4))
                have n0_ : Aside0 ((((((w36.setCell ⟨gb145, 0, none⟩ (.int .i64 ((rd_T33 l0 x12_1).f0))).setCell ⟨gb145, 1, none⟩ (.bool ((rd_T33 l0 x12_1).f1))).setCell ⟨gb145, 2, none⟩ (.string ((rd_T33 l0 x12_1).f2))).setCell ⟨gb145, 3, none⟩ (.string ((rd_T33 l0 x12_1).f3))).setCell ⟨gb145, 4, none⟩ (.slice A144_4 ((rd_T33 l0 x12_1).f4).length c144_4)).heap[gb145]? = some (.cells #[.int .i64 ((rd_T33 l0 x12_1).f0), .bool ((rd_T33 l0 x12_1).f1), .string ((rd_T33 l0 x12_1).f2), .string ((rd_T33 l0 x12_1).f3), .slice A144_4 ((rd_T33 l0 x12_1).f4).length c144_4] 33 (0, 0))) := ⟨by (with_reducible repeat (first | refine blk_drewN ?_ _ | refine blk_drew ?_ | refine blk_alloc ?_ _)); refine blk_put (cs := #[.int .i64 ((rd_T33 l0 x12_1).f0), .bool ((rd_T33 l0 x12_1).f1), .string ((rd_T33 l0 x12_1).f2), .string ((rd_T33 l0 x12_1).f3), .slice none 0 0]) ?_ 4 _ rfl; (with_reducible repeat (first | refine blk_drewN ?_ _ | refine blk_drew ?_ | refine blk_alloc ?_ _)); refine blk_put (cs := #[.int .i64 ((rd_T33 l0 x12_1).f0), .bool ((rd_T33 l0 x12_1).f1), .string ((rd_T33 l0 x12_1).f2), .string (⟨#[]⟩ : ByteArray), .slice none 0 0]) ?_ 3 _ rfl; (with_reducible repeat (first | refine blk_drewN ?_ _ | refine blk_drew ?_ | refine blk_alloc ?_ _)); refine blk_put (cs := #[.int .i64 ((rd_T33 l0 x12_1).f0), .bool ((rd_T33 l0 x12_1).f1), .string (⟨#[]⟩ : ByteArray), .string (⟨#[]⟩ : ByteArray), .slice none 0 0]) ?_ 2 _ rfl; (with_reducible repeat (first | refine blk_drewN ?_ _ | refine blk_drew ?_ | refine blk_alloc ?_ _)); refine blk_put (cs := #[.int .i64 ((rd_T33 l0 x12_1).f0), .bool false, .string (⟨#[]⟩ : ByteArray), .string (⟨#[]⟩ : ByteArray), .slice none 0 0]) ?_ 1 _ rfl; (with_reducible repeat (first | refine blk_drewN ?_ _ | refine blk_drew ?_ | refine blk_alloc ?_ _)); refine blk_put (cs := #[.int .i64 0, .bool false, .string (⟨#[]⟩ : ByteArray), .string (⟨#[]⟩ : ByteArray), .slice none 0 0]) ?_ 0 _ rfl; (with_reducible repeat (first | refine blk_drewN ?_ _ | refine blk_drew ?_ | refine blk_alloc ?_ _)); exact BK145.out⟩
                have n1_ : Aside0 (Below w.heap.size w (((((w36.setCell ⟨gb145, 0, none⟩ (.int .i64 ((rd_T33 l0 x12_1).f0))).setCell ⟨gb145, 1, none⟩ (.bool ((rd_T33 l0 x12_1).f1))).setCell ⟨gb145, 2, none⟩ (.string ((rd_T33 l0 x12_1).f2))).setCell ⟨gb145, 3, none⟩ (.string ((rd_T33 l0 x12_1).f3))).setCell ⟨gb145, 4, none⟩ (.slice A144_4 ((rd_T33 l0 x12_1).f4).length c144_4))) := ⟨by repeat (first | (with_reducible first | exact HB.out | apply below_alloc | apply pw_below_drewN | apply below_drew1 | refine below_set ?_ GE145.out) | exact HB.out)⟩
                (try clear BK145)
                (try clear HB)
                generalize (((((w36.setCell ⟨gb145, 0, none⟩ (.int .i64 ((rd_T33 l0 x12_1).f0))).setCell ⟨gb145, 1, none⟩ (.bool ((rd_T33 l0 x12_1).f1))).setCell ⟨gb145, 2, none⟩ (.string ((rd_T33 l0 x12_1).f2))).setCell ⟨gb145, 3, none⟩ (.string ((rd_T33 l0 x12_1).f3))).setCell ⟨gb145, 4, none⟩ (.slice A144_4 ((rd_T33 l0 x12_1).f4).length c144_4)) = w38 at n0_ n1_ ⊢
                have BK145 := n0_
                have HB := n1_
                clear n0_ n1_
                have n0_ := Aside0.mk (blk_drew BK145.out)
                have n1_ := Aside0.mk (below_drew1 HB.out)
                clear BK145
                clear HB
                have BK145 := n0_
                have HB := n1_
                clear n0_ n1_
                refine start_ (n := 28) (S := fun w' => w'.cell? ⟨gb145, 0, none⟩ = some (.int .i64 ((rd_T33 l0 x12_1).f0)) ∧ w'.cell? ⟨gb145, 1, none⟩ = some (.bool ((rd_T33 l0 x12_1).f1)) ∧ w'.cell? ⟨gb145, 2, none⟩ = some (.string ((rd_T33 l0 x12_1).f2)) ∧ w'.cell? ⟨gb145, 3, none⟩ = some (.string ((rd_T33 l0 x12_1).f3)) ∧ w'.cell? ⟨gb145, 4, none⟩ = some (.slice A144_4 ((rd_T33 l0 x12_1).f4).length c144_4)) (ds := []) #[false, false, false, false, false, false, false, false, false, false, false, false, false, false, false, false, false, false, false, false, false, false, false, false, false, false, false, false] (by kernel_rfl) rfl rfl ⟨(blk_cell BK145.out 0).trans rfl, (blk_cell BK145.out 1).trans rfl, (blk_cell BK145.out 2).trans rfl, (blk_cell BK145.out 3).trans rfl, (blk_cell BK145.out 4).trans rfl⟩ (fun hHeld => ?_); refine with_tabW deadfallref03_Parts.tab5 deadfallref03_Parts.bits5 (fun HT_ HW_ => ?_)
                generalize w38.drew = w39 at BK145 HB hHeld ⊢
                refine pure_ (i := 1) (N := some 21) (v := ?_) (a' := ?_) #[false, true, false, false, false, false, false, false, false, false, false, false, false, false, false, false, false, false, false, false, false, false, false, false, false, false, false, false] rfl rfl (any_of HT_.out (by kernel_rfl)) (fun _ _ _ h => h) (Or.inl ⟨by rfl, ?_⟩) ?_ ?_
                rotate_left
                · intro w'
                  go_simp
                  with_reducible rfl
                rotate_left
                · simp only [Act.put, List.setIfInBounds_toArray, List.set_cons_zero, List.set_cons_succ, i64_w, i32_w]
                  rfl
                refine take_ (i := 0) (N := some 20) (v := ?_) (a' := ?_) #[true, true, false, false, false, false, false, false, false, false, false, false, false, false, false, false, false, false, false, false, false, false, false, false, false, false, false, false] rfl rfl (take_ofW HT_.out HW_.out (by kernel_rfl)) (fun _ _ _ h => h) (Or.inl ⟨by rfl, ?_⟩) hHeld ?_ ?_
                rotate_left
                · rintro w' ⟨s0, s1, s2, s3, s4⟩
                  go_simp
                  with_reducible rfl
                rotate_left
                · simp only [Act.put, List.setIfInBounds_toArray, List.set_cons_zero, List.set_cons_succ, i64_w, i32_w]
                  rfl
                refine one_ (i := 2) (N := some 22) #[true, true, true, false, false, false, false, false, false, false, false, false, false, false, false, false, false, false, false, false, false, false, false, false, false, false, false, false] rfl rfl (one_of HT_.out (by kernel_rfl)) (by decide) (fun K hK => ?_)
                refine goes_ Tryd.func37 (by kernel_rfl) rfl #[.agg #[.int .i64 ((rd_T33 l0 x12_1).f0), .bool ((rd_T33 l0 x12_1).f1), .string ((rd_T33 l0 x12_1).f2), .string ((rd_T33 l0 x12_1).f3), .slice A144_4 ((rd_T33 l0 x12_1).f4).length c144_4], .int .i64 a1] (by rfl) rfl rfl (by (try simp only [List.map_toArray, List.map_cons, List.map_nil]); first | done | rfl | (simp only [List.length_drop, List.length_take]; rfl)) ?_
                with_reducible refine (deadfallref03_text.calls k1 ((rd_T33 l0 x12_1).f0) ((rd_T33 l0 x12_1).f1) ((rd_T33 l0 x12_1).f2) ((rd_T33 l0 x12_1).f3) _ _ ((rd_T33 l0 x12_1).f4) a1 false _ ?side1 ?side2 A8.out).mono ?_
                (case side1 => repeat (first | exact (Kd.C_below HR144_4.out HB.out) | (with_reducible refine Kd.C_alloc ?_ _) | (with_reducible refine Kd.C_drewN ?_ _) | (with_reducible refine Kd.C_drew ?_)))
                (case side2 => exact HC144_4.out)
                rintro e w40 ⟨rfl, hb⟩
                refine ⟨_, rfl, ?_⟩
                have n0_ := Aside0.mk (blk_below (g := gb145) (o := .cells #[.int .i64 ((rd_T33 l0 x12_1).f0), .bool ((rd_T33 l0 x12_1).f1), .string ((rd_T33 l0 x12_1).f2), .string ((rd_T33 l0 x12_1).f3), .slice A144_4 ((rd_T33 l0 x12_1).f4).length c144_4] 33 (0, 0)) (by (with_reducible repeat (first | refine blk_drewN ?_ _ | refine blk_drew ?_ | refine blk_alloc ?_ _)); exact BK145.out) hb)
                have n1_ := Aside0.mk (below_step (by repeat (first | (with_reducible first | exact HB.out | apply below_alloc | apply pw_below_drewN | apply below_drew1 | refine below_set ?_ GE145.out) | exact HB.out)) hb)
                clear BK145
                clear HB
                have BK145 := n0_
                have HB := n1_
                clear n0_ n1_
                (try clear hb)
                (try clear hb2)
                (try clear hk)
                (try clear hi)
                refine hK.out _ _ ⟨(blk_cell BK145.out 0).trans rfl, (blk_cell BK145.out 1).trans rfl, (blk_cell BK145.out 2).trans rfl, (blk_cell BK145.out 3).trans rfl, (blk_cell BK145.out 4).trans rfl⟩ (fun hHeld => ?_)
                clear hK K
                refine norm_ (a' := ?_) ?_ ?_
                rotate_left
                · show Act.put _ (some 22) _ = _
                  simp only [Act.put, List.setIfInBounds_toArray, List.set_cons_zero, List.set_cons_succ, i64_w, i32_w]
                  rfl
                refine pure_ (i := 3) (N := some 23) (v := ?_) (a' := ?_) #[true, true, true, true, false, false, false, false, false, false, false, false, false, false, false, false, false, false, false, false, false, false, false, false, false, false, false, false] rfl rfl (any_of HT_.out (by kernel_rfl)) (fun _ _ _ h => h) (Or.inl ⟨by rfl, ?_⟩) ?_ ?_
                rotate_left
                · intro w'
                  go_simp
                  with_reducible rfl
                rotate_left
                · simp only [Act.put, List.setIfInBounds_toArray, List.set_cons_zero, List.set_cons_succ, i64_w, i32_w]
                  rfl
                refine pure_ (i := 4) (N := some 24) (v := ?_) (a' := ?_) #[true, true, true, true, true, false, false, false, false, false, false, false, false, false, false, false, false, false, false, false, false, false, false, false, false, false, false, false] rfl rfl (any_of HT_.out (by kernel_rfl)) (fun _ _ _ h => h) (Or.inl ⟨by rfl, ?_⟩) ?_ ?_
                rotate_left
                · intro w'
                  go_simp
                  with_reducible rfl
                rotate_left
                · simp only [Act.put, List.setIfInBounds_toArray, List.set_cons_zero, List.set_cons_succ, i64_w, i32_w]
                  rfl
                refine pure_ (i := 5) (N := some 25) (v := undef) (a' := ?_) #[true, true, true, true, true, true, false, false, false, false, false, false, false, false, false, false, false, false, false, false, false, false, false, false, false, false, false, false] rfl rfl (any_of HT_.out (by kernel_rfl)) (fun _ _ _ h => h) (Or.inr ⟨by rfl, rfl⟩) ?_ ?_
                rotate_left
                · simp only [Act.put, List.setIfInBounds_toArray, List.set_cons_zero, List.set_cons_succ, i64_w, i32_w]
                  rfl
                refine pure_ (i := 6) (N := some 26) (v := undef) (a' := ?_) #[true, true, true, true, true, true, true, false, false, false, false, false, false, false, false, false, false, false, false, false, false, false, false, false, false, false, false, false] rfl rfl (any_of HT_.out (by kernel_rfl)) (fun _ _ _ h => h) (Or.inr ⟨by rfl, rfl⟩) ?_ ?_
                rotate_left
                · simp only [Act.put, List.setIfInBounds_toArray, List.set_cons_zero, List.set_cons_succ, i64_w, i32_w]
                  rfl
                refine pure_ (i := 7) (N := some 27) (v := undef) (a' := ?_) #[true, true, true, true, true, true, true, true, false, false, false, false, false, false, false, false, false, false, false, false, false, false, false, false, false, false, false, false] rfl rfl (any_of HT_.out (by kernel_rfl)) (fun _ _ _ h => h) (Or.inr ⟨by rfl, rfl⟩) ?_ ?_
                rotate_left
                · simp only [Act.put, List.setIfInBounds_toArray, List.set_cons_zero, List.set_cons_succ, i64_w, i32_w]
                  rfl
                refine pure_ (i := 8) (N := some 28) (v := undef) (a' := ?_) #[true, true, true, true, true, true, true, true, true, false, false, false, false, false, false, false, false, false, false, false, false, false, false, false, false, false, false, false] rfl rfl (any_of HT_.out (by kernel_rfl)) (fun _ _ _ h => h) (Or.inr ⟨by rfl, rfl⟩) ?_ ?_
                rotate_left
                · simp only [Act.put, List.setIfInBounds_toArray, List.set_cons_zero, List.set_cons_succ, i64_w, i32_w]
                  rfl
                refine pure_ (i := 9) (N := some 29) (v := undef) (a' := ?_) #[true, true, true, true, true, true, true, true, true, true, false, false, false, false, false, false, false, false, false, false, false, false, false, false, false, false, false, false] rfl rfl (any_of HT_.out (by kernel_rfl)) (fun _ _ _ h => h) (Or.inr ⟨by rfl, rfl⟩) ?_ ?_
                rotate_left
                · simp only [Act.put, List.setIfInBounds_toArray, List.set_cons_zero, List.set_cons_succ, i64_w, i32_w]
                  rfl
                refine pure_ (i := 10) (N := some 30) (v := undef) (a' := ?_) #[true, true, true, true, true, true, true, true, true, true, true, false, false, false, false, false, false, false, false, false, false, false, false, false, false, false, false, false] rfl rfl (any_of HT_.out (by kernel_rfl)) (fun _ _ _ h => h) (Or.inr ⟨by rfl, rfl⟩) ?_ ?_
                rotate_left
                · simp only [Act.put, List.setIfInBounds_toArray, List.set_cons_zero, List.set_cons_succ, i64_w, i32_w]
                  rfl
                refine pure_ (i := 11) (N := some 31) (v := undef) (a' := ?_) #[true, true, true, true, true, true, true, true, true, true, true, true, false, false, false, false, false, false, false, false, false, false, false, false, false, false, false, false] rfl rfl (any_of HT_.out (by kernel_rfl)) (fun _ _ _ h => h) (Or.inr ⟨by rfl, rfl⟩) ?_ ?_
                rotate_left
                · simp only [Act.put, List.setIfInBounds_toArray, List.set_cons_zero, List.set_cons_succ, i64_w, i32_w]
                  rfl
                refine pure_ (i := 12) (N := some 32) (v := undef) (a' := ?_) #[true, true, true, true, true, true, true, true, true, true, true, true, true, false, false, false, false, false, false, false, false, false, false, false, false, false, false, false] rfl rfl (any_of HT_.out (by kernel_rfl)) (fun _ _ _ h => h) (Or.inr ⟨by rfl, rfl⟩) ?_ ?_
                rotate_left
                · simp only [Act.put, List.setIfInBounds_toArray, List.set_cons_zero, List.set_cons_succ, i64_w, i32_w]
                  rfl
                refine pure_ (i := 13) (N := some 33) (v := undef) (a' := ?_) #[true, true, true, true, true, true, true, true, true, true, true, true, true, true, false, false, false, false, false, false, false, false, false, false, false, false, false, false] rfl rfl (any_of HT_.out (by kernel_rfl)) (fun _ _ _ h => h) (Or.inr ⟨by rfl, rfl⟩) ?_ ?_
                rotate_left
                · simp only [Act.put, List.setIfInBounds_toArray, List.set_cons_zero, List.set_cons_succ, i64_w, i32_w]
                  rfl
                refine pure_ (i := 14) (N := some 34) (v := undef) (a' := ?_) #[true, true, true, true, true, true, true, true, true, true, true, true, true, true, true, false, false, false, false, false, false, false, false, false, false, false, false, false] rfl rfl (any_of HT_.out (by kernel_rfl)) (fun _ _ _ h => h) (Or.inr ⟨by rfl, rfl⟩) ?_ ?_
                rotate_left
                · simp only [Act.put, List.setIfInBounds_toArray, List.set_cons_zero, List.set_cons_succ, i64_w, i32_w]
                  rfl
                refine pure_ (i := 15) (N := some 35) (v := undef) (a' := ?_) #[true, true, true, true, true, true, true, true, true, true, true, true, true, true, true, true, false, false, false, false, false, false, false, false, false, false, false, false] rfl rfl (any_of HT_.out (by kernel_rfl)) (fun _ _ _ h => h) (Or.inr ⟨by rfl, rfl⟩) ?_ ?_
                rotate_left
                · simp only [Act.put, List.setIfInBounds_toArray, List.set_cons_zero, List.set_cons_succ, i64_w, i32_w]
                  rfl
                refine pure_ (i := 16) (N := some 36) (v := undef) (a' := ?_) #[true, true, true, true, true, true, true, true, true, true, true, true, true, true, true, true, true, false, false, false, false, false, false, false, false, false, false, false] rfl rfl (any_of HT_.out (by kernel_rfl)) (fun _ _ _ h => h) (Or.inr ⟨by rfl, rfl⟩) ?_ ?_
                rotate_left
                · simp only [Act.put, List.setIfInBounds_toArray, List.set_cons_zero, List.set_cons_succ, i64_w, i32_w]
                  rfl
                refine pure_ (i := 17) (N := some 37) (v := undef) (a' := ?_) #[true, true, true, true, true, true, true, true, true, true, true, true, true, true, true, true, true, true, false, false, false, false, false, false, false, false, false, false] rfl rfl (any_of HT_.out (by kernel_rfl)) (fun _ _ _ h => h) (Or.inr ⟨by rfl, rfl⟩) ?_ ?_
                rotate_left
                · simp only [Act.put, List.setIfInBounds_toArray, List.set_cons_zero, List.set_cons_succ, i64_w, i32_w]
                  rfl
                refine pure_ (i := 18) (N := some 38) (v := undef) (a' := ?_) #[true, true, true, true, true, true, true, true, true, true, true, true, true, true, true, true, true, true, true, false, false, false, false, false, false, false, false, false] rfl rfl (any_of HT_.out (by kernel_rfl)) (fun _ _ _ h => h) (Or.inr ⟨by rfl, rfl⟩) ?_ ?_
                rotate_left
                · simp only [Act.put, List.setIfInBounds_toArray, List.set_cons_zero, List.set_cons_succ, i64_w, i32_w]
                  rfl
                refine pure_ (i := 19) (N := some 39) (v := undef) (a' := ?_) #[true, true, true, true, true, true, true, true, true, true, true, true, true, true, true, true, true, true, true, true, false, false, false, false, false, false, false, false] rfl rfl (any_of HT_.out (by kernel_rfl)) (fun _ _ _ h => h) (Or.inr ⟨by rfl, rfl⟩) ?_ ?_
                rotate_left
                · simp only [Act.put, List.setIfInBounds_toArray, List.set_cons_zero, List.set_cons_succ, i64_w, i32_w]
                  rfl
                refine pure_ (i := 20) (N := some 40) (v := undef) (a' := ?_) #[true, true, true, true, true, true, true, true, true, true, true, true, true, true, true, true, true, true, true, true, true, false, false, false, false, false, false, false] rfl rfl (any_of HT_.out (by kernel_rfl)) (fun _ _ _ h => h) (Or.inr ⟨by rfl, rfl⟩) ?_ ?_
                rotate_left
                · simp only [Act.put, List.setIfInBounds_toArray, List.set_cons_zero, List.set_cons_succ, i64_w, i32_w]
                  rfl
                refine pure_ (i := 21) (N := some 41) (v := undef) (a' := ?_) #[true, true, true, true, true, true, true, true, true, true, true, true, true, true, true, true, true, true, true, true, true, true, false, false, false, false, false, false] rfl rfl (any_of HT_.out (by kernel_rfl)) (fun _ _ _ h => h) (Or.inr ⟨by rfl, rfl⟩) ?_ ?_
                rotate_left
                · simp only [Act.put, List.setIfInBounds_toArray, List.set_cons_zero, List.set_cons_succ, i64_w, i32_w]
                  rfl
                refine pure_ (i := 22) (N := some 42) (v := undef) (a' := ?_) #[true, true, true, true, true, true, true, true, true, true, true, true, true, true, true, true, true, true, true, true, true, true, true, false, false, false, false, false] rfl rfl (any_of HT_.out (by kernel_rfl)) (fun _ _ _ h => h) (Or.inr ⟨by rfl, rfl⟩) ?_ ?_
                rotate_left
                · simp only [Act.put, List.setIfInBounds_toArray, List.set_cons_zero, List.set_cons_succ, i64_w, i32_w]
                  rfl
                refine pure_ (i := 23) (N := some 43) (v := undef) (a' := ?_) #[true, true, true, true, true, true, true, true, true, true, true, true, true, true, true, true, true, true, true, true, true, true, true, true, false, false, false, false] rfl rfl (any_of HT_.out (by kernel_rfl)) (fun _ _ _ h => h) (Or.inr ⟨by rfl, rfl⟩) ?_ ?_
                rotate_left
                · simp only [Act.put, List.setIfInBounds_toArray, List.set_cons_zero, List.set_cons_succ, i64_w, i32_w]
                  rfl
                refine pure_ (i := 24) (N := some 44) (v := undef) (a' := ?_) #[true, true, true, true, true, true, true, true, true, true, true, true, true, true, true, true, true, true, true, true, true, true, true, true, true, false, false, false] rfl rfl (any_of HT_.out (by kernel_rfl)) (fun _ _ _ h => h) (Or.inr ⟨by rfl, rfl⟩) ?_ ?_
                rotate_left
                · simp only [Act.put, List.setIfInBounds_toArray, List.set_cons_zero, List.set_cons_succ, i64_w, i32_w]
                  rfl
                refine pure_ (i := 25) (N := some 45) (v := undef) (a' := ?_) #[true, true, true, true, true, true, true, true, true, true, true, true, true, true, true, true, true, true, true, true, true, true, true, true, true, true, false, false] rfl rfl (any_of HT_.out (by kernel_rfl)) (fun _ _ _ h => h) (Or.inr ⟨by rfl, rfl⟩) ?_ ?_
                rotate_left
                · simp only [Act.put, List.setIfInBounds_toArray, List.set_cons_zero, List.set_cons_succ, i64_w, i32_w]
                  rfl
                refine pure_ (i := 26) (N := some 46) (v := undef) (a' := ?_) #[true, true, true, true, true, true, true, true, true, true, true, true, true, true, true, true, true, true, true, true, true, true, true, true, true, true, true, false] rfl rfl (any_of HT_.out (by kernel_rfl)) (fun _ _ _ h => h) (Or.inr ⟨by rfl, rfl⟩) ?_ ?_
                rotate_left
                · simp only [Act.put, List.setIfInBounds_toArray, List.set_cons_zero, List.set_cons_succ, i64_w, i32_w]
                  rfl
                refine pure_ (i := 27) (N := some 47) (v := ?_) (a' := ?_) #[true, true, true, true, true, true, true, true, true, true, true, true, true, true, true, true, true, true, true, true, true, true, true, true, true, true, true, true] rfl rfl (any_of HT_.out (by kernel_rfl)) (fun _ _ _ h => h) (Or.inl ⟨by rfl, ?_⟩) ?_ ?_
                rotate_left
                · intro w'
                  go_simp
                  with_reducible rfl
                rotate_left
                · simp only [Act.put, List.setIfInBounds_toArray, List.set_cons_zero, List.set_cons_succ, i64_w, i32_w]
                  rfl
                refine done_ (done_of HT_.out (by kernel_rfl)) ?_
                try go_wp2
                go_ret
                exact ⟨by first | rfl | (simp [errW_none, errW_some] <;> rfl) | (simp [*, errW_none, errW_some] <;> rfl), by repeat (first | (with_reducible first | exact HB.out | apply below_alloc | apply pw_below_drewN | apply below_drew1 | refine below_set ?_ GE145.out) | exact HB.out)⟩
            · rw [if_neg c7] at H
              have c7b0 : (((rd_T33 l0 x12_1).f0) == 1) = false := beq_eq_false_iff_ne.mpr c7
              have c7b1 : (((rd_T33 l0 x12_1).f0) != 1) = true := bne_iff_ne.mpr c7
              have HC41 := Aside0.mk H
              clear H
              have p144 : 0 ≤ (x12_1 : Int) := of_decide_eq_true (by first | (with_reducible assumption) | assumption)
              have q144 : x12_1 < (l0.length : Int) := of_decide_eq_true (by first | (with_reducible assumption) | assumption)
              obtain ⟨ad144, A144_4, c144_4, e144, hx144_0, hx144_1, hx144_2, hx144_3, hx144_4, hl144_4, hi144_4⟩ := at_T33 HR0.out x12_1 p144 q144
              cases e144
              replace hx144_0 := (HB.out.cell (World.block_lt_of_cell? w _ hx144_0)).trans hx144_0
              replace hx144_1 := (HB.out.cell (World.block_lt_of_cell? w _ hx144_1)).trans hx144_1
              replace hx144_2 := (HB.out.cell (World.block_lt_of_cell? w _ hx144_2)).trans hx144_2
              replace hx144_3 := (HB.out.cell (World.block_lt_of_cell? w _ hx144_3)).trans hx144_3
              replace hx144_4 := (HB.out.cell (World.block_lt_of_cell? w _ hx144_4)).trans hx144_4
              have HR144_4 := Aside0.mk hi144_4
              have HC144_4 := Aside0.mk hl144_4
              clear hi144_4 hl144_4
              replace p144 := eq_true p144
              replace q144 := eq_true q144
              go_upto_region 7 with (first | ((with_reducible refine gate_dst (N := 8) rfl ?_); (try (refine gate_guard (by rfl) ?_; dsimp only)); refine box_event ?hg (N := 8) ?hd (cs := #[.int .i64 0, .bool false, .string (⟨#[]⟩ : ByteArray), .string (⟨#[]⟩ : ByteArray), .slice none 0 0]) (t := 33) ?hr ?_; (case hd => rfl); (case hg => rfl); (case hr => first | (go_simp; done) | (go_simp; rfl)); intro gb145 hg w42 hbox hb; have n0_ := Aside0.mk (below_step (by repeat (first | (with_reducible first | exact HB.out | apply below_alloc | apply pw_below_drewN | apply below_drew1) | exact HB.out)) hb); have n1_ := Aside0.mk (hbox); have n2_ := Aside0.mk ((by rw [hg]; exact (below_size (by repeat (first | (with_reducible first | exact HB.out | apply below_alloc | apply pw_below_drewN | apply below_drew1) | exact HB.out))) : w.heap.size ≤ gb145)); have n3_ := Aside0.mk ((by rw [hg]; exact (below_size (by repeat (first | (with_reducible first | exact HB.out | apply below_alloc | apply pw_below_drewN | apply below_drew1) | exact HB.out))) : w.heap.size ≤ gb145)); clear HB; have HB := n0_; have BK145 := n1_; have GW145 := n2_; have GE145 := n3_; clear n0_ n1_ n2_ n3_; clear hb hbox hg; have hcz43_0 : w42.cell? ⟨gb145, 0, none⟩ = some (.int .i64 0) := (blk_cell BK145.out 0).trans rfl; have hcz43_1 : w42.cell? ⟨gb145, 1, none⟩ = some (.bool false) := (blk_cell BK145.out 1).trans rfl; have hcz43_2 : w42.cell? ⟨gb145, 2, none⟩ = some (.string (⟨#[]⟩ : ByteArray)) := (blk_cell BK145.out 2).trans rfl; have hcz43_3 : w42.cell? ⟨gb145, 3, none⟩ = some (.string (⟨#[]⟩ : ByteArray)) := (blk_cell BK145.out 3).trans rfl; have hcz43_4 : w42.cell? ⟨gb145, 4, none⟩ = some (.slice none 0 0) := (blk_cell BK145.out 4).trans rfl; have hfz43_0 := blk_frozen BK145.out 0; have hfz43_1 := blk_frozen BK145.out 1; have hfz43_2 := blk_frozen BK145.out 2; have hfz43_3 := blk_frozen BK145.out 3; have hfz43_4 := blk_frozen BK145.out 4))
              (try simp only [Act.put, List.setIfInBounds_toArray, List.set_cons_zero, List.set_cons_succ])
              go_cut [69] (fun v69 wc => ∃ (kq : Nat) (x69_40 : Bool), v69 = .bool x69_40 ∧ Aside0 (deadfallref03_Parts.j1 kq l0 a1 a2 l0 (l0.length : Int) x12_1 x69_40 ((rd_T33 l0 x12_1).f0) ((rd_T33 l0 x12_1).f1) ((rd_T33 l0 x12_1).f2) ((rd_T33 l0 x12_1).f3) ((rd_T33 l0 x12_1).f4) = some r) ∧ Aside0 (kq ≤ k1) ∧ Aside0 (wc.heap[gb145]? = some (.cells #[.int .i64 ((rd_T33 l0 x12_1).f0), .bool ((rd_T33 l0 x12_1).f1), .string ((rd_T33 l0 x12_1).f2), .string ((rd_T33 l0 x12_1).f3), (.slice A144_4 ((rd_T33 l0 x12_1).f4).length c144_4)] 33 (0, 0))) ∧ Aside0 (Below w.heap.size w wc))
              case first =>
                have H := HC41.out
                clear HC41
                by_cases c44 : ((rd_T33 l0 x12_1).f0) = 2
                · rw [if_pos c44] at H
                  have c44b0 : (((rd_T33 l0 x12_1).f0) == 2) = true := beq_iff_eq.mpr c44
                  have c44b1 : (((rd_T33 l0 x12_1).f0) != 2) = false := bne_eq_false_iff_eq.mpr c44
                  clear c44
                  (first | rw [c44b0] | (simp only [i64_w, i32_w]; rw [c44b0]) | skip)
                  by_cases c45 : a2 > 200
                  · rw [if_pos c45] at H
                    have c45b0 : decide (200 < a2) = true := decide_eq_true c45
                    clear c45
                    have H' := Aside0.mk H
                    clear H
                    have hcz46_0 : w42.cell? ⟨gb145, 0, none⟩ = some (.int .i64 0) := (blk_cell BK145.out 0).trans rfl
                    have hcz46_1 : w42.cell? ⟨gb145, 1, none⟩ = some (.bool false) := (blk_cell BK145.out 1).trans rfl
                    have hcz46_2 : w42.cell? ⟨gb145, 2, none⟩ = some (.string (⟨#[]⟩ : ByteArray)) := (blk_cell BK145.out 2).trans rfl
                    have hcz46_3 : w42.cell? ⟨gb145, 3, none⟩ = some (.string (⟨#[]⟩ : ByteArray)) := (blk_cell BK145.out 3).trans rfl
                    have hcz46_4 : w42.cell? ⟨gb145, 4, none⟩ = some (.slice none 0 0) := (blk_cell BK145.out 4).trans rfl
                    have hfz46_0 := blk_frozen BK145.out 0
                    have hfz46_1 := blk_frozen BK145.out 1
                    have hfz46_2 := blk_frozen BK145.out 2
                    have hfz46_3 := blk_frozen BK145.out 3
                    have hfz46_4 := blk_frozen BK145.out 4
                    go_wp2
                    go_meet
                    case rel => exact ⟨_, (true), (by first | rfl | (simp; done) | (simp [*]; done)), H', ⟨by have := HK1.out; first | omega | exact Nat.le_refl _⟩, ⟨by (with_reducible repeat (first | refine blk_drewN ?_ _ | refine blk_drew ?_ | refine blk_alloc ?_ _)); refine blk_put (cs := #[.int .i64 ((rd_T33 l0 x12_1).f0), .bool ((rd_T33 l0 x12_1).f1), .string ((rd_T33 l0 x12_1).f2), .string ((rd_T33 l0 x12_1).f3), .slice none 0 0]) ?_ 4 _ rfl; (with_reducible repeat (first | refine blk_drewN ?_ _ | refine blk_drew ?_ | refine blk_alloc ?_ _)); refine blk_put (cs := #[.int .i64 ((rd_T33 l0 x12_1).f0), .bool ((rd_T33 l0 x12_1).f1), .string ((rd_T33 l0 x12_1).f2), .string (⟨#[]⟩ : ByteArray), .slice none 0 0]) ?_ 3 _ rfl; (with_reducible repeat (first | refine blk_drewN ?_ _ | refine blk_drew ?_ | refine blk_alloc ?_ _)); refine blk_put (cs := #[.int .i64 ((rd_T33 l0 x12_1).f0), .bool ((rd_T33 l0 x12_1).f1), .string (⟨#[]⟩ : ByteArray), .string (⟨#[]⟩ : ByteArray), .slice none 0 0]) ?_ 2 _ rfl; (with_reducible repeat (first | refine blk_drewN ?_ _ | refine blk_drew ?_ | refine blk_alloc ?_ _)); refine blk_put (cs := #[.int .i64 ((rd_T33 l0 x12_1).f0), .bool false, .string (⟨#[]⟩ : ByteArray), .string (⟨#[]⟩ : ByteArray), .slice none 0 0]) ?_ 1 _ rfl; (with_reducible repeat (first | refine blk_drewN ?_ _ | refine blk_drew ?_ | refine blk_alloc ?_ _)); refine blk_put (cs := #[.int .i64 0, .bool false, .string (⟨#[]⟩ : ByteArray), .string (⟨#[]⟩ : ByteArray), .slice none 0 0]) ?_ 0 _ rfl; (with_reducible repeat (first | refine blk_drewN ?_ _ | refine blk_drew ?_ | refine blk_alloc ?_ _)); exact BK145.out⟩, ⟨by repeat (first | (with_reducible first | exact HB.out | apply below_alloc | apply pw_below_drewN | apply below_drew1 | refine below_set ?_ GE145.out) | exact HB.out)⟩⟩
                  · rw [if_neg c45] at H
                    have c45b0 : decide (200 < a2) = false := decide_eq_false c45
                    clear c45
                    replace H := Option.bind_eq_some_iff.mp H
                    obtain ⟨t149, A470, H⟩ := H
                    replace H : (if t149 = true then (if a1 = 2 then (deadfallref03_Parts.j1 k1 l0 a1 a2 l0 (l0.length : Int) x12_1 (!((rd_T33 l0 x12_1).f1)) ((rd_T33 l0 x12_1).f0) ((rd_T33 l0 x12_1).f1) ((rd_T33 l0 x12_1).f2) ((rd_T33 l0 x12_1).f3) ((rd_T33 l0 x12_1).f4)) else (deadfallref03_Parts.j1 k1 l0 a1 a2 l0 (l0.length : Int) x12_1 false ((rd_T33 l0 x12_1).f0) ((rd_T33 l0 x12_1).f1) ((rd_T33 l0 x12_1).f2) ((rd_T33 l0 x12_1).f3) ((rd_T33 l0 x12_1).f4))) else (deadfallref03_Parts.j1 k1 l0 a1 a2 l0 (l0.length : Int) x12_1 true ((rd_T33 l0 x12_1).f0) ((rd_T33 l0 x12_1).f1) ((rd_T33 l0 x12_1).f2) ((rd_T33 l0 x12_1).f3) ((rd_T33 l0 x12_1).f4))) = some r := H
                    have A47 := Aside0.mk A470
                    clear A470
                    by_cases c48 : t149 = true
                    · subst c48
                      have H1 : (if a1 = 2 then (deadfallref03_Parts.j1 k1 l0 a1 a2 l0 (l0.length : Int) x12_1 (!((rd_T33 l0 x12_1).f1)) ((rd_T33 l0 x12_1).f0) ((rd_T33 l0 x12_1).f1) ((rd_T33 l0 x12_1).f2) ((rd_T33 l0 x12_1).f3) ((rd_T33 l0 x12_1).f4)) else (deadfallref03_Parts.j1 k1 l0 a1 a2 l0 (l0.length : Int) x12_1 false ((rd_T33 l0 x12_1).f0) ((rd_T33 l0 x12_1).f1) ((rd_T33 l0 x12_1).f2) ((rd_T33 l0 x12_1).f3) ((rd_T33 l0 x12_1).f4))) = some r := by rw [if_pos rfl] at H; exact H
                      clear H
                      have H := H1
                      clear H1
                      by_cases c49 : a1 = 2
                      · rw [if_pos c49] at H
                        have c49b0 : (a1 == 2) = true := beq_iff_eq.mpr c49
                        have c49b1 : (a1 != 2) = false := bne_eq_false_iff_eq.mpr c49
                        clear c49
                        have H' := Aside0.mk H
                        clear H
                        have hcz50_0 : w42.cell? ⟨gb145, 0, none⟩ = some (.int .i64 0) := (blk_cell BK145.out 0).trans rfl
                        have hcz50_1 : w42.cell? ⟨gb145, 1, none⟩ = some (.bool false) := (blk_cell BK145.out 1).trans rfl
                        have hcz50_2 : w42.cell? ⟨gb145, 2, none⟩ = some (.string (⟨#[]⟩ : ByteArray)) := (blk_cell BK145.out 2).trans rfl
                        have hcz50_3 : w42.cell? ⟨gb145, 3, none⟩ = some (.string (⟨#[]⟩ : ByteArray)) := (blk_cell BK145.out 3).trans rfl
                        have hcz50_4 : w42.cell? ⟨gb145, 4, none⟩ = some (.slice none 0 0) := (blk_cell BK145.out 4).trans rfl
                        have hfz50_0 := blk_frozen BK145.out 0
                        have hfz50_1 := blk_frozen BK145.out 1
                        have hfz50_2 := blk_frozen BK145.out 2
                        have hfz50_3 := blk_frozen BK145.out 3
                        have hfz50_4 := blk_frozen BK145.out 4
                        go_wp2_with (first | (go_at_call 38; (with_reducible refine (deadfallref02_Param.calls ((rd_T33 l0 x12_1).f2) true _ A47.out).mono ?_); rintro e w51 ⟨rfl, hb⟩; have n0_ := Aside0.mk (blk_below (g := gb145) (o := .cells #[.int .i64 ((rd_T33 l0 x12_1).f0), .bool ((rd_T33 l0 x12_1).f1), .string ((rd_T33 l0 x12_1).f2), .string ((rd_T33 l0 x12_1).f3), .slice A144_4 ((rd_T33 l0 x12_1).f4).length c144_4] 33 (0, 0)) (by (with_reducible repeat (first | refine blk_drewN ?_ _ | refine blk_drew ?_ | refine blk_alloc ?_ _)); refine blk_put (cs := #[.int .i64 ((rd_T33 l0 x12_1).f0), .bool ((rd_T33 l0 x12_1).f1), .string ((rd_T33 l0 x12_1).f2), .string ((rd_T33 l0 x12_1).f3), .slice none 0 0]) ?_ 4 _ rfl; (with_reducible repeat (first | refine blk_drewN ?_ _ | refine blk_drew ?_ | refine blk_alloc ?_ _)); refine blk_put (cs := #[.int .i64 ((rd_T33 l0 x12_1).f0), .bool ((rd_T33 l0 x12_1).f1), .string ((rd_T33 l0 x12_1).f2), .string (⟨#[]⟩ : ByteArray), .slice none 0 0]) ?_ 3 _ rfl; (with_reducible repeat (first | refine blk_drewN ?_ _ | refine blk_drew ?_ | refine blk_alloc ?_ _)); refine blk_put (cs := #[.int .i64 ((rd_T33 l0 x12_1).f0), .bool ((rd_T33 l0 x12_1).f1), .string (⟨#[]⟩ : ByteArray), .string (⟨#[]⟩ : ByteArray), .slice none 0 0]) ?_ 2 _ rfl; (with_reducible repeat (first | refine blk_drewN ?_ _ | refine blk_drew ?_ | refine blk_alloc ?_ _)); refine blk_put (cs := #[.int .i64 ((rd_T33 l0 x12_1).f0), .bool false, .string (⟨#[]⟩ : ByteArray), .string (⟨#[]⟩ : ByteArray), .slice none 0 0]) ?_ 1 _ rfl; (with_reducible repeat (first | refine blk_drewN ?_ _ | refine blk_drew ?_ | refine blk_alloc ?_ _)); refine blk_put (cs := #[.int .i64 0, .bool false, .string (⟨#[]⟩ : ByteArray), .string (⟨#[]⟩ : ByteArray), .slice none 0 0]) ?_ 0 _ rfl; (with_reducible repeat (first | refine blk_drewN ?_ _ | refine blk_drew ?_ | refine blk_alloc ?_ _)); exact BK145.out) hb); have n1_ := Aside0.mk (below_step (by repeat (first | (with_reducible first | exact HB.out | apply below_alloc | apply pw_below_drewN | apply below_drew1 | refine below_set ?_ GE145.out) | exact HB.out)) hb); clear BK145; clear HB; have BK145 := n0_; have HB := n1_; clear n0_ n1_; (try clear hb); (try clear hb2); (try clear hk); (try clear hi); have hcz52_0 : w51.cell? ⟨gb145, 0, none⟩ = some (.int .i64 ((rd_T33 l0 x12_1).f0)) := (blk_cell BK145.out 0).trans rfl; have hcz52_1 : w51.cell? ⟨gb145, 1, none⟩ = some (.bool ((rd_T33 l0 x12_1).f1)) := (blk_cell BK145.out 1).trans rfl; have hcz52_2 : w51.cell? ⟨gb145, 2, none⟩ = some (.string ((rd_T33 l0 x12_1).f2)) := (blk_cell BK145.out 2).trans rfl; have hcz52_3 : w51.cell? ⟨gb145, 3, none⟩ = some (.string ((rd_T33 l0 x12_1).f3)) := (blk_cell BK145.out 3).trans rfl; have hcz52_4 : w51.cell? ⟨gb145, 4, none⟩ = some (.slice A144_4 ((rd_T33 l0 x12_1).f4).length c144_4) := (blk_cell BK145.out 4).trans rfl; have hfz52_0 := blk_frozen BK145.out 0; have hfz52_1 := blk_frozen BK145.out 1; have hfz52_2 := blk_frozen BK145.out 2; have hfz52_3 := blk_frozen BK145.out 3; have hfz52_4 := blk_frozen BK145.out 4))
                        go_meet
                        case rel => exact ⟨_, (!((rd_T33 l0 x12_1).f1)), (by first | rfl | (simp; done) | (simp [*]; done)), H', ⟨by have := HK1.out; first | omega | exact Nat.le_refl _⟩, ⟨by (with_reducible repeat (first | refine blk_drewN ?_ _ | refine blk_drew ?_ | refine blk_alloc ?_ _)); exact BK145.out⟩, ⟨by repeat (first | (with_reducible first | exact HB.out | apply below_alloc | apply pw_below_drewN | apply below_drew1 | refine below_set ?_ GE145.out) | exact HB.out)⟩⟩
                      · rw [if_neg c49] at H
                        have c49b0 : (a1 == 2) = false := beq_eq_false_iff_ne.mpr c49
                        have c49b1 : (a1 != 2) = true := bne_iff_ne.mpr c49
                        have H' := Aside0.mk H
                        clear H
                        have hcz53_0 : w42.cell? ⟨gb145, 0, none⟩ = some (.int .i64 0) := (blk_cell BK145.out 0).trans rfl
                        have hcz53_1 : w42.cell? ⟨gb145, 1, none⟩ = some (.bool false) := (blk_cell BK145.out 1).trans rfl
                        have hcz53_2 : w42.cell? ⟨gb145, 2, none⟩ = some (.string (⟨#[]⟩ : ByteArray)) := (blk_cell BK145.out 2).trans rfl
                        have hcz53_3 : w42.cell? ⟨gb145, 3, none⟩ = some (.string (⟨#[]⟩ : ByteArray)) := (blk_cell BK145.out 3).trans rfl
                        have hcz53_4 : w42.cell? ⟨gb145, 4, none⟩ = some (.slice none 0 0) := (blk_cell BK145.out 4).trans rfl
                        have hfz53_0 := blk_frozen BK145.out 0
                        have hfz53_1 := blk_frozen BK145.out 1
                        have hfz53_2 := blk_frozen BK145.out 2
                        have hfz53_3 := blk_frozen BK145.out 3
                        have hfz53_4 := blk_frozen BK145.out 4
                        go_wp2_with (first | (go_at_call 38; (with_reducible refine (deadfallref02_Param.calls ((rd_T33 l0 x12_1).f2) true _ A47.out).mono ?_); rintro e w54 ⟨rfl, hb⟩; have n0_ := Aside0.mk (blk_below (g := gb145) (o := .cells #[.int .i64 ((rd_T33 l0 x12_1).f0), .bool ((rd_T33 l0 x12_1).f1), .string ((rd_T33 l0 x12_1).f2), .string ((rd_T33 l0 x12_1).f3), .slice A144_4 ((rd_T33 l0 x12_1).f4).length c144_4] 33 (0, 0)) (by (with_reducible repeat (first | refine blk_drewN ?_ _ | refine blk_drew ?_ | refine blk_alloc ?_ _)); refine blk_put (cs := #[.int .i64 ((rd_T33 l0 x12_1).f0), .bool ((rd_T33 l0 x12_1).f1), .string ((rd_T33 l0 x12_1).f2), .string ((rd_T33 l0 x12_1).f3), .slice none 0 0]) ?_ 4 _ rfl; (with_reducible repeat (first | refine blk_drewN ?_ _ | refine blk_drew ?_ | refine blk_alloc ?_ _)); refine blk_put (cs := #[.int .i64 ((rd_T33 l0 x12_1).f0), .bool ((rd_T33 l0 x12_1).f1), .string ((rd_T33 l0 x12_1).f2), .string (⟨#[]⟩ : ByteArray), .slice none 0 0]) ?_ 3 _ rfl; (with_reducible repeat (first | refine blk_drewN ?_ _ | refine blk_drew ?_ | refine blk_alloc ?_ _)); refine blk_put (cs := #[.int .i64 ((rd_T33 l0 x12_1).f0), .bool ((rd_T33 l0 x12_1).f1), .string (⟨#[]⟩ : ByteArray), .string (⟨#[]⟩ : ByteArray), .slice none 0 0]) ?_ 2 _ rfl; (with_reducible repeat (first | refine blk_drewN ?_ _ | refine blk_drew ?_ | refine blk_alloc ?_ _)); refine blk_put (cs := #[.int .i64 ((rd_T33 l0 x12_1).f0), .bool false, .string (⟨#[]⟩ : ByteArray), .string (⟨#[]⟩ : ByteArray), .slice none 0 0]) ?_ 1 _ rfl; (with_reducible repeat (first | refine blk_drewN ?_ _ | refine blk_drew ?_ | refine blk_alloc ?_ _)); refine blk_put (cs := #[.int .i64 0, .bool false, .string (⟨#[]⟩ : ByteArray), .string (⟨#[]⟩ : ByteArray), .slice none 0 0]) ?_ 0 _ rfl; (with_reducible repeat (first | refine blk_drewN ?_ _ | refine blk_drew ?_ | refine blk_alloc ?_ _)); exact BK145.out) hb); have n1_ := Aside0.mk (below_step (by repeat (first | (with_reducible first | exact HB.out | apply below_alloc | apply pw_below_drewN | apply below_drew1 | refine below_set ?_ GE145.out) | exact HB.out)) hb); clear BK145; clear HB; have BK145 := n0_; have HB := n1_; clear n0_ n1_; (try clear hb); (try clear hb2); (try clear hk); (try clear hi)))
                        go_meet
                        case rel => exact ⟨_, (false), (by first | rfl | (simp; done) | (simp [*]; done)), H', ⟨by have := HK1.out; first | omega | exact Nat.le_refl _⟩, ⟨by (with_reducible repeat (first | refine blk_drewN ?_ _ | refine blk_drew ?_ | refine blk_alloc ?_ _)); exact BK145.out⟩, ⟨by repeat (first | (with_reducible first | exact HB.out | apply below_alloc | apply pw_below_drewN | apply below_drew1 | refine below_set ?_ GE145.out) | exact HB.out)⟩⟩
                    · replace c48 := Bool.eq_false_iff.mpr c48
                      subst c48
                      have H1 : (deadfallref03_Parts.j1 k1 l0 a1 a2 l0 (l0.length : Int) x12_1 true ((rd_T33 l0 x12_1).f0) ((rd_T33 l0 x12_1).f1) ((rd_T33 l0 x12_1).f2) ((rd_T33 l0 x12_1).f3) ((rd_T33 l0 x12_1).f4)) = some r := by rw [if_neg (show ¬ (false = true) by decide)] at H; exact H
                      clear H
                      have H := H1
                      clear H1
                      have H' := Aside0.mk H
                      clear H
                      have hcz55_0 : w42.cell? ⟨gb145, 0, none⟩ = some (.int .i64 0) := (blk_cell BK145.out 0).trans rfl
                      have hcz55_1 : w42.cell? ⟨gb145, 1, none⟩ = some (.bool false) := (blk_cell BK145.out 1).trans rfl
                      have hcz55_2 : w42.cell? ⟨gb145, 2, none⟩ = some (.string (⟨#[]⟩ : ByteArray)) := (blk_cell BK145.out 2).trans rfl
                      have hcz55_3 : w42.cell? ⟨gb145, 3, none⟩ = some (.string (⟨#[]⟩ : ByteArray)) := (blk_cell BK145.out 3).trans rfl
                      have hcz55_4 : w42.cell? ⟨gb145, 4, none⟩ = some (.slice none 0 0) := (blk_cell BK145.out 4).trans rfl
                      have hfz55_0 := blk_frozen BK145.out 0
                      have hfz55_1 := blk_frozen BK145.out 1
                      have hfz55_2 := blk_frozen BK145.out 2
                      have hfz55_3 := blk_frozen BK145.out 3
                      have hfz55_4 := blk_frozen BK145.out 4
                      go_wp2_with (first | (go_at_call 38; (with_reducible refine (deadfallref02_Param.calls ((rd_T33 l0 x12_1).f2) false _ A47.out).mono ?_); rintro e w56 ⟨rfl, hb⟩; have n0_ := Aside0.mk (blk_below (g := gb145) (o := .cells #[.int .i64 ((rd_T33 l0 x12_1).f0), .bool ((rd_T33 l0 x12_1).f1), .string ((rd_T33 l0 x12_1).f2), .string ((rd_T33 l0 x12_1).f3), .slice A144_4 ((rd_T33 l0 x12_1).f4).length c144_4] 33 (0, 0)) (by (with_reducible repeat (first | refine blk_drewN ?_ _ | refine blk_drew ?_ | refine blk_alloc ?_ _)); refine blk_put (cs := #[.int .i64 ((rd_T33 l0 x12_1).f0), .bool ((rd_T33 l0 x12_1).f1), .string ((rd_T33 l0 x12_1).f2), .string ((rd_T33 l0 x12_1).f3), .slice none 0 0]) ?_ 4 _ rfl; (with_reducible repeat (first | refine blk_drewN ?_ _ | refine blk_drew ?_ | refine blk_alloc ?_ _)); refine blk_put (cs := #[.int .i64 ((rd_T33 l0 x12_1).f0), .bool ((rd_T33 l0 x12_1).f1), .string ((rd_T33 l0 x12_1).f2), .string (⟨#[]⟩ : ByteArray), .slice none 0 0]) ?_ 3 _ rfl; (with_reducible repeat (first | refine blk_drewN ?_ _ | refine blk_drew ?_ | refine blk_alloc ?_ _)); refine blk_put (cs := #[.int .i64 ((rd_T33 l0 x12_1).f0), .bool ((rd_T33 l0 x12_1).f1), .string (⟨#[]⟩ : ByteArray), .string (⟨#[]⟩ : ByteArray), .slice none 0 0]) ?_ 2 _ rfl; (with_reducible repeat (first | refine blk_drewN ?_ _ | refine blk_drew ?_ | refine blk_alloc ?_ _)); refine blk_put (cs := #[.int .i64 ((rd_T33 l0 x12_1).f0), .bool false, .string (⟨#[]⟩ : ByteArray), .string (⟨#[]⟩ : ByteArray), .slice none 0 0]) ?_ 1 _ rfl; (with_reducible repeat (first | refine blk_drewN ?_ _ | refine blk_drew ?_ | refine blk_alloc ?_ _)); refine blk_put (cs := #[.int .i64 0, .bool false, .string (⟨#[]⟩ : ByteArray), .string (⟨#[]⟩ : ByteArray), .slice none 0 0]) ?_ 0 _ rfl; (with_reducible repeat (first | refine blk_drewN ?_ _ | refine blk_drew ?_ | refine blk_alloc ?_ _)); exact BK145.out) hb); have n1_ := Aside0.mk (below_step (by repeat (first | (with_reducible first | exact HB.out | apply below_alloc | apply pw_below_drewN | apply below_drew1 | refine below_set ?_ GE145.out) | exact HB.out)) hb); clear BK145; clear HB; have BK145 := n0_; have HB := n1_; clear n0_ n1_; (try clear hb); (try clear hb2); (try clear hk); (try clear hi)))
                      go_meet
                      case rel => exact ⟨_, (true), (by first | rfl | (simp; done) | (simp [*]; done)), H', ⟨by have := HK1.out; first | omega | exact Nat.le_refl _⟩, ⟨by (with_reducible repeat (first | refine blk_drewN ?_ _ | refine blk_drew ?_ | refine blk_alloc ?_ _)); exact BK145.out⟩, ⟨by repeat (first | (with_reducible first | exact HB.out | apply below_alloc | apply pw_below_drewN | apply below_drew1 | refine below_set ?_ GE145.out) | exact HB.out)⟩⟩
                · rw [if_neg c44] at H
                  have c44b0 : (((rd_T33 l0 x12_1).f0) == 2) = false := beq_eq_false_iff_ne.mpr c44
                  have c44b1 : (((rd_T33 l0 x12_1).f0) != 2) = true := bne_iff_ne.mpr c44
                  (first | rw [c44b0] | (simp only [i64_w, i32_w]; rw [c44b0]) | skip)
                  have H' := Aside0.mk H
                  clear H
                  have hcz57_0 : w42.cell? ⟨gb145, 0, none⟩ = some (.int .i64 0) := (blk_cell BK145.out 0).trans rfl
                  have hcz57_1 : w42.cell? ⟨gb145, 1, none⟩ = some (.bool false) := (blk_cell BK145.out 1).trans rfl
                  have hcz57_2 : w42.cell? ⟨gb145, 2, none⟩ = some (.string (⟨#[]⟩ : ByteArray)) := (blk_cell BK145.out 2).trans rfl
                  have hcz57_3 : w42.cell? ⟨gb145, 3, none⟩ = some (.string (⟨#[]⟩ : ByteArray)) := (blk_cell BK145.out 3).trans rfl
                  have hcz57_4 : w42.cell? ⟨gb145, 4, none⟩ = some (.slice none 0 0) := (blk_cell BK145.out 4).trans rfl
                  have hfz57_0 := blk_frozen BK145.out 0
                  have hfz57_1 := blk_frozen BK145.out 1
                  have hfz57_2 := blk_frozen BK145.out 2
                  have hfz57_3 := blk_frozen BK145.out 3
                  have hfz57_4 := blk_frozen BK145.out 4
                  go_wp2
                  go_meet
                  case rel => exact ⟨_, (true), (by first | rfl | (simp; done) | (simp [*]; done)), H', ⟨by have := HK1.out; first | omega | exact Nat.le_refl _⟩, ⟨by (with_reducible repeat (first | refine blk_drewN ?_ _ | refine blk_drew ?_ | refine blk_alloc ?_ _)); refine blk_put (cs := #[.int .i64 ((rd_T33 l0 x12_1).f0), .bool ((rd_T33 l0 x12_1).f1), .string ((rd_T33 l0 x12_1).f2), .string ((rd_T33 l0 x12_1).f3), .slice none 0 0]) ?_ 4 _ rfl; (with_reducible repeat (first | refine blk_drewN ?_ _ | refine blk_drew ?_ | refine blk_alloc ?_ _)); refine blk_put (cs := #[.int .i64 ((rd_T33 l0 x12_1).f0), .bool ((rd_T33 l0 x12_1).f1), .string ((rd_T33 l0 x12_1).f2), .string (⟨#[]⟩ : ByteArray), .slice none 0 0]) ?_ 3 _ rfl; (with_reducible repeat (first | refine blk_drewN ?_ _ | refine blk_drew ?_ | refine blk_alloc ?_ _)); refine blk_put (cs := #[.int .i64 ((rd_T33 l0 x12_1).f0), .bool ((rd_T33 l0 x12_1).f1), .string (⟨#[]⟩ : ByteArray), .string (⟨#[]⟩ : ByteArray), .slice none 0 0]) ?_ 2 _ rfl; (with_reducible repeat (first | refine blk_drewN ?_ _ | refine blk_drew ?_ | refine blk_alloc ?_ _)); refine blk_put (cs := #[.int .i64 ((rd_T33 l0 x12_1).f0), .bool false, .string (⟨#[]⟩ : ByteArray), .string (⟨#[]⟩ : ByteArray), .slice none 0 0]) ?_ 1 _ rfl; (with_reducible repeat (first | refine blk_drewN ?_ _ | refine blk_drew ?_ | refine blk_alloc ?_ _)); refine blk_put (cs := #[.int .i64 0, .bool false, .string (⟨#[]⟩ : ByteArray), .string (⟨#[]⟩ : ByteArray), .slice none 0 0]) ?_ 0 _ rfl; (with_reducible repeat (first | refine blk_drewN ?_ _ | refine blk_drew ?_ | refine blk_alloc ?_ _)); exact BK145.out⟩, ⟨by repeat (first | (with_reducible first | exact HB.out | apply below_alloc | apply pw_below_drewN | apply below_drew1 | refine below_set ?_ GE145.out) | exact HB.out)⟩⟩
              case rest =>
                clear HC41
                try clear c1
                try clear p1
                try clear q1
                try clear hx1
                try clear p2
                try clear c3
                try clear c4
                try clear p6
                try clear c7
                try clear c7b0
                try clear c7b1
                try clear c9
                try clear c10
                try clear c10b0
                try clear c12
                try clear c13
                try clear c14
                try clear p14
                try clear q14
                try clear hx14
                try clear c37
                try clear c44
                try clear c44b0
                try clear c44b1
                try clear c45
                try clear c45b0
                try clear c48
                try clear c49
                try clear c49b0
                try clear c49b1
                try clear hcz32_0
                try clear hcz32_1
                try clear hcz32_2
                try clear hcz32_3
                try clear hcz32_4
                try clear hcz37_0
                try clear hcz37_1
                try clear hcz37_2
                try clear hcz37_3
                try clear hcz37_4
                try clear hcz43_0
                try clear hcz43_1
                try clear hcz43_2
                try clear hcz43_3
                try clear hcz43_4
                try clear hcz46_0
                try clear hcz46_1
                try clear hcz46_2
                try clear hcz46_3
                try clear hcz46_4
                try clear hcz50_0
                try clear hcz50_1
                try clear hcz50_2
                try clear hcz50_3
                try clear hcz50_4
                try clear hcz52_0
                try clear hcz52_1
                try clear hcz52_2
                try clear hcz52_3
                try clear hcz52_4
                try clear hcz53_0
                try clear hcz53_1
                try clear hcz53_2
                try clear hcz53_3
                try clear hcz53_4
                try clear hcz55_0
                try clear hcz55_1
                try clear hcz55_2
                try clear hcz55_3
                try clear hcz55_4
                try clear hcz57_0
                try clear hcz57_1
                try clear hcz57_2
                try clear hcz57_3
                try clear hcz57_4
                try clear hfz32_0
                try clear hfz32_1
                try clear hfz32_2
                try clear hfz32_3
                try clear hfz32_4
                try clear hfz37_0
                try clear hfz37_1
                try clear hfz37_2
                try clear hfz37_3
                try clear hfz37_4
                try clear hfz43_0
                try clear hfz43_1
                try clear hfz43_2
                try clear hfz43_3
                try clear hfz43_4
                try clear hfz46_0
                try clear hfz46_1
                try clear hfz46_2
                try clear hfz46_3
                try clear hfz46_4
                try clear hfz50_0
                try clear hfz50_1
                try clear hfz50_2
                try clear hfz50_3
                try clear hfz50_4
                try clear hfz52_0
                try clear hfz52_1
                try clear hfz52_2
                try clear hfz52_3
                try clear hfz52_4
                try clear hfz53_0
                try clear hfz53_1
                try clear hfz53_2
                try clear hfz53_3
                try clear hfz53_4
                try clear hfz55_0
                try clear hfz55_1
                try clear hfz55_2
                try clear hfz55_3
                try clear hfz55_4
                try clear hfz57_0
                try clear hfz57_1
                try clear hfz57_2
                try clear hfz57_3
                try clear hfz57_4
                try clear hx144_0
                try clear hx144_1
                try clear hx144_2
                try clear hx144_3
                try clear hx144_4
                try clear p144
                try clear q144
                obtain ⟨kq, x69_40, rfl, HA, HJ40, BK145, HB⟩ := hcut
                cases kq with
                | zero => exact absurd HA.out (by simp [deadfallref03_Parts.j1])
                | succ kj40 =>
                  have H := HA.out
                  clear HA
                  simp only [deadfallref03_Parts.j1] at H
                  by_cases c58 : x69_40 = true
                  · subst c58
                    have H1 : (some false) = some r := by rw [if_pos rfl] at H; exact H
                    clear H
                    have H := H1
                    clear H1
                    obtain rfl := Option.some.inj H
                    go_wp2
                    go_ret
                    exact ⟨by first | rfl | (simp [errW_none, errW_some] <;> rfl) | (simp [*, errW_none, errW_some] <;> rfl), by repeat (first | (with_reducible first | exact HB.out | apply below_alloc | apply pw_below_drewN | apply below_drew1 | refine below_set ?_ GE145.out) | exact HB.out)⟩
                  · replace c58 := Bool.eq_false_iff.mpr c58
                    subst c58
                    have H1 : (if ((rd_T33 l0 x12_1).f3).toList = ([] : List UInt8) then (if (((rd_T33 l0 x12_1).f4).length : Int) > 0 then (deadfallref03_Parts.j2 kj40 l0 a1 a2 l0 (l0.length : Int) x12_1 true ((rd_T33 l0 x12_1).f0) ((rd_T33 l0 x12_1).f1) ((rd_T33 l0 x12_1).f2) ((rd_T33 l0 x12_1).f3) ((rd_T33 l0 x12_1).f4)) else (deadfallref03_Parts.j2 kj40 l0 a1 a2 l0 (l0.length : Int) x12_1 false ((rd_T33 l0 x12_1).f0) ((rd_T33 l0 x12_1).f1) ((rd_T33 l0 x12_1).f2) ((rd_T33 l0 x12_1).f3) ((rd_T33 l0 x12_1).f4))) else ((deadfallref03_Operator.f ((rd_T33 l0 x12_1).f3)).bind fun t150 => (deadfallref03_Parts.j2 kj40 l0 a1 a2 l0 (l0.length : Int) x12_1 (!t150) ((rd_T33 l0 x12_1).f0) ((rd_T33 l0 x12_1).f1) ((rd_T33 l0 x12_1).f2) ((rd_T33 l0 x12_1).f3) ((rd_T33 l0 x12_1).f4)))) = some r := by rw [if_neg (show ¬ (false = true) by decide)] at H; exact H
                    clear H
                    have H := H1
                    clear H1
                    have HC59 := Aside0.mk H
                    clear H
                    go_upto_region 9 with (fail)
                    go_cut [89] (fun v89 wc => ∃ (kq : Nat) (x89_58 : Bool), v89 = .bool x89_58 ∧ Aside0 (deadfallref03_Parts.j2 kq l0 a1 a2 l0 (l0.length : Int) x12_1 x89_58 ((rd_T33 l0 x12_1).f0) ((rd_T33 l0 x12_1).f1) ((rd_T33 l0 x12_1).f2) ((rd_T33 l0 x12_1).f3) ((rd_T33 l0 x12_1).f4) = some r) ∧ Aside0 (kq ≤ kj40) ∧ Aside0 (wc.heap[gb145]? = some (.cells #[.int .i64 ((rd_T33 l0 x12_1).f0), .bool ((rd_T33 l0 x12_1).f1), .string ((rd_T33 l0 x12_1).f2), .string ((rd_T33 l0 x12_1).f3), (.slice A144_4 ((rd_T33 l0 x12_1).f4).length c144_4)] 33 (0, 0))) ∧ Aside0 (Below w.heap.size w wc))
                    case first =>
                      have H := HC59.out
                      clear HC59
                      by_cases c60 : ((rd_T33 l0 x12_1).f3).toList = ([] : List UInt8)
                      · rw [if_pos c60] at H
                        have c60b0 : (((rd_T33 l0 x12_1).f3).toList == ([] : List UInt8)) = true := beq_iff_eq.mpr c60
                        have c60b1 : (((rd_T33 l0 x12_1).f3).toList != ([] : List UInt8)) = false := bne_eq_false_iff_eq.mpr c60
                        clear c60
                        (first | rw [c60b0] | (simp only [i64_w, i32_w]; rw [c60b0]) | skip)
                        by_cases c61 : (((rd_T33 l0 x12_1).f4).length : Int) > 0
                        · rw [if_pos c61] at H
                          have c61b0 : decide (0 < (((rd_T33 l0 x12_1).f4).length : Int)) = true := decide_eq_true c61
                          have c61b1 : decide (0 < ((rd_T33 l0 x12_1).f4).length) = true := decide_eq_true (by omega)
                          clear c61
                          have H' := Aside0.mk H
                          clear H
                          have hcz62_0 : wc.cell? ⟨gb145, 0, none⟩ = some (.int .i64 ((rd_T33 l0 x12_1).f0)) := (blk_cell BK145.out 0).trans rfl
                          have hcz62_1 : wc.cell? ⟨gb145, 1, none⟩ = some (.bool ((rd_T33 l0 x12_1).f1)) := (blk_cell BK145.out 1).trans rfl
                          have hcz62_2 : wc.cell? ⟨gb145, 2, none⟩ = some (.string ((rd_T33 l0 x12_1).f2)) := (blk_cell BK145.out 2).trans rfl
                          have hcz62_3 : wc.cell? ⟨gb145, 3, none⟩ = some (.string ((rd_T33 l0 x12_1).f3)) := (blk_cell BK145.out 3).trans rfl
                          have hcz62_4 : wc.cell? ⟨gb145, 4, none⟩ = some (.slice A144_4 ((rd_T33 l0 x12_1).f4).length c144_4) := (blk_cell BK145.out 4).trans rfl
                          have hfz62_0 := blk_frozen BK145.out 0
                          have hfz62_1 := blk_frozen BK145.out 1
                          have hfz62_2 := blk_frozen BK145.out 2
                          have hfz62_3 := blk_frozen BK145.out 3
                          have hfz62_4 := blk_frozen BK145.out 4
                          go_wp2
                          go_meet
                          case rel => exact ⟨_, (true), (by first | rfl | (simp; done) | (simp [*]; done)), H', ⟨by have := HK1.out; have := HJ40.out; first | omega | exact Nat.le_refl _⟩, ⟨by (with_reducible repeat (first | refine blk_drewN ?_ _ | refine blk_drew ?_ | refine blk_alloc ?_ _)); exact BK145.out⟩, ⟨by repeat (first | (with_reducible first | exact HB.out | apply below_alloc | apply pw_below_drewN | apply below_drew1 | refine below_set ?_ GE145.out) | exact HB.out)⟩⟩
                        · rw [if_neg c61] at H
                          have c61b0 : decide (0 < (((rd_T33 l0 x12_1).f4).length : Int)) = false := decide_eq_false c61
                          have c61b1 : decide (0 < ((rd_T33 l0 x12_1).f4).length) = false := decide_eq_false (by omega)
                          clear c61
                          have H' := Aside0.mk H
                          clear H
                          have hcz63_0 : wc.cell? ⟨gb145, 0, none⟩ = some (.int .i64 ((rd_T33 l0 x12_1).f0)) := (blk_cell BK145.out 0).trans rfl
                          have hcz63_1 : wc.cell? ⟨gb145, 1, none⟩ = some (.bool ((rd_T33 l0 x12_1).f1)) := (blk_cell BK145.out 1).trans rfl
                          have hcz63_2 : wc.cell? ⟨gb145, 2, none⟩ = some (.string ((rd_T33 l0 x12_1).f2)) := (blk_cell BK145.out 2).trans rfl
                          have hcz63_3 : wc.cell? ⟨gb145, 3, none⟩ = some (.string ((rd_T33 l0 x12_1).f3)) := (blk_cell BK145.out 3).trans rfl
                          have hcz63_4 : wc.cell? ⟨gb145, 4, none⟩ = some (.slice A144_4 ((rd_T33 l0 x12_1).f4).length c144_4) := (blk_cell BK145.out 4).trans rfl
                          have hfz63_0 := blk_frozen BK145.out 0
                          have hfz63_1 := blk_frozen BK145.out 1
                          have hfz63_2 := blk_frozen BK145.out 2
                          have hfz63_3 := blk_frozen BK145.out 3
                          have hfz63_4 := blk_frozen BK145.out 4
                          go_wp2
                          go_meet
                          case rel => exact ⟨_, (false), (by first | rfl | (simp; done) | (simp [*]; done)), H', ⟨by have := HK1.out; have := HJ40.out; first | omega | exact Nat.le_refl _⟩, ⟨by (with_reducible repeat (first | refine blk_drewN ?_ _ | refine blk_drew ?_ | refine blk_alloc ?_ _)); exact BK145.out⟩, ⟨by repeat (first | (with_reducible first | exact HB.out | apply below_alloc | apply pw_below_drewN | apply below_drew1 | refine below_set ?_ GE145.out) | exact HB.out)⟩⟩
                      · rw [if_neg c60] at H
                        have c60b0 : (((rd_T33 l0 x12_1).f3).toList == ([] : List UInt8)) = false := beq_eq_false_iff_ne.mpr c60
                        have c60b1 : (((rd_T33 l0 x12_1).f3).toList != ([] : List UInt8)) = true := bne_iff_ne.mpr c60
                        (first | rw [c60b0] | (simp only [i64_w, i32_w]; rw [c60b0]) | skip)
                        replace H := Option.bind_eq_some_iff.mp H
                        obtain ⟨t150, A640, H⟩ := H
                        replace H : (deadfallref03_Parts.j2 kj40 l0 a1 a2 l0 (l0.length : Int) x12_1 (!t150) ((rd_T33 l0 x12_1).f0) ((rd_T33 l0 x12_1).f1) ((rd_T33 l0 x12_1).f2) ((rd_T33 l0 x12_1).f3) ((rd_T33 l0 x12_1).f4)) = some r := H
                        have A64 := Aside0.mk A640
                        clear A640
                        have H' := Aside0.mk H
                        clear H
                        have hcz65_0 : wc.cell? ⟨gb145, 0, none⟩ = some (.int .i64 ((rd_T33 l0 x12_1).f0)) := (blk_cell BK145.out 0).trans rfl
                        have hcz65_1 : wc.cell? ⟨gb145, 1, none⟩ = some (.bool ((rd_T33 l0 x12_1).f1)) := (blk_cell BK145.out 1).trans rfl
                        have hcz65_2 : wc.cell? ⟨gb145, 2, none⟩ = some (.string ((rd_T33 l0 x12_1).f2)) := (blk_cell BK145.out 2).trans rfl
                        have hcz65_3 : wc.cell? ⟨gb145, 3, none⟩ = some (.string ((rd_T33 l0 x12_1).f3)) := (blk_cell BK145.out 3).trans rfl
                        have hcz65_4 : wc.cell? ⟨gb145, 4, none⟩ = some (.slice A144_4 ((rd_T33 l0 x12_1).f4).length c144_4) := (blk_cell BK145.out 4).trans rfl
                        have hfz65_0 := blk_frozen BK145.out 0
                        have hfz65_1 := blk_frozen BK145.out 1
                        have hfz65_2 := blk_frozen BK145.out 2
                        have hfz65_3 := blk_frozen BK145.out 3
                        have hfz65_4 := blk_frozen BK145.out 4
                        go_wp2_with (first | (go_at_call 39; (with_reducible refine (deadfallref03_Operator.calls ((rd_T33 l0 x12_1).f3) t150 _ A64.out).mono ?_); rintro e w' ⟨rfl, ⟨nd, rfl⟩⟩))
                        go_meet
                        case rel => exact ⟨_, (!t150), (by first | rfl | (simp; done) | (simp [*]; done)), H', ⟨by have := HK1.out; have := HJ40.out; first | omega | exact Nat.le_refl _⟩, ⟨by (with_reducible repeat (first | refine blk_drewN ?_ _ | refine blk_drew ?_ | refine blk_alloc ?_ _)); exact BK145.out⟩, ⟨by repeat (first | (with_reducible first | exact HB.out | apply below_alloc | apply pw_below_drewN | apply below_drew1 | refine below_set ?_ GE145.out) | exact HB.out)⟩⟩
                    case rest =>
                      clear HC59
                      try clear c1
                      try clear p1
                      try clear q1
                      try clear hx1
                      try clear p2
                      try clear c3
                      try clear c4
                      try clear c5
                      try clear c6
                      try clear p6
                      try clear c7
                      try clear c7b0
                      try clear c7b1
                      try clear c9
                      try clear c10
                      try clear c10b0
                      try clear c12
                      try clear c13
                      try clear c14
                      try clear p14
                      try clear q14
                      try clear hx14
                      try clear c37
                      try clear c44
                      try clear c44b0
                      try clear c44b1
                      try clear c45
                      try clear c45b0
                      try clear c48
                      try clear c49
                      try clear c49b0
                      try clear c49b1
                      try clear c58
                      try clear c60
                      try clear c60b0
                      try clear c60b1
                      try clear c61
                      try clear c61b0
                      try clear c61b1
                      try clear p64
                      try clear hcz32_0
                      try clear hcz32_1
                      try clear hcz32_2
                      try clear hcz32_3
                      try clear hcz32_4
                      try clear hcz37_0
                      try clear hcz37_1
                      try clear hcz37_2
                      try clear hcz37_3
                      try clear hcz37_4
                      try clear hcz43_0
                      try clear hcz43_1
                      try clear hcz43_2
                      try clear hcz43_3
                      try clear hcz43_4
                      try clear hcz46_0
                      try clear hcz46_1
                      try clear hcz46_2
                      try clear hcz46_3
                      try clear hcz46_4
                      try clear hcz50_0
                      try clear hcz50_1
                      try clear hcz50_2
                      try clear hcz50_3
                      try clear hcz50_4
                      try clear hcz52_0
                      try clear hcz52_1
                      try clear hcz52_2
                      try clear hcz52_3
                      try clear hcz52_4
                      try clear hcz53_0
                      try clear hcz53_1
                      try clear hcz53_2
                      try clear hcz53_3
                      try clear hcz53_4
                      try clear hcz55_0
                      try clear hcz55_1
                      try clear hcz55_2
                      try clear hcz55_3
                      try clear hcz55_4
                      try clear hcz57_0
                      try clear hcz57_1
                      try clear hcz57_2
                      try clear hcz57_3
                      try clear hcz57_4
                      try clear hcz62_0
                      try clear hcz62_1
                      try clear hcz62_2
                      try clear hcz62_3
                      try clear hcz62_4
                      try clear hcz63_0
                      try clear hcz63_1
                      try clear hcz63_2
                      try clear hcz63_3
                      try clear hcz63_4
                      try clear hcz65_0
                      try clear hcz65_1
                      try clear hcz65_2
                      try clear hcz65_3
                      try clear hcz65_4
                      try clear hfz32_0
                      try clear hfz32_1
                      try clear hfz32_2
                      try clear hfz32_3
                      try clear hfz32_4
                      try clear hfz37_0
                      try clear hfz37_1
                      try clear hfz37_2
                      try clear hfz37_3
                      try clear hfz37_4
                      try clear hfz43_0
                      try clear hfz43_1
                      try clear hfz43_2
                      try clear hfz43_3
                      try clear hfz43_4
                      try clear hfz46_0
                      try clear hfz46_1
                      try clear hfz46_2
                      try clear hfz46_3
                      try clear hfz46_4
                      try clear hfz50_0
                      try clear hfz50_1
                      try clear hfz50_2
                      try clear hfz50_3
                      try clear hfz50_4
                      try clear hfz52_0
                      try clear hfz52_1
                      try clear hfz52_2
                      try clear hfz52_3
                      try clear hfz52_4
                      try clear hfz53_0
                      try clear hfz53_1
                      try clear hfz53_2
                      try clear hfz53_3
                      try clear hfz53_4
                      try clear hfz55_0
                      try clear hfz55_1
                      try clear hfz55_2
                      try clear hfz55_3
                      try clear hfz55_4
                      try clear hfz57_0
                      try clear hfz57_1
                      try clear hfz57_2
                      try clear hfz57_3
                      try clear hfz57_4
                      try clear hfz62_0
                      try clear hfz62_1
                      try clear hfz62_2
                      try clear hfz62_3
                      try clear hfz62_4
                      try clear hfz63_0
                      try clear hfz63_1
                      try clear hfz63_2
                      try clear hfz63_3
                      try clear hfz63_4
                      try clear hfz65_0
                      try clear hfz65_1
                      try clear hfz65_2
                      try clear hfz65_3
                      try clear hfz65_4
                      try clear hx144_0
                      try clear hx144_1
                      try clear hx144_2
                      try clear hx144_3
                      try clear hx144_4
                      try clear p1
                      try clear p14
                      try clear p144
                      try clear p2
                      try clear p6
                      try clear q1
                      try clear q14
                      try clear q144
                      obtain ⟨kq, x89_58, rfl, HA, HJ58, BK145, HB⟩ := hcut
                      cases kq with
                      | zero => exact absurd HA.out (by simp [deadfallref03_Parts.j2])
                      | succ kj58 =>
                        have H := HA.out
                        clear HA
                        simp only [deadfallref03_Parts.j2] at H
                        by_cases c66 : x89_58 = true
                        · subst c66
                          have H1 : (some false) = some r := by rw [if_pos rfl] at H; exact H
                          clear H
                          have H := H1
                          clear H1
                          obtain rfl := Option.some.inj H
                          go_wp2
                          go_ret
                          exact ⟨by first | rfl | (simp [errW_none, errW_some] <;> rfl) | (simp [*, errW_none, errW_some] <;> rfl), by repeat (first | (with_reducible first | exact HB.out | apply below_alloc | apply pw_below_drewN | apply below_drew1 | refine below_set ?_ GE145.out) | exact HB.out)⟩
                        · replace c66 := Bool.eq_false_iff.mpr c66
                          subst c66
                          have H1 : (if ((rd_T33 l0 x12_1).f3).toList = ([61] : List UInt8) then ((deadfallref02_Name.f ((rd_T33 l0 x12_1).f2)).bind fun t151 => (deadfallref03_Parts.j3 kj58 l0 a1 a2 l0 (l0.length : Int) x12_1 (!t151) ((rd_T33 l0 x12_1).f0) ((rd_T33 l0 x12_1).f1) ((rd_T33 l0 x12_1).f2) ((rd_T33 l0 x12_1).f3) ((rd_T33 l0 x12_1).f4))) else (if ((rd_T33 l0 x12_1).f3).toList = ([58, 61] : List UInt8) then ((deadfallref02_Name.f ((rd_T33 l0 x12_1).f2)).bind fun t152 => (deadfallref03_Parts.j3 kj58 l0 a1 a2 l0 (l0.length : Int) x12_1 (!t152) ((rd_T33 l0 x12_1).f0) ((rd_T33 l0 x12_1).f1) ((rd_T33 l0 x12_1).f2) ((rd_T33 l0 x12_1).f3) ((rd_T33 l0 x12_1).f4))) else (deadfallref03_Parts.j3 kj58 l0 a1 a2 l0 (l0.length : Int) x12_1 false ((rd_T33 l0 x12_1).f0) ((rd_T33 l0 x12_1).f1) ((rd_T33 l0 x12_1).f2) ((rd_T33 l0 x12_1).f3) ((rd_T33 l0 x12_1).f4)))) = some r := by rw [if_neg (show ¬ (false = true) by decide)] at H; exact H
                          clear H
                          have H := H1
                          clear H1
                          have HC67 := Aside0.mk H
                          clear H
                          go_upto_region 11 with (fail)
                          go_cut [103] (fun v103 wc => ∃ (kq : Nat) (x103_66 : Bool), v103 = .bool x103_66 ∧ Aside0 (deadfallref03_Parts.j3 kq l0 a1 a2 l0 (l0.length : Int) x12_1 x103_66 ((rd_T33 l0 x12_1).f0) ((rd_T33 l0 x12_1).f1) ((rd_T33 l0 x12_1).f2) ((rd_T33 l0 x12_1).f3) ((rd_T33 l0 x12_1).f4) = some r) ∧ Aside0 (kq ≤ kj58) ∧ Aside0 (wc.heap[gb145]? = some (.cells #[.int .i64 ((rd_T33 l0 x12_1).f0), .bool ((rd_T33 l0 x12_1).f1), .string ((rd_T33 l0 x12_1).f2), .string ((rd_T33 l0 x12_1).f3), (.slice A144_4 ((rd_T33 l0 x12_1).f4).length c144_4)] 33 (0, 0))) ∧ Aside0 (Below w.heap.size w wc))
                          case first =>
                            have H := HC67.out
                            clear HC67
                            by_cases c68 : ((rd_T33 l0 x12_1).f3).toList = ([61] : List UInt8)
                            · rw [if_pos c68] at H
                              have c68b0 : (((rd_T33 l0 x12_1).f3).toList == ([61] : List UInt8)) = true := beq_iff_eq.mpr c68
                              have c68b1 : (((rd_T33 l0 x12_1).f3).toList != ([61] : List UInt8)) = false := bne_eq_false_iff_eq.mpr c68
                              clear c68
                              (first | rw [c68b0] | (simp only [i64_w, i32_w]; rw [c68b0]) | skip)
                              replace H := Option.bind_eq_some_iff.mp H
                              obtain ⟨t151, A690, H⟩ := H
                              replace H : (deadfallref03_Parts.j3 kj58 l0 a1 a2 l0 (l0.length : Int) x12_1 (!t151) ((rd_T33 l0 x12_1).f0) ((rd_T33 l0 x12_1).f1) ((rd_T33 l0 x12_1).f2) ((rd_T33 l0 x12_1).f3) ((rd_T33 l0 x12_1).f4)) = some r := H
                              have A69 := Aside0.mk A690
                              clear A690
                              have H' := Aside0.mk H
                              clear H
                              have hcz70_0 : wc.cell? ⟨gb145, 0, none⟩ = some (.int .i64 ((rd_T33 l0 x12_1).f0)) := (blk_cell BK145.out 0).trans rfl
                              have hcz70_1 : wc.cell? ⟨gb145, 1, none⟩ = some (.bool ((rd_T33 l0 x12_1).f1)) := (blk_cell BK145.out 1).trans rfl
                              have hcz70_2 : wc.cell? ⟨gb145, 2, none⟩ = some (.string ((rd_T33 l0 x12_1).f2)) := (blk_cell BK145.out 2).trans rfl
                              have hcz70_3 : wc.cell? ⟨gb145, 3, none⟩ = some (.string ((rd_T33 l0 x12_1).f3)) := (blk_cell BK145.out 3).trans rfl
                              have hcz70_4 : wc.cell? ⟨gb145, 4, none⟩ = some (.slice A144_4 ((rd_T33 l0 x12_1).f4).length c144_4) := (blk_cell BK145.out 4).trans rfl
                              have hfz70_0 := blk_frozen BK145.out 0
                              have hfz70_1 := blk_frozen BK145.out 1
                              have hfz70_2 := blk_frozen BK145.out 2
                              have hfz70_3 := blk_frozen BK145.out 3
                              have hfz70_4 := blk_frozen BK145.out 4
                              go_wp2_with (first | (go_at_call 34; (with_reducible refine (deadfallref02_Name.calls ((rd_T33 l0 x12_1).f2) t151 _ A69.out).mono ?_); rintro e w71 ⟨rfl, hb⟩; have n0_ := Aside0.mk (blk_below (g := gb145) (o := .cells #[.int .i64 ((rd_T33 l0 x12_1).f0), .bool ((rd_T33 l0 x12_1).f1), .string ((rd_T33 l0 x12_1).f2), .string ((rd_T33 l0 x12_1).f3), .slice A144_4 ((rd_T33 l0 x12_1).f4).length c144_4] 33 (0, 0)) (by (with_reducible repeat (first | refine blk_drewN ?_ _ | refine blk_drew ?_ | refine blk_alloc ?_ _)); exact BK145.out) hb); have n1_ := Aside0.mk (below_step (by repeat (first | (with_reducible first | exact HB.out | apply below_alloc | apply pw_below_drewN | apply below_drew1 | refine below_set ?_ GE145.out) | exact HB.out)) hb); clear BK145; clear HB; have BK145 := n0_; have HB := n1_; clear n0_ n1_; (try clear hb); (try clear hb2); (try clear hk); (try clear hi)))
                              go_meet
                              case rel => exact ⟨_, (!t151), (by first | rfl | (simp; done) | (simp [*]; done)), H', ⟨by have := HK1.out; have := HJ40.out; have := HJ58.out; first | omega | exact Nat.le_refl _⟩, ⟨by (with_reducible repeat (first | refine blk_drewN ?_ _ | refine blk_drew ?_ | refine blk_alloc ?_ _)); exact BK145.out⟩, ⟨by repeat (first | (with_reducible first | exact HB.out | apply below_alloc | apply pw_below_drewN | apply below_drew1 | refine below_set ?_ GE145.out) | exact HB.out)⟩⟩
                            · rw [if_neg c68] at H
                              have c68b0 : (((rd_T33 l0 x12_1).f3).toList == ([61] : List UInt8)) = false := beq_eq_false_iff_ne.mpr c68
                              have c68b1 : (((rd_T33 l0 x12_1).f3).toList != ([61] : List UInt8)) = true := bne_iff_ne.mpr c68
                              (first | rw [c68b0] | (simp only [i64_w, i32_w]; rw [c68b0]) | skip)
                              by_cases c72 : ((rd_T33 l0 x12_1).f3).toList = ([58, 61] : List UInt8)
                              · rw [if_pos c72] at H
                                have c72b0 : (((rd_T33 l0 x12_1).f3).toList == ([58, 61] : List UInt8)) = true := beq_iff_eq.mpr c72
                                have c72b1 : (((rd_T33 l0 x12_1).f3).toList != ([58, 61] : List UInt8)) = false := bne_eq_false_iff_eq.mpr c72
                                clear c72
                                replace H := Option.bind_eq_some_iff.mp H
                                obtain ⟨t152, A730, H⟩ := H
                                replace H : (deadfallref03_Parts.j3 kj58 l0 a1 a2 l0 (l0.length : Int) x12_1 (!t152) ((rd_T33 l0 x12_1).f0) ((rd_T33 l0 x12_1).f1) ((rd_T33 l0 x12_1).f2) ((rd_T33 l0 x12_1).f3) ((rd_T33 l0 x12_1).f4)) = some r := H
                                have A73 := Aside0.mk A730
                                clear A730
                                have H' := Aside0.mk H
                                clear H
                                have hcz74_0 : wc.cell? ⟨gb145, 0, none⟩ = some (.int .i64 ((rd_T33 l0 x12_1).f0)) := (blk_cell BK145.out 0).trans rfl
                                have hcz74_1 : wc.cell? ⟨gb145, 1, none⟩ = some (.bool ((rd_T33 l0 x12_1).f1)) := (blk_cell BK145.out 1).trans rfl
                                have hcz74_2 : wc.cell? ⟨gb145, 2, none⟩ = some (.string ((rd_T33 l0 x12_1).f2)) := (blk_cell BK145.out 2).trans rfl
                                have hcz74_3 : wc.cell? ⟨gb145, 3, none⟩ = some (.string ((rd_T33 l0 x12_1).f3)) := (blk_cell BK145.out 3).trans rfl
                                have hcz74_4 : wc.cell? ⟨gb145, 4, none⟩ = some (.slice A144_4 ((rd_T33 l0 x12_1).f4).length c144_4) := (blk_cell BK145.out 4).trans rfl
                                have hfz74_0 := blk_frozen BK145.out 0
                                have hfz74_1 := blk_frozen BK145.out 1
                                have hfz74_2 := blk_frozen BK145.out 2
                                have hfz74_3 := blk_frozen BK145.out 3
                                have hfz74_4 := blk_frozen BK145.out 4
                                go_wp2_with (first | (go_at_call 34; (with_reducible refine (deadfallref02_Name.calls ((rd_T33 l0 x12_1).f2) t152 _ A73.out).mono ?_); rintro e w75 ⟨rfl, hb⟩; have n0_ := Aside0.mk (blk_below (g := gb145) (o := .cells #[.int .i64 ((rd_T33 l0 x12_1).f0), .bool ((rd_T33 l0 x12_1).f1), .string ((rd_T33 l0 x12_1).f2), .string ((rd_T33 l0 x12_1).f3), .slice A144_4 ((rd_T33 l0 x12_1).f4).length c144_4] 33 (0, 0)) (by (with_reducible repeat (first | refine blk_drewN ?_ _ | refine blk_drew ?_ | refine blk_alloc ?_ _)); exact BK145.out) hb); have n1_ := Aside0.mk (below_step (by repeat (first | (with_reducible first | exact HB.out | apply below_alloc | apply pw_below_drewN | apply below_drew1 | refine below_set ?_ GE145.out) | exact HB.out)) hb); clear BK145; clear HB; have BK145 := n0_; have HB := n1_; clear n0_ n1_; (try clear hb); (try clear hb2); (try clear hk); (try clear hi)))
                                go_meet
                                case rel => exact ⟨_, (!t152), (by first | rfl | (simp; done) | (simp [*]; done)), H', ⟨by have := HK1.out; have := HJ40.out; have := HJ58.out; first | omega | exact Nat.le_refl _⟩, ⟨by (with_reducible repeat (first | refine blk_drewN ?_ _ | refine blk_drew ?_ | refine blk_alloc ?_ _)); exact BK145.out⟩, ⟨by repeat (first | (with_reducible first | exact HB.out | apply below_alloc | apply pw_below_drewN | apply below_drew1 | refine below_set ?_ GE145.out) | exact HB.out)⟩⟩
                              · rw [if_neg c72] at H
                                have c72b0 : (((rd_T33 l0 x12_1).f3).toList == ([58, 61] : List UInt8)) = false := beq_eq_false_iff_ne.mpr c72
                                have c72b1 : (((rd_T33 l0 x12_1).f3).toList != ([58, 61] : List UInt8)) = true := bne_iff_ne.mpr c72
                                have H' := Aside0.mk H
                                clear H
                                have hcz76_0 : wc.cell? ⟨gb145, 0, none⟩ = some (.int .i64 ((rd_T33 l0 x12_1).f0)) := (blk_cell BK145.out 0).trans rfl
                                have hcz76_1 : wc.cell? ⟨gb145, 1, none⟩ = some (.bool ((rd_T33 l0 x12_1).f1)) := (blk_cell BK145.out 1).trans rfl
                                have hcz76_2 : wc.cell? ⟨gb145, 2, none⟩ = some (.string ((rd_T33 l0 x12_1).f2)) := (blk_cell BK145.out 2).trans rfl
                                have hcz76_3 : wc.cell? ⟨gb145, 3, none⟩ = some (.string ((rd_T33 l0 x12_1).f3)) := (blk_cell BK145.out 3).trans rfl
                                have hcz76_4 : wc.cell? ⟨gb145, 4, none⟩ = some (.slice A144_4 ((rd_T33 l0 x12_1).f4).length c144_4) := (blk_cell BK145.out 4).trans rfl
                                have hfz76_0 := blk_frozen BK145.out 0
                                have hfz76_1 := blk_frozen BK145.out 1
                                have hfz76_2 := blk_frozen BK145.out 2
                                have hfz76_3 := blk_frozen BK145.out 3
                                have hfz76_4 := blk_frozen BK145.out 4
                                go_wp2
                                go_meet
                                case rel => exact ⟨_, (false), (by first | rfl | (simp; done) | (simp [*]; done)), H', ⟨by have := HK1.out; have := HJ40.out; have := HJ58.out; first | omega | exact Nat.le_refl _⟩, ⟨by (with_reducible repeat (first | refine blk_drewN ?_ _ | refine blk_drew ?_ | refine blk_alloc ?_ _)); exact BK145.out⟩, ⟨by repeat (first | (with_reducible first | exact HB.out | apply below_alloc | apply pw_below_drewN | apply below_drew1 | refine below_set ?_ GE145.out) | exact HB.out)⟩⟩
                          case rest =>
                            clear HC67
                            try clear c1
                            try clear p1
                            try clear q1
                            try clear hx1
                            try clear p2
                            try clear c3
                            try clear c4
                            try clear c5
                            try clear c6
                            try clear p6
                            try clear c7
                            try clear c7b0
                            try clear c7b1
                            try clear c9
                            try clear c10
                            try clear c10b0
                            try clear c12
                            try clear c13
                            try clear c14
                            try clear p14
                            try clear q14
                            try clear hx14
                            try clear c37
                            try clear c44
                            try clear c44b0
                            try clear c44b1
                            try clear c45
                            try clear c45b0
                            try clear c48
                            try clear c49
                            try clear c49b0
                            try clear c49b1
                            try clear c58
                            try clear c60
                            try clear c60b0
                            try clear c60b1
                            try clear c61
                            try clear c61b0
                            try clear c61b1
                            try clear p64
                            try clear c66
                            try clear c68
                            try clear c68b0
                            try clear c68b1
                            try clear c72
                            try clear c72b0
                            try clear c72b1
                            try clear hcz32_0
                            try clear hcz32_1
                            try clear hcz32_2
                            try clear hcz32_3
                            try clear hcz32_4
                            try clear hcz37_0
                            try clear hcz37_1
                            try clear hcz37_2
                            try clear hcz37_3
                            try clear hcz37_4
                            try clear hcz43_0
                            try clear hcz43_1
                            try clear hcz43_2
                            try clear hcz43_3
                            try clear hcz43_4
                            try clear hcz46_0
                            try clear hcz46_1
                            try clear hcz46_2
                            try clear hcz46_3
                            try clear hcz46_4
                            try clear hcz50_0
                            try clear hcz50_1
                            try clear hcz50_2
                            try clear hcz50_3
                            try clear hcz50_4
                            try clear hcz52_0
                            try clear hcz52_1
                            try clear hcz52_2
                            try clear hcz52_3
                            try clear hcz52_4
                            try clear hcz53_0
                            try clear hcz53_1
                            try clear hcz53_2
                            try clear hcz53_3
                            try clear hcz53_4
                            try clear hcz55_0
                            try clear hcz55_1
                            try clear hcz55_2
                            try clear hcz55_3
                            try clear hcz55_4
                            try clear hcz57_0
                            try clear hcz57_1
                            try clear hcz57_2
                            try clear hcz57_3
                            try clear hcz57_4
                            try clear hcz62_0
                            try clear hcz62_1
                            try clear hcz62_2
                            try clear hcz62_3
                            try clear hcz62_4
                            try clear hcz63_0
                            try clear hcz63_1
                            try clear hcz63_2
                            try clear hcz63_3
                            try clear hcz63_4
                            try clear hcz65_0
                            try clear hcz65_1
                            try clear hcz65_2
                            try clear hcz65_3
                            try clear hcz65_4
                            try clear hcz70_0
                            try clear hcz70_1
                            try clear hcz70_2
                            try clear hcz70_3
                            try clear hcz70_4
                            try clear hcz74_0
                            try clear hcz74_1
                            try clear hcz74_2
                            try clear hcz74_3
                            try clear hcz74_4
                            try clear hcz76_0
                            try clear hcz76_1
                            try clear hcz76_2
                            try clear hcz76_3
                            try clear hcz76_4
                            try clear hfz32_0
                            try clear hfz32_1
                            try clear hfz32_2
                            try clear hfz32_3
                            try clear hfz32_4
                            try clear hfz37_0
                            try clear hfz37_1
                            try clear hfz37_2
                            try clear hfz37_3
                            try clear hfz37_4
                            try clear hfz43_0
                            try clear hfz43_1
                            try clear hfz43_2
                            try clear hfz43_3
                            try clear hfz43_4
                            try clear hfz46_0
                            try clear hfz46_1
                            try clear hfz46_2
                            try clear hfz46_3
                            try clear hfz46_4
                            try clear hfz50_0
                            try clear hfz50_1
                            try clear hfz50_2
                            try clear hfz50_3
                            try clear hfz50_4
                            try clear hfz52_0
                            try clear hfz52_1
                            try clear hfz52_2
                            try clear hfz52_3
                            try clear hfz52_4
                            try clear hfz53_0
                            try clear hfz53_1
                            try clear hfz53_2
                            try clear hfz53_3
                            try clear hfz53_4
                            try clear hfz55_0
                            try clear hfz55_1
                            try clear hfz55_2
                            try clear hfz55_3
                            try clear hfz55_4
                            try clear hfz57_0
                            try clear hfz57_1
                            try clear hfz57_2
                            try clear hfz57_3
                            try clear hfz57_4
                            try clear hfz62_0
                            try clear hfz62_1
                            try clear hfz62_2
                            try clear hfz62_3
                            try clear hfz62_4
                            try clear hfz63_0
                            try clear hfz63_1
                            try clear hfz63_2
                            try clear hfz63_3
                            try clear hfz63_4
                            try clear hfz65_0
                            try clear hfz65_1
                            try clear hfz65_2
                            try clear hfz65_3
                            try clear hfz65_4
                            try clear hfz70_0
                            try clear hfz70_1
                            try clear hfz70_2
                            try clear hfz70_3
                            try clear hfz70_4
                            try clear hfz74_0
                            try clear hfz74_1
                            try clear hfz74_2
                            try clear hfz74_3
                            try clear hfz74_4
                            try clear hfz76_0
                            try clear hfz76_1
                            try clear hfz76_2
                            try clear hfz76_3
                            try clear hfz76_4
                            try clear hx144_0
                            try clear hx144_1
                            try clear hx144_2
                            try clear hx144_3
                            try clear hx144_4
                            try clear p1
                            try clear p14
                            try clear p144
                            try clear p2
                            try clear p6
                            try clear p64
                            try clear q1
                            try clear q14
                            try clear q144
                            obtain ⟨kq, x103_66, rfl, HA, HJ66, BK145, HB⟩ := hcut
                            cases kq with
                            | zero => exact absurd HA.out (by simp [deadfallref03_Parts.j3])
                            | succ kj66 =>
                              have H := HA.out
                              clear HA
                              simp only [deadfallref03_Parts.j3] at H
                              by_cases c77 : x103_66 = true
                              · subst c77
                                have H1 : (some false) = some r := by rw [if_pos rfl] at H; exact H
                                clear H
                                have H := H1
                                clear H1
                                obtain rfl := Option.some.inj H
                                go_wp2
                                go_ret
                                exact ⟨by first | rfl | (simp [errW_none, errW_some] <;> rfl) | (simp [*, errW_none, errW_some] <;> rfl), by repeat (first | (with_reducible first | exact HB.out | apply below_alloc | apply pw_below_drewN | apply below_drew1 | refine below_set ?_ GE145.out) | exact HB.out)⟩
                              · replace c77 := Bool.eq_false_iff.mpr c77
                                subst c77
                                have H1 : (if ((rd_T33 l0 x12_1).f1) = true then ((deadfallref03_Parts.f kj66 ((rd_T33 l0 x12_1).f4) 2 (wrap64 (a2 + 1))).bind fun t153 => (if t153 = true then (deadfallref03_Parts.l0 kj66 l0 a1 a2 l0 (l0.length : Int) (wrap64 (x12_1 + 1))) else (some false))) else ((deadfallref03_Parts.f kj66 ((rd_T33 l0 x12_1).f4) 1 (wrap64 (a2 + 1))).bind fun t154 => (if t154 = true then (deadfallref03_Parts.l0 kj66 l0 a1 a2 l0 (l0.length : Int) (wrap64 (x12_1 + 1))) else (some false)))) = some r := by rw [if_neg (show ¬ (false = true) by decide)] at H; exact H
                                clear H
                                have H := H1
                                clear H1
                                by_cases c78 : ((rd_T33 l0 x12_1).f1) = true
                                · rw [if_pos c78] at H
                                  have c78b0 : ((rd_T33 l0 x12_1).f1) = true := c78
                                  clear c78
                                  replace H := Option.bind_eq_some_iff.mp H
                                  obtain ⟨t153, A790, H⟩ := H
                                  replace H : (if t153 = true then (deadfallref03_Parts.l0 kj66 l0 a1 a2 l0 (l0.length : Int) (wrap64 (x12_1 + 1))) else (some false)) = some r := H
                                  have A79 := Aside0.mk A790
                                  clear A790
                                  by_cases c80 : t153 = true
                                  · subst c80
                                    have H1 : (deadfallref03_Parts.l0 kj66 l0 a1 a2 l0 (l0.length : Int) (wrap64 (x12_1 + 1))) = some r := by rw [if_pos rfl] at H; exact H
                                    clear H
                                    have H := H1
                                    clear H1
                                    have H' := Aside0.mk H
                                    clear H
                                    have hcz81_0 : wc.cell? ⟨gb145, 0, none⟩ = some (.int .i64 ((rd_T33 l0 x12_1).f0)) := (blk_cell BK145.out 0).trans rfl
                                    have hcz81_1 : wc.cell? ⟨gb145, 1, none⟩ = some (.bool ((rd_T33 l0 x12_1).f1)) := (blk_cell BK145.out 1).trans rfl
                                    have hcz81_2 : wc.cell? ⟨gb145, 2, none⟩ = some (.string ((rd_T33 l0 x12_1).f2)) := (blk_cell BK145.out 2).trans rfl
                                    have hcz81_3 : wc.cell? ⟨gb145, 3, none⟩ = some (.string ((rd_T33 l0 x12_1).f3)) := (blk_cell BK145.out 3).trans rfl
                                    have hcz81_4 : wc.cell? ⟨gb145, 4, none⟩ = some (.slice A144_4 ((rd_T33 l0 x12_1).f4).length c144_4) := (blk_cell BK145.out 4).trans rfl
                                    have hfz81_0 := blk_frozen BK145.out 0
                                    have hfz81_1 := blk_frozen BK145.out 1
                                    have hfz81_2 := blk_frozen BK145.out 2
                                    have hfz81_3 := blk_frozen BK145.out 3
                                    have hfz81_4 := blk_frozen BK145.out 4
                                    go_wp2_with (first | ((with_reducible refine gate_callee (f := 24) rfl ?_); refine goesL_ (some 111) rfl rfl Tryd.func24 (by kernel_rfl) rfl #[.slice A144_4 ((rd_T33 l0 x12_1).f4).length c144_4, .int .i64 2, .int .i64 (wrap64 (a2 + 1))] rfl (by (try simp only [List.map_toArray, List.map_cons, List.map_nil]); first | done | rfl | (simp only [List.length_drop, List.length_take]; rfl)) ?_; (with_reducible refine (ih kj66 (by have := HK1.out; have := HJ40.out; have := HJ58.out; have := HJ66.out; omega) _ _ ((rd_T33 l0 x12_1).f4) 2 (wrap64 (a2 + 1)) true _ ?side1 ?side2 A79.out).mono ?_); (case side1 => repeat (first | exact (Kd.C_below HR144_4.out HB.out) | (with_reducible refine Kd.C_alloc ?_ _) | (with_reducible refine Kd.C_drewN ?_ _) | (with_reducible refine Kd.C_drew ?_))); (case side2 => exact HC144_4.out); rintro e w82 ⟨rfl, hb⟩; refine ⟨_, rfl, ?_⟩; have n0_ := Aside0.mk (blk_below (g := gb145) (o := .cells #[.int .i64 ((rd_T33 l0 x12_1).f0), .bool ((rd_T33 l0 x12_1).f1), .string ((rd_T33 l0 x12_1).f2), .string ((rd_T33 l0 x12_1).f3), .slice A144_4 ((rd_T33 l0 x12_1).f4).length c144_4] 33 (0, 0)) (by (with_reducible repeat (first | refine blk_drewN ?_ _ | refine blk_drew ?_ | refine blk_alloc ?_ _)); exact BK145.out) hb); have n1_ := Aside0.mk (below_step (by repeat (first | (with_reducible first | exact HB.out | apply below_alloc | apply pw_below_drewN | apply below_drew1 | refine below_set ?_ GE145.out) | exact HB.out)) hb); clear BK145; clear HB; have BK145 := n0_; have HB := n1_; clear n0_ n1_; (try clear hb); (try clear hb2); (try clear hk); (try clear hi)))
                                    go_roundg kj66
                                    case measure => have := HK1.out; have := HJ40.out; have := HJ58.out; have := HJ66.out; omega
                                    case rel => exact ⟨(wrap64 (x12_1 + 1)), (by first | rfl | (simp; done) | (simp [*]; done)), H', ⟨by have := HK1.out; have := HJ40.out; have := HJ58.out; have := HJ66.out; omega⟩, ⟨by repeat (first | (with_reducible first | exact HB.out | apply below_alloc | apply pw_below_drewN | apply below_drew1 | refine below_set ?_ GE145.out) | exact HB.out)⟩⟩
                                  · replace c80 := Bool.eq_false_iff.mpr c80
                                    subst c80
                                    have H1 : (some false) = some r := by rw [if_neg (show ¬ (false = true) by decide)] at H; exact H
                                    clear H
                                    have H := H1
                                    clear H1
                                    obtain rfl := Option.some.inj H
                                    have hcz83_0 : wc.cell? ⟨gb145, 0, none⟩ = some (.int .i64 ((rd_T33 l0 x12_1).f0)) := (blk_cell BK145.out 0).trans rfl
                                    have hcz83_1 : wc.cell? ⟨gb145, 1, none⟩ = some (.bool ((rd_T33 l0 x12_1).f1)) := (blk_cell BK145.out 1).trans rfl
                                    have hcz83_2 : wc.cell? ⟨gb145, 2, none⟩ = some (.string ((rd_T33 l0 x12_1).f2)) := (blk_cell BK145.out 2).trans rfl
                                    have hcz83_3 : wc.cell? ⟨gb145, 3, none⟩ = some (.string ((rd_T33 l0 x12_1).f3)) := (blk_cell BK145.out 3).trans rfl
                                    have hcz83_4 : wc.cell? ⟨gb145, 4, none⟩ = some (.slice A144_4 ((rd_T33 l0 x12_1).f4).length c144_4) := (blk_cell BK145.out 4).trans rfl
                                    have hfz83_0 := blk_frozen BK145.out 0
                                    have hfz83_1 := blk_frozen BK145.out 1
                                    have hfz83_2 := blk_frozen BK145.out 2
                                    have hfz83_3 := blk_frozen BK145.out 3
                                    have hfz83_4 := blk_frozen BK145.out 4
                                    go_wp2_with (first | ((with_reducible refine gate_callee (f := 24) rfl ?_); refine goesL_ (some 111) rfl rfl Tryd.func24 (by kernel_rfl) rfl #[.slice A144_4 ((rd_T33 l0 x12_1).f4).length c144_4, .int .i64 2, .int .i64 (wrap64 (a2 + 1))] rfl (by (try simp only [List.map_toArray, List.map_cons, List.map_nil]); first | done | rfl | (simp only [List.length_drop, List.length_take]; rfl)) ?_; (with_reducible refine (ih kj66 (by have := HK1.out; have := HJ40.out; have := HJ58.out; have := HJ66.out; omega) _ _ ((rd_T33 l0 x12_1).f4) 2 (wrap64 (a2 + 1)) false _ ?side1 ?side2 A79.out).mono ?_); (case side1 => repeat (first | exact (Kd.C_below HR144_4.out HB.out) | (with_reducible refine Kd.C_alloc ?_ _) | (with_reducible refine Kd.C_drewN ?_ _) | (with_reducible refine Kd.C_drew ?_))); (case side2 => exact HC144_4.out); rintro e w84 ⟨rfl, hb⟩; refine ⟨_, rfl, ?_⟩; have n0_ := Aside0.mk (blk_below (g := gb145) (o := .cells #[.int .i64 ((rd_T33 l0 x12_1).f0), .bool ((rd_T33 l0 x12_1).f1), .string ((rd_T33 l0 x12_1).f2), .string ((rd_T33 l0 x12_1).f3), .slice A144_4 ((rd_T33 l0 x12_1).f4).length c144_4] 33 (0, 0)) (by (with_reducible repeat (first | refine blk_drewN ?_ _ | refine blk_drew ?_ | refine blk_alloc ?_ _)); exact BK145.out) hb); have n1_ := Aside0.mk (below_step (by repeat (first | (with_reducible first | exact HB.out | apply below_alloc | apply pw_below_drewN | apply below_drew1 | refine below_set ?_ GE145.out) | exact HB.out)) hb); clear BK145; clear HB; have BK145 := n0_; have HB := n1_; clear n0_ n1_; (try clear hb); (try clear hb2); (try clear hk); (try clear hi)))
                                    go_ret
                                    exact ⟨by first | rfl | (simp [errW_none, errW_some] <;> rfl) | (simp [*, errW_none, errW_some] <;> rfl), by repeat (first | (with_reducible first | exact HB.out | apply below_alloc | apply pw_below_drewN | apply below_drew1 | refine below_set ?_ GE145.out) | exact HB.out)⟩
                                · rw [if_neg c78] at H
                                  have c78b0 : ((rd_T33 l0 x12_1).f1) = false := by simpa using c78
                                  clear c78
                                  replace H := Option.bind_eq_some_iff.mp H
                                  obtain ⟨t154, A850, H⟩ := H
                                  replace H : (if t154 = true then (deadfallref03_Parts.l0 kj66 l0 a1 a2 l0 (l0.length : Int) (wrap64 (x12_1 + 1))) else (some false)) = some r := H
                                  have A85 := Aside0.mk A850
                                  clear A850
                                  by_cases c86 : t154 = true
                                  · subst c86
                                    have H1 : (deadfallref03_Parts.l0 kj66 l0 a1 a2 l0 (l0.length : Int) (wrap64 (x12_1 + 1))) = some r := by rw [if_pos rfl] at H; exact H
                                    clear H
                                    have H := H1
                                    clear H1
                                    have H' := Aside0.mk H
                                    clear H
                                    have hcz87_0 : wc.cell? ⟨gb145, 0, none⟩ = some (.int .i64 ((rd_T33 l0 x12_1).f0)) := (blk_cell BK145.out 0).trans rfl
                                    have hcz87_1 : wc.cell? ⟨gb145, 1, none⟩ = some (.bool ((rd_T33 l0 x12_1).f1)) := (blk_cell BK145.out 1).trans rfl
                                    have hcz87_2 : wc.cell? ⟨gb145, 2, none⟩ = some (.string ((rd_T33 l0 x12_1).f2)) := (blk_cell BK145.out 2).trans rfl
                                    have hcz87_3 : wc.cell? ⟨gb145, 3, none⟩ = some (.string ((rd_T33 l0 x12_1).f3)) := (blk_cell BK145.out 3).trans rfl
                                    have hcz87_4 : wc.cell? ⟨gb145, 4, none⟩ = some (.slice A144_4 ((rd_T33 l0 x12_1).f4).length c144_4) := (blk_cell BK145.out 4).trans rfl
                                    have hfz87_0 := blk_frozen BK145.out 0
                                    have hfz87_1 := blk_frozen BK145.out 1
                                    have hfz87_2 := blk_frozen BK145.out 2
                                    have hfz87_3 := blk_frozen BK145.out 3
                                    have hfz87_4 := blk_frozen BK145.out 4
                                    go_wp2_with (first | ((with_reducible refine gate_callee (f := 24) rfl ?_); refine goesL_ (some 111) rfl rfl Tryd.func24 (by kernel_rfl) rfl #[.slice A144_4 ((rd_T33 l0 x12_1).f4).length c144_4, .int .i64 1, .int .i64 (wrap64 (a2 + 1))] rfl (by (try simp only [List.map_toArray, List.map_cons, List.map_nil]); first | done | rfl | (simp only [List.length_drop, List.length_take]; rfl)) ?_; (with_reducible refine (ih kj66 (by have := HK1.out; have := HJ40.out; have := HJ58.out; have := HJ66.out; omega) _ _ ((rd_T33 l0 x12_1).f4) 1 (wrap64 (a2 + 1)) true _ ?side1 ?side2 A85.out).mono ?_); (case side1 => repeat (first | exact (Kd.C_below HR144_4.out HB.out) | (with_reducible refine Kd.C_alloc ?_ _) | (with_reducible refine Kd.C_drewN ?_ _) | (with_reducible refine Kd.C_drew ?_))); (case side2 => exact HC144_4.out); rintro e w88 ⟨rfl, hb⟩; refine ⟨_, rfl, ?_⟩; have n0_ := Aside0.mk (blk_below (g := gb145) (o := .cells #[.int .i64 ((rd_T33 l0 x12_1).f0), .bool ((rd_T33 l0 x12_1).f1), .string ((rd_T33 l0 x12_1).f2), .string ((rd_T33 l0 x12_1).f3), .slice A144_4 ((rd_T33 l0 x12_1).f4).length c144_4] 33 (0, 0)) (by (with_reducible repeat (first | refine blk_drewN ?_ _ | refine blk_drew ?_ | refine blk_alloc ?_ _)); exact BK145.out) hb); have n1_ := Aside0.mk (below_step (by repeat (first | (with_reducible first | exact HB.out | apply below_alloc | apply pw_below_drewN | apply below_drew1 | refine below_set ?_ GE145.out) | exact HB.out)) hb); clear BK145; clear HB; have BK145 := n0_; have HB := n1_; clear n0_ n1_; (try clear hb); (try clear hb2); (try clear hk); (try clear hi)))
                                    go_roundg kj66
                                    case measure => have := HK1.out; have := HJ40.out; have := HJ58.out; have := HJ66.out; omega
                                    case rel => exact ⟨(wrap64 (x12_1 + 1)), (by first | rfl | (simp; done) | (simp [*]; done)), H', ⟨by have := HK1.out; have := HJ40.out; have := HJ58.out; have := HJ66.out; omega⟩, ⟨by repeat (first | (with_reducible first | exact HB.out | apply below_alloc | apply pw_below_drewN | apply below_drew1 | refine below_set ?_ GE145.out) | exact HB.out)⟩⟩
                                  · replace c86 := Bool.eq_false_iff.mpr c86
                                    subst c86
                                    have H1 : (some false) = some r := by rw [if_neg (show ¬ (false = true) by decide)] at H; exact H
                                    clear H
                                    have H := H1
                                    clear H1
                                    obtain rfl := Option.some.inj H
                                    have hcz89_0 : wc.cell? ⟨gb145, 0, none⟩ = some (.int .i64 ((rd_T33 l0 x12_1).f0)) := (blk_cell BK145.out 0).trans rfl
                                    have hcz89_1 : wc.cell? ⟨gb145, 1, none⟩ = some (.bool ((rd_T33 l0 x12_1).f1)) := (blk_cell BK145.out 1).trans rfl
                                    have hcz89_2 : wc.cell? ⟨gb145, 2, none⟩ = some (.string ((rd_T33 l0 x12_1).f2)) := (blk_cell BK145.out 2).trans rfl
                                    have hcz89_3 : wc.cell? ⟨gb145, 3, none⟩ = some (.string ((rd_T33 l0 x12_1).f3)) := (blk_cell BK145.out 3).trans rfl
                                    have hcz89_4 : wc.cell? ⟨gb145, 4, none⟩ = some (.slice A144_4 ((rd_T33 l0 x12_1).f4).length c144_4) := (blk_cell BK145.out 4).trans rfl
                                    have hfz89_0 := blk_frozen BK145.out 0
                                    have hfz89_1 := blk_frozen BK145.out 1
                                    have hfz89_2 := blk_frozen BK145.out 2
                                    have hfz89_3 := blk_frozen BK145.out 3
                                    have hfz89_4 := blk_frozen BK145.out 4
                                    go_wp2_with (first | ((with_reducible refine gate_callee (f := 24) rfl ?_); refine goesL_ (some 111) rfl rfl Tryd.func24 (by kernel_rfl) rfl #[.slice A144_4 ((rd_T33 l0 x12_1).f4).length c144_4, .int .i64 1, .int .i64 (wrap64 (a2 + 1))] rfl (by (try simp only [List.map_toArray, List.map_cons, List.map_nil]); first | done | rfl | (simp only [List.length_drop, List.length_take]; rfl)) ?_; (with_reducible refine (ih kj66 (by have := HK1.out; have := HJ40.out; have := HJ58.out; have := HJ66.out; omega) _ _ ((rd_T33 l0 x12_1).f4) 1 (wrap64 (a2 + 1)) false _ ?side1 ?side2 A85.out).mono ?_); (case side1 => repeat (first | exact (Kd.C_below HR144_4.out HB.out) | (with_reducible refine Kd.C_alloc ?_ _) | (with_reducible refine Kd.C_drewN ?_ _) | (with_reducible refine Kd.C_drew ?_))); (case side2 => exact HC144_4.out); rintro e w90 ⟨rfl, hb⟩; refine ⟨_, rfl, ?_⟩; have n0_ := Aside0.mk (blk_below (g := gb145) (o := .cells #[.int .i64 ((rd_T33 l0 x12_1).f0), .bool ((rd_T33 l0 x12_1).f1), .string ((rd_T33 l0 x12_1).f2), .string ((rd_T33 l0 x12_1).f3), .slice A144_4 ((rd_T33 l0 x12_1).f4).length c144_4] 33 (0, 0)) (by (with_reducible repeat (first | refine blk_drewN ?_ _ | refine blk_drew ?_ | refine blk_alloc ?_ _)); exact BK145.out) hb); have n1_ := Aside0.mk (below_step (by repeat (first | (with_reducible first | exact HB.out | apply below_alloc | apply pw_below_drewN | apply below_drew1 | refine below_set ?_ GE145.out) | exact HB.out)) hb); clear BK145; clear HB; have BK145 := n0_; have HB := n1_; clear n0_ n1_; (try clear hb); (try clear hb2); (try clear hk); (try clear hi)))
                                    go_ret
                                    exact ⟨by first | rfl | (simp [errW_none, errW_some] <;> rfl) | (simp [*, errW_none, errW_some] <;> rfl), by repeat (first | (with_reducible first | exact HB.out | apply below_alloc | apply pw_below_drewN | apply below_drew1 | refine below_set ?_ GE145.out) | exact HB.out)⟩
          · rw [if_neg c6] at H
            exact absurd H (by simp)
        · rw [if_neg c5] at H
          exact absurd H (by simp)
      · rw [if_neg c4] at H
        have c4b0 : decide (x12_1 < (l0.length : Int)) = false := decide_eq_false c4
        clear c4
        obtain rfl := Option.some.inj H
        go_wp2
        go_ret
        exact ⟨by first | rfl | (simp [errW_none, errW_some] <;> rfl) | (simp [*, errW_none, errW_some] <;> rfl), by repeat (first | (with_reducible first | exact HB.out | apply below_alloc | apply pw_below_drewN | apply below_drew1) | exact HB.out)⟩
end Go.Proofs.YtkecpfjmdokieaaDoor.P
namespace Go.Proofs.YtkecpfjmdokieaaDoor.Word
open Go.RowKit Go.Proofs.YtkecpfjmdokieaaDoorW.PrintWords Go.Proofs.YtkecpfjmdokieaaDoorW.PrintLast Go.Proofs.YtkecpfjmdokieaaDoor.Base Go.Proofs.YtkecpfjmdokieaaDoor.P Go.Proofs.YtkecpfjmdokieaaDoor.NodeOps Go.Proofs.YtkecpfjmdokieaaDoor.Class
set_option linter.unusedVariables false
set_option linter.unusedSimpArgs false
def OPS : List (List UInt8) := [[45], [58, 45], [61], [58, 61], [43], [58, 43], [63], [58, 63]]
def opB (s : ByteArray) : Bool := decide (s.toList ∈ OPS)
def eqOp (s : ByteArray) : Bool := decide (s.toList = [61]) || decide (s.toList = [58, 61])
def nextI (q : Bool) : Int := if q = true then 2 else 1
def parB (sub : Int → List Pt → Bool) (deep : Bool) (at_ : Int) (x : Pt) : Bool :=
  if deep = false then false else if paramB x.f2 = false then false else if at_ = 2 ∧ x.f1 = false then false else if x.f3.size = 0 then decide (x.f4.length = 0) else if opB x.f3 = false then false else if eqOp x.f3 = true ∧ nameB x.f2 = false then false else sub (nextI x.f1) x.f4
def adjB (l : List Pt) (i : Nat) : Bool := decide (0 < i) && (decide ((rd_T33 l ((i : Int) - 1)).f0 = 1) && ((rd_T33 l ((i : Int) - 1)).f1 == (rd_T33 l (i : Int)).f1))
def okI (sub : Int → List Pt → Bool) (deep : Bool) (at_ : Int) (l : List Pt) (i : Nat) : Bool :=
  if (rd_T33 l (i : Int)).f0 = 1 then litB at_ (rd_T33 l (i : Int)) && !adjB l i else if (rd_T33 l (i : Int)).f0 = 2 then parB sub deep at_ (rd_T33 l (i : Int)) else false
def allI (p : Nat → Bool) : Nat → Nat → Bool
  | _, 0 => true
  | i, d + 1 => p i && allI p (i + 1) d
def partsF : Nat → Int → List Pt → Bool
  | 0, at_, l => allI (okI (fun _ _ => false) false at_ l) 0 l.length
  | n + 1, at_, l => allI (okI (partsF n) true at_ l) 0 l.length
theorem partsF_nil (n : Nat) (at_ : Int) : partsF n at_ [] = true := by cases n <;> rfl
theorem op_ev (s : ByteArray) : deadfallref03_Operator.f s = some (opB s) := by
  unfold deadfallref03_Operator.f opB OPS
  generalize s.toList = l
  simp only [List.mem_cons, List.not_mem_nil, or_false]
  repeat' split
  all_goals first
    | (simp_all; done)
    | (simp_all; rw [Bool.eq_iff_iff]; simp)
section
variable (l : List Pt) (at_ deep : Int) (i : Nat) (c : Bool)
abbrev Cont : Nat → Option Bool := fun k => deadfallref03_Parts.l0 k l at_ deep l (l.length : Int) ((i + 1 : Nat) : Int)
theorem j3_ev (hc : Ev (Cont l at_ deep i) c) (hi : i < l.length) (hln : l.length ≤ 1000000) (hdp : wrap64 (deep + 1) = deep + 1) (x : Pt) (s : Bool) (hs : Ev (fun k => deadfallref03_Parts.f k x.f4 (nextI x.f1) (deep + 1)) s) :
    Ev (fun k => deadfallref03_Parts.j3 k l at_ deep l (l.length : Int) (i : Int) false x.f0 x.f1 x.f2 x.f3 x.f4) (s && c) := by
  have hw : wrap64 ((i : Int) + 1) = ((i + 1 : Nat) : Int) := by unfold wrap64; omega
  have e : ∀ k, deadfallref03_Parts.j3 (k + 1) l at_ deep l (l.length : Int) (i : Int) false x.f0 x.f1 x.f2 x.f3 x.f4 = (deadfallref03_Parts.f k x.f4 (nextI x.f1) (deep + 1)).bind fun t => if t = true then Cont l at_ deep i k else some false := by
    intro k
    rw [deadfallref03_Parts.j3, if_neg (by decide), hw, hdp]
    unfold nextI
    cases x.f1 with
    | true => rw [if_pos rfl, if_pos rfl]
    | false => rw [if_neg (by decide), if_neg (by decide)]
  cases s with
  | true =>
    rw [Bool.true_and]
    exact via hs hc fun k hk => by
      show deadfallref03_Parts.j3 (k + 1) l at_ deep l (l.length : Int) (i : Int) false x.f0 x.f1 x.f2 x.f3 x.f4 = _
      rw [e, hk, Option.bind_some, if_pos rfl]
  | false =>
    rw [Bool.false_and]
    exact via hs (r := false) (h' := fun _ => some false) ⟨0, fun _ _ => rfl⟩ fun k hk => by
      show deadfallref03_Parts.j3 (k + 1) l at_ deep l (l.length : Int) (i : Int) false x.f0 x.f1 x.f2 x.f3 x.f4 = _
      rw [e, hk, Option.bind_some, if_neg (by decide)]
theorem j2_ev (hc : Ev (Cont l at_ deep i) c) (hi : i < l.length) (hln : l.length ≤ 1000000) (hdp : wrap64 (deep + 1) = deep + 1) (x : Pt) (hz : x.f2.size ≤ 1000000) (s : Bool) (hs : Ev (fun k => deadfallref03_Parts.f k x.f4 (nextI x.f1) (deep + 1)) s) :
    Ev (fun k => deadfallref03_Parts.j2 k l at_ deep l (l.length : Int) (i : Int) false x.f0 x.f1 x.f2 x.f3 x.f4) ((if eqOp x.f3 = true ∧ nameB x.f2 = false then false else s) && c) := by
  have hN : deadfallref02_Name.f x.f2 = some (nameB x.f2) := by unfold deadfallref02_Name.f; rw [if_pos (by omega)]
  have h3 := j3_ev l at_ deep i c hc hi hln hdp x s hs
  have bad : Ev (fun k => deadfallref03_Parts.j3 k l at_ deep l (l.length : Int) (i : Int) true x.f0 x.f1 x.f2 x.f3 x.f4) false := now fun k => by rw [deadfallref03_Parts.j3, if_pos rfl]
  have key : Ev (fun k => deadfallref03_Parts.j3 k l at_ deep l (l.length : Int) (i : Int) (eqOp x.f3 && !nameB x.f2) x.f0 x.f1 x.f2 x.f3 x.f4) ((if eqOp x.f3 = true ∧ nameB x.f2 = false then false else s) && c) := by
    cases he : eqOp x.f3 <;> cases hn : nameB x.f2
    · simpa using h3
    · simpa using h3
    · simpa using bad
    · simpa using h3
  refine step key fun k => ?_
  rw [deadfallref03_Parts.j2, if_neg (by decide)]
  unfold eqOp
  by_cases h1 : x.f3.toList = [61]
  · rw [if_pos h1, hN, Option.bind_some, decide_eq_true h1]
    simp
  · rw [if_neg h1, decide_eq_false h1]
    by_cases h2 : x.f3.toList = [58, 61]
    · rw [if_pos h2, hN, Option.bind_some, decide_eq_true h2]
      simp
    · rw [if_neg h2, decide_eq_false h2]
      simp
theorem j1_ev (hc : Ev (Cont l at_ deep i) c) (hi : i < l.length) (hln : l.length ≤ 1000000) (hdp : wrap64 (deep + 1) = deep + 1) (x : Pt) (hz : x.f2.size ≤ 1000000) (s : Bool) (hs : Ev (fun k => deadfallref03_Parts.f k x.f4 (nextI x.f1) (deep + 1)) s) (hs0 : x.f4 = [] → s = true) :
    Ev (fun k => deadfallref03_Parts.j1 k l at_ deep l (l.length : Int) (i : Int) false x.f0 x.f1 x.f2 x.f3 x.f4) ((if x.f3.size = 0 then decide (x.f4.length = 0) else if opB x.f3 = false then false else if eqOp x.f3 = true ∧ nameB x.f2 = false then false else s) && c) := by
  have h2 := j2_ev l at_ deep i c hc hi hln hdp x hz s hs
  have bad : Ev (fun k => deadfallref03_Parts.j2 k l at_ deep l (l.length : Int) (i : Int) true x.f0 x.f1 x.f2 x.f3 x.f4) false := now fun k => by rw [deadfallref03_Parts.j2, if_pos rfl]
  by_cases h3 : x.f3.size = 0
  · have hl := (toList_nil x.f3).2 h3
    rw [if_pos h3]
    by_cases h4 : x.f4.length = 0
    · have hnil : x.f4 = [] := List.length_eq_zero_iff.1 h4
      have he : eqOp x.f3 = false := by unfold eqOp; rw [hl]; rfl
      rw [he, hs0 hnil, if_neg (by simp)] at h2
      rw [decide_eq_true h4]
      refine step h2 fun k => ?_
      rw [deadfallref03_Parts.j1, if_neg (by decide), if_pos hl, if_neg (by omega)]
    · rw [decide_eq_false h4, Bool.false_and]
      refine step bad fun k => ?_
      rw [deadfallref03_Parts.j1, if_neg (by decide), if_pos hl, if_pos (by omega)]
  · rw [if_neg h3]
    cases ho : opB x.f3 with
    | false =>
      rw [if_pos rfl, Bool.false_and]
      refine step bad fun k => ?_
      rw [deadfallref03_Parts.j1, if_neg (by decide), if_neg (fun e => h3 ((toList_nil _).1 e)), op_ev, Option.bind_some, ho]
      rfl
    | true =>
      rw [if_neg (by decide)]
      refine step h2 fun k => ?_
      rw [deadfallref03_Parts.j1, if_neg (by decide), if_neg (fun e => h3 ((toList_nil _).1 e)), op_ev, Option.bind_some, ho]
      rfl
theorem el_ev (hc : Ev (Cont l at_ deep i) c) (hi : i < l.length) (hln : l.length ≤ 1000000) (ha : at_ = 0 ∨ at_ = 1 ∨ at_ = 2) (hd0 : 0 ≤ deep) (hd1 : deep ≤ 201) (hz : (rd_T33 l (i : Int)).f2.size ≤ 1000000) (sub : Int → List Pt → Bool)
    (hs : deep ≤ 200 → Ev (fun k => deadfallref03_Parts.f k (rd_T33 l (i : Int)).f4 (nextI (rd_T33 l (i : Int)).f1) (deep + 1)) (sub (nextI (rd_T33 l (i : Int)).f1) (rd_T33 l (i : Int)).f4)) (hs0 : deep ≤ 200 → ∀ q, sub q [] = true) :
    Ev (fun k => deadfallref03_Parts.l0 k l at_ deep l (l.length : Int) (i : Int)) (okI sub (decide (deep ≤ 200)) at_ l i && c) := by
  have hw : wrap64 ((i : Int) + 1) = ((i + 1 : Nat) : Int) := by unfold wrap64; omega
  have hwm : wrap64 ((i : Int) - 1) = (i : Int) - 1 := by unfold wrap64; omega
  have hdp : wrap64 (deep + 1) = deep + 1 := by unfold wrap64; omega
  unfold okI
  by_cases h1 : (rd_T33 l (i : Int)).f0 = 1
  · rw [if_pos h1]
    have ht := text_ev at_ ha (rd_T33 l (i : Int)) hz
    have e0 : ∀ k b, deadfallref03_text.f k (rd_T33 l (i : Int)).f0 (rd_T33 l (i : Int)).f1 (rd_T33 l (i : Int)).f2 (rd_T33 l (i : Int)).f3 (rd_T33 l (i : Int)).f4 at_ = some b → deadfallref03_Parts.l0 (k + 1) l at_ deep l (l.length : Int) (i : Int) = if b = true then (if adjB l i = true then some false else Cont l at_ deep i k) else some false := by
      intro k b hk
      rw [deadfallref03_Parts.l0, if_pos (by omega), if_pos (by omega), if_pos (by omega), if_pos h1, hk, Option.bind_some, hw, hwm]
      cases b with
      | false => rfl
      | true =>
        rw [if_pos rfl, if_pos rfl]
        unfold adjB
        by_cases h0 : 0 < i
        · rw [if_pos (by omega), if_pos (by omega), if_pos (by omega), decide_eq_true h0, Bool.true_and]
          by_cases hp : (rd_T33 l ((i : Int) - 1)).f0 = 1
          · rw [if_pos hp, decide_eq_true hp, Bool.true_and]
          · rw [if_neg hp, decide_eq_false hp, Bool.false_and]
            rfl
        · rw [if_neg (by omega), decide_eq_false h0, Bool.false_and]
          rfl
    cases hb : litB at_ (rd_T33 l (i : Int)) with
    | false =>
      rw [hb] at ht
      exact via ht (r := _) (h' := fun _ => some false) (by simp; exact ⟨0, fun _ _ => rfl⟩) fun k hk => by
        show deadfallref03_Parts.l0 (k + 1) l at_ deep l (l.length : Int) (i : Int) = _
        rw [e0 k _ hk, if_neg (by decide)]
    | true =>
      rw [hb] at ht
      cases had : adjB l i with
      | true =>
        exact via ht (r := _) (h' := fun _ => some false) (by simp; exact ⟨0, fun _ _ => rfl⟩) fun k hk => by
          show deadfallref03_Parts.l0 (k + 1) l at_ deep l (l.length : Int) (i : Int) = _
          rw [e0 k _ hk, if_pos rfl, had, if_pos rfl]
      | false =>
        exact via ht (by simpa using hc) fun k hk => by
          show deadfallref03_Parts.l0 (k + 1) l at_ deep l (l.length : Int) (i : Int) = _
          rw [e0 k _ hk, if_pos rfl, had, if_neg (by decide)]
  · rw [if_neg h1]
    have bad : Ev (fun k => deadfallref03_Parts.j1 k l at_ deep l (l.length : Int) (i : Int) true (rd_T33 l (i : Int)).f0 (rd_T33 l (i : Int)).f1 (rd_T33 l (i : Int)).f2 (rd_T33 l (i : Int)).f3 (rd_T33 l (i : Int)).f4) false := now fun k => by rw [deadfallref03_Parts.j1, if_pos rfl]
    by_cases h2 : (rd_T33 l (i : Int)).f0 = 2
    · rw [if_pos h2]
      unfold parB
      by_cases hdd : deep ≤ 200
      · rw [decide_eq_true hdd, if_neg (by decide)]
        have hP : deadfallref02_Param.f (rd_T33 l (i : Int)).f2 = some (paramB (rd_T33 l (i : Int)).f2) := by unfold deadfallref02_Param.f; rw [if_pos (by omega)]
        have h3 := j1_ev l at_ deep i c hc hi hln hdp (rd_T33 l (i : Int)) hz _ (hs hdd) (fun e => by rw [e]; exact hs0 hdd _)
        cases hpb : paramB (rd_T33 l (i : Int)).f2 with
        | false =>
          rw [if_pos rfl, Bool.false_and]
          refine step bad fun k => ?_
          rw [deadfallref03_Parts.l0, if_pos (by omega), if_pos (by omega), if_pos (by omega), if_neg h1, if_pos h2, if_neg (by omega), hP, Option.bind_some, hpb]
          rfl
        | true =>
          rw [if_neg (by decide)]
          by_cases hq : at_ = 2 ∧ (rd_T33 l (i : Int)).f1 = false
          · rw [if_pos hq, Bool.false_and]
            refine step bad fun k => ?_
            rw [deadfallref03_Parts.l0, if_pos (by omega), if_pos (by omega), if_pos (by omega), if_neg h1, if_pos h2, if_neg (by omega), hP, Option.bind_some, hpb, if_pos rfl, if_pos hq.1, hq.2]
            rfl
          · rw [if_neg hq]
            refine step h3 fun k => ?_
            rw [deadfallref03_Parts.l0, if_pos (by omega), if_pos (by omega), if_pos (by omega), if_neg h1, if_pos h2, if_neg (by omega), hP, Option.bind_some, hpb, if_pos rfl]
            by_cases h22 : at_ = 2
            · have hq1 : (rd_T33 l (i : Int)).f1 = true := by
                cases hx : (rd_T33 l (i : Int)).f1 with
                | true => rfl
                | false => exact absurd ⟨h22, hx⟩ hq
              rw [if_pos h22, hq1]
              rfl
            · rw [if_neg h22]
      · rw [decide_eq_false hdd, if_pos rfl, Bool.false_and]
        refine step bad fun k => ?_
        rw [deadfallref03_Parts.l0, if_pos (by omega), if_pos (by omega), if_pos (by omega), if_neg h1, if_pos h2, if_pos (by omega)]
    · rw [if_neg h2, Bool.false_and]
      refine step bad fun k => ?_
      rw [deadfallref03_Parts.l0, if_pos (by omega), if_pos (by omega), if_pos (by omega), if_neg h1, if_neg h2]
end
theorem wt_in {l : List Pt} {x : Pt} (h : x ∈ l) : 1 + x.f2.size + x.f3.size + wt x.f4 ≤ wt l := by
  induction l with
  | nil => cases h
  | cons y l ih =>
    rw [wt_cons]
    rcases List.mem_cons.1 h with rfl | h
    · omega
    · have := ih h
      omega
theorem wt_len : ∀ l : List Pt, l.length ≤ wt l
  | [] => Nat.zero_le _
  | x :: l => by
    rw [wt_cons, List.length_cons]
    have := wt_len l
    omega
theorem rparts_ev : ∀ (n : Nat), n ≤ 201 → ∀ (l : List Pt) (at_ : Int), at_ = 0 ∨ at_ = 1 ∨ at_ = 2 → wt l ≤ 1000000 → Ev (fun k => deadfallref03_Parts.f k l at_ (201 - (n : Int))) (partsF n at_ l) := by
  have all : ∀ (l : List Pt) (at_ deep : Int) (ok : Nat → Bool), l.length ≤ 1000000 → (∀ i, i < l.length → ∀ c, Ev (Cont l at_ deep i) c → Ev (fun k => deadfallref03_Parts.l0 k l at_ deep l (l.length : Int) (i : Int)) (ok i && c)) → ∀ (d i : Nat), l.length - i = d → i ≤ l.length → Ev (fun k => deadfallref03_Parts.l0 k l at_ deep l (l.length : Int) (i : Int)) (allI ok i d) := by
    intro l at_ deep ok hln hel d
    induction d with
    | zero =>
      intro i hd hi
      refine now fun k => ?_
      rw [deadfallref03_Parts.l0, if_neg (by omega)]
      rfl
    | succ d ih =>
      intro i hd hi
      exact hel i (by omega) _ (ih (i + 1) (by omega) (by omega))
  intro n
  induction n with
  | zero =>
    intro _ l at_ ha hw
    have hln := wt_len l
    refine step (all l at_ (201 - ((0 : Nat) : Int)) (okI (fun _ _ => false) false at_ l) (by omega) (fun i hi c hc => ?_) l.length 0 (by omega) (Nat.zero_le _)) fun k => by rw [deadfallref03_Parts.f]; rfl
    have hm : rd_T33 l (i : Int) ∈ l := by rw [rd_in l i hi]; exact List.getElem_mem hi
    have := wt_in hm
    have h := el_ev l at_ (201 - ((0 : Nat) : Int)) i c hc hi (by omega) ha (by omega) (by omega) (by omega) (fun _ _ => false) (fun h => absurd h (by omega)) (fun h => absurd h (by omega))
    rw [decide_eq_false (by omega)] at h
    exact h
  | succ n ih =>
    intro hn l at_ ha hw
    have hln := wt_len l
    refine step (all l at_ (201 - ((n + 1 : Nat) : Int)) (okI (partsF n) true at_ l) (by omega) (fun i hi c hc => ?_) l.length 0 (by omega) (Nat.zero_le _)) fun k => by rw [deadfallref03_Parts.f]; rfl
    have hm : rd_T33 l (i : Int) ∈ l := by rw [rd_in l i hi]; exact List.getElem_mem hi
    have hwi := wt_in hm
    have hnx : ∀ q, nextI q = 0 ∨ nextI q = 1 ∨ nextI q = 2 := fun q => by cases q <;> simp [nextI]
    have h := el_ev l at_ (201 - ((n + 1 : Nat) : Int)) i c hc hi (by omega) ha (by omega) (by omega) (by omega) (partsF n) (fun _ => by
      rw [show (201 - ((n + 1 : Nat) : Int)) + 1 = 201 - (n : Int) by omega]
      exact ih (by omega) _ _ (hnx _) (by omega)) (fun _ q => partsF_nil n q)
    rw [decide_eq_true (by omega)] at h
    exact h
end Go.Proofs.YtkecpfjmdokieaaDoor.Word
