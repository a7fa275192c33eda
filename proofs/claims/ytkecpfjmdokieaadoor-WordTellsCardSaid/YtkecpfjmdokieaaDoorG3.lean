/- texts of this claim, one behind the other: P8 WordLit P9 -/
import Derived.Test.YtkecpfjmdokieaaDoorG2
namespace Go.Proofs.YtkecpfjmdokieaaDoor.P
open Go.RowKit Go.Proofs.YtkecpfjmdokieaaDoorW.PrintWords Go.Proofs.YtkecpfjmdokieaaDoorW.PrintLast Go.Proofs.YtkecpfjmdokieaaDoorW.PrintMore
attribute [local go_sem] max2_int min2_int max_two min_two max_three min_three max_four min_four   -- for this text's walks alone
set_option linter.unusedVariables false
set_option linter.unusedSimpArgs false
mutual
def deadfallref03_text.j0 : Nat → Int → Bool → Int → Bool → ByteArray → ByteArray → List (S33) → Option (Bool)
  | 0, _, _, _, _, _, _, _ => none
  | k + 1, x1, x14, x140000, x140001, x140002, x140003, x140004 => if x14 = true then (some false) else (if x1 = 2 then (if x140001 = true then (some (decide ((x140002.size : Int) > 0))) else (some false)) else (if x140001 = true then (some true) else (deadfallref03_text.l0 k x1 0 x140000 x140001 x140002 x140003 x140004)))
def deadfallref03_text.l0 : Nat → Int → Int → Int → Bool → ByteArray → ByteArray → List (S33) → Option (Bool)
  | 0, _, _, _, _, _, _, _ => none
  | k + 1, x1, x5, x140000, x140001, x140002, x140003, x140004 => if x5 < (x140002.size : Int) then (if x1 = 0 then (if 0 ≤ x5 then ((deadfallref02_Bare.f (bt x140002 x5)).bind fun t140 => (if t140 = true then (if x1 = 1 then ((deadfallref03_among.f k (bt x140002 x5) (⟨#[34, 36, 39, 92, 96, 125]⟩ : ByteArray)).bind fun t141 => (if t141 = true then (some false) else (deadfallref03_text.l0 k x1 (wrap64 (x5 + 1)) x140000 x140001 x140002 x140003 x140004))) else (deadfallref03_text.l0 k x1 (wrap64 (x5 + 1)) x140000 x140001 x140002 x140003 x140004)) else (some false))) else (none)) else (if x1 = 1 then (if 0 ≤ x5 then ((deadfallref03_among.f k (bt x140002 x5) (⟨#[34, 36, 39, 92, 96, 125]⟩ : ByteArray)).bind fun t142 => (if t142 = true then (some false) else (deadfallref03_text.l0 k x1 (wrap64 (x5 + 1)) x140000 x140001 x140002 x140003 x140004))) else (none)) else (deadfallref03_text.l0 k x1 (wrap64 (x5 + 1)) x140000 x140001 x140002 x140003 x140004))) else (some (decide ((x140002.size : Int) > 0)))
end
def deadfallref03_text.f (k : Nat) (a0_0 : Int) (a0_1 : Bool) (a0_2 : ByteArray) (a0_3 : ByteArray) (l0_4 : List (S33)) (a1 : Int) : Option (Bool) := if a0_3.toList = ([] : List UInt8) then (deadfallref03_text.j0 k a1 (decide ((l0_4.length : Int) > 0)) a0_0 a0_1 a0_2 a0_3 l0_4) else (deadfallref03_text.j0 k a1 true a0_0 a0_1 a0_2 a0_3 l0_4)
set_option maxHeartbeats 8000000 in
set_option maxRecDepth 100000 in
theorem deadfallref03_text.calls (k : Nat) (a0_0 : Int) (a0_1 : Bool) (a0_2 : ByteArray) (a0_3 : ByteArray) (A0_4 : Option Addr) (c0_4 : Nat) (l0_4 : List (S33)) (a1 : Int) (r : Bool) (w : World) (hr0_4 : Kd.C k33 w A0_4 l0_4.length l0_4) (hc0_4 : l0_4.length ≤ c0_4) (h : deadfallref03_text.f k a0_0 a0_1 a0_2 a0_3 l0_4 a1 = some r) :
    Calls Tryd.prog 37 #[.agg #[.int .i64 a0_0, .bool a0_1, .string a0_2, .string a0_3, .slice A0_4 l0_4.length c0_4], .int .i64 a1] w fun e w' => e = .returned (.bool r) ∧ Below w.heap.size w w' := by
  have hu33 := Tryd.underlying33
  have HR0_4 := Aside0.mk hr0_4
  have HC0_4 := Aside0.mk hc0_4
  clear hr0_4 hc0_4
  have HB := Aside0.mk (Below.refl w.heap.size w)
  have H : (if a0_3.toList = ([] : List UInt8) then (deadfallref03_text.j0 k a1 (decide ((l0_4.length : Int) > 0)) a0_0 a0_1 a0_2 a0_3 l0_4) else (deadfallref03_text.j0 k a1 true a0_0 a0_1 a0_2 a0_3 l0_4)) = some r := h
  clear h
  have HC3 := Aside0.mk H
  clear H
  go_enter Tryd.func37, Tryd.ntmps37
  go_upto_region 1 with (first | ((with_reducible refine gate_dst (N := 2) rfl ?_); (try (refine gate_guard (by rfl) ?_; dsimp only)); refine box_event ?hg (N := 2) ?hd (cs := #[.int .i64 a0_0, .bool a0_1, .string a0_2, .string a0_3, .slice A0_4 l0_4.length c0_4]) (t := 33) ?hr ?_; (case hd => rfl); (case hg => rfl); (case hr => first | (go_simp; done) | (go_simp; rfl)); intro gb139 hg w4 hbox hb; have n0_ := Aside0.mk (below_step (by repeat (first | (with_reducible first | exact HB.out | apply below_alloc | apply pw_below_drewN | apply below_drew1) | exact HB.out)) hb); have n1_ := Aside0.mk (hbox); have n2_ := Aside0.mk ((by rw [hg]; exact (below_size (by repeat (first | (with_reducible first | exact HB.out | apply below_alloc | apply pw_below_drewN | apply below_drew1) | exact HB.out))) : w.heap.size ≤ gb139)); have n3_ := Aside0.mk ((by rw [hg]; exact (below_size (by repeat (first | (with_reducible first | exact HB.out | apply below_alloc | apply pw_below_drewN | apply below_drew1) | exact HB.out))) : w.heap.size ≤ gb139)); clear HB; have HB := n0_; have BK139 := n1_; have GW139 := n2_; have GE139 := n3_; clear n0_ n1_ n2_ n3_; clear hb hbox hg))
  (try simp only [Act.put, List.setIfInBounds_toArray, List.set_cons_zero, List.set_cons_succ])
  go_cut [14] (fun v14 wc => ∃ (kq : Nat) (x14_2 : Bool), v14 = .bool x14_2 ∧ Aside0 (deadfallref03_text.j0 kq a1 x14_2 a0_0 a0_1 a0_2 a0_3 l0_4 = some r) ∧ Aside0 (kq ≤ k) ∧ Aside0 (wc.heap[gb139]? = some (.cells #[.int .i64 a0_0, .bool a0_1, .string a0_2, .string a0_3, (.slice A0_4 l0_4.length c0_4)] 33 (0, 0))) ∧ Aside0 (Below w.heap.size w wc))
  case first =>
    have H := HC3.out
    clear HC3
    by_cases c5 : a0_3.toList = ([] : List UInt8)
    · rw [if_pos c5] at H
      have c5b0 : (a0_3.toList == ([] : List UInt8)) = true := beq_iff_eq.mpr c5
      have c5b1 : (a0_3.toList != ([] : List UInt8)) = false := bne_eq_false_iff_eq.mpr c5
      clear c5
      (first | rw [c5b0] | (simp only [i64_w, i32_w]; rw [c5b0]) | skip)
      have H' := Aside0.mk H
      clear H
      have hcz6_0 : w4.cell? ⟨gb139, 0, none⟩ = some (.int .i64 a0_0) := (blk_cell BK139.out 0).trans rfl
      have hcz6_1 : w4.cell? ⟨gb139, 1, none⟩ = some (.bool a0_1) := (blk_cell BK139.out 1).trans rfl
      have hcz6_2 : w4.cell? ⟨gb139, 2, none⟩ = some (.string a0_2) := (blk_cell BK139.out 2).trans rfl
      have hcz6_3 : w4.cell? ⟨gb139, 3, none⟩ = some (.string a0_3) := (blk_cell BK139.out 3).trans rfl
      have hcz6_4 : w4.cell? ⟨gb139, 4, none⟩ = some (.slice A0_4 l0_4.length c0_4) := (blk_cell BK139.out 4).trans rfl
      have hfz6_0 := blk_frozen BK139.out 0
      have hfz6_1 := blk_frozen BK139.out 1
      have hfz6_2 := blk_frozen BK139.out 2
      have hfz6_3 := blk_frozen BK139.out 3
      have hfz6_4 := blk_frozen BK139.out 4
      go_wp2
      go_meet
      case rel => exact ⟨_, (decide ((l0_4.length : Int) > 0)), (by first | rfl | (simp; done) | (simp [*]; done)), H', ⟨by first | omega | exact Nat.le_refl _⟩, ⟨by (with_reducible repeat (first | refine blk_drewN ?_ _ | refine blk_drew ?_ | refine blk_alloc ?_ _)); exact BK139.out⟩, ⟨by repeat (first | (with_reducible first | exact HB.out | apply below_alloc | apply pw_below_drewN | apply below_drew1 | refine below_set ?_ GE139.out) | exact HB.out)⟩⟩
    · rw [if_neg c5] at H
      have c5b0 : (a0_3.toList == ([] : List UInt8)) = false := beq_eq_false_iff_ne.mpr c5
      have c5b1 : (a0_3.toList != ([] : List UInt8)) = true := bne_iff_ne.mpr c5
      (first | rw [c5b0] | (simp only [i64_w, i32_w]; rw [c5b0]) | skip)
      have H' := Aside0.mk H
      clear H
      have hcz7_0 : w4.cell? ⟨gb139, 0, none⟩ = some (.int .i64 a0_0) := (blk_cell BK139.out 0).trans rfl
      have hcz7_1 : w4.cell? ⟨gb139, 1, none⟩ = some (.bool a0_1) := (blk_cell BK139.out 1).trans rfl
      have hcz7_2 : w4.cell? ⟨gb139, 2, none⟩ = some (.string a0_2) := (blk_cell BK139.out 2).trans rfl
      have hcz7_3 : w4.cell? ⟨gb139, 3, none⟩ = some (.string a0_3) := (blk_cell BK139.out 3).trans rfl
      have hcz7_4 : w4.cell? ⟨gb139, 4, none⟩ = some (.slice A0_4 l0_4.length c0_4) := (blk_cell BK139.out 4).trans rfl
      have hfz7_0 := blk_frozen BK139.out 0
      have hfz7_1 := blk_frozen BK139.out 1
      have hfz7_2 := blk_frozen BK139.out 2
      have hfz7_3 := blk_frozen BK139.out 3
      have hfz7_4 := blk_frozen BK139.out 4
      go_wp2
      go_meet
      case rel => exact ⟨_, (true), (by first | rfl | (simp; done) | (simp [*]; done)), H', ⟨by first | omega | exact Nat.le_refl _⟩, ⟨by (with_reducible repeat (first | refine blk_drewN ?_ _ | refine blk_drew ?_ | refine blk_alloc ?_ _)); exact BK139.out⟩, ⟨by repeat (first | (with_reducible first | exact HB.out | apply below_alloc | apply pw_below_drewN | apply below_drew1 | refine below_set ?_ GE139.out) | exact HB.out)⟩⟩
  case rest =>
    clear HC3
    try clear p2
    try clear c3
    try clear c5
    try clear c5b0
    try clear c5b1
    try clear hcz6_0
    try clear hcz6_1
    try clear hcz6_2
    try clear hcz6_3
    try clear hcz6_4
    try clear hcz7_0
    try clear hcz7_1
    try clear hcz7_2
    try clear hcz7_3
    try clear hcz7_4
    try clear hfz6_0
    try clear hfz6_1
    try clear hfz6_2
    try clear hfz6_3
    try clear hfz6_4
    try clear hfz7_0
    try clear hfz7_1
    try clear hfz7_2
    try clear hfz7_3
    try clear hfz7_4
    obtain ⟨kq, x14_2, rfl, HA, HJ2, BK139, HB⟩ := hcut
    cases kq with
    | zero => exact absurd HA.out (by simp [deadfallref03_text.j0])
    | succ kj2 =>
      have H := HA.out
      clear HA
      simp only [deadfallref03_text.j0] at H
      by_cases c8 : x14_2 = true
      · subst c8
        have H1 : (some false) = some r := by rw [if_pos rfl] at H; exact H
        clear H
        have H := H1
        clear H1
        obtain rfl := Option.some.inj H
        go_wp2
        go_ret
        exact ⟨by first | rfl | (simp [errW_none, errW_some] <;> rfl) | (simp [*, errW_none, errW_some] <;> rfl), by repeat (first | (with_reducible first | exact HB.out | apply below_alloc | apply pw_below_drewN | apply below_drew1 | refine below_set ?_ GE139.out) | exact HB.out)⟩
      · replace c8 := Bool.eq_false_iff.mpr c8
        subst c8
        have H1 : (if a1 = 2 then (if a0_1 = true then (some (decide ((a0_2.size : Int) > 0))) else (some false)) else (if a0_1 = true then (some true) else (deadfallref03_text.l0 kj2 a1 0 a0_0 a0_1 a0_2 a0_3 l0_4))) = some r := by rw [if_neg (show ¬ (false = true) by decide)] at H; exact H
        clear H
        have H := H1
        clear H1
        by_cases c9 : a1 = 2
        · rw [if_pos c9] at H
          have c9b0 : (a1 == 2) = true := beq_iff_eq.mpr c9
          have c9b1 : (a1 != 2) = false := bne_eq_false_iff_eq.mpr c9
          clear c9
          by_cases c10 : a0_1 = true
          · subst c10
            have H1 : (some (decide ((a0_2.size : Int) > 0))) = some r := by rw [if_pos rfl] at H; exact H
            clear H
            have H := H1
            clear H1
            obtain rfl := Option.some.inj H
            have hcz11_0 : wc.cell? ⟨gb139, 0, none⟩ = some (.int .i64 a0_0) := (blk_cell BK139.out 0).trans rfl
            have hcz11_1 : wc.cell? ⟨gb139, 1, none⟩ = some (.bool true) := (blk_cell BK139.out 1).trans rfl
            have hcz11_2 : wc.cell? ⟨gb139, 2, none⟩ = some (.string a0_2) := (blk_cell BK139.out 2).trans rfl
            have hcz11_3 : wc.cell? ⟨gb139, 3, none⟩ = some (.string a0_3) := (blk_cell BK139.out 3).trans rfl
            have hcz11_4 : wc.cell? ⟨gb139, 4, none⟩ = some (.slice A0_4 l0_4.length c0_4) := (blk_cell BK139.out 4).trans rfl
            have hfz11_0 := blk_frozen BK139.out 0
            have hfz11_1 := blk_frozen BK139.out 1
            have hfz11_2 := blk_frozen BK139.out 2
            have hfz11_3 := blk_frozen BK139.out 3
            have hfz11_4 := blk_frozen BK139.out 4
            go_wp2
            go_ret
            exact ⟨by first | rfl | (simp [errW_none, errW_some] <;> rfl) | (simp [*, errW_none, errW_some] <;> rfl), by repeat (first | (with_reducible first | exact HB.out | apply below_alloc | apply pw_below_drewN | apply below_drew1 | refine below_set ?_ GE139.out) | exact HB.out)⟩
          · replace c10 := Bool.eq_false_iff.mpr c10
            subst c10
            have H1 : (some false) = some r := by rw [if_neg (show ¬ (false = true) by decide)] at H; exact H
            clear H
            have H := H1
            clear H1
            obtain rfl := Option.some.inj H
            have hcz12_0 : wc.cell? ⟨gb139, 0, none⟩ = some (.int .i64 a0_0) := (blk_cell BK139.out 0).trans rfl
            have hcz12_1 : wc.cell? ⟨gb139, 1, none⟩ = some (.bool false) := (blk_cell BK139.out 1).trans rfl
            have hcz12_2 : wc.cell? ⟨gb139, 2, none⟩ = some (.string a0_2) := (blk_cell BK139.out 2).trans rfl
            have hcz12_3 : wc.cell? ⟨gb139, 3, none⟩ = some (.string a0_3) := (blk_cell BK139.out 3).trans rfl
            have hcz12_4 : wc.cell? ⟨gb139, 4, none⟩ = some (.slice A0_4 l0_4.length c0_4) := (blk_cell BK139.out 4).trans rfl
            have hfz12_0 := blk_frozen BK139.out 0
            have hfz12_1 := blk_frozen BK139.out 1
            have hfz12_2 := blk_frozen BK139.out 2
            have hfz12_3 := blk_frozen BK139.out 3
            have hfz12_4 := blk_frozen BK139.out 4
            go_wp2
            go_ret
            exact ⟨by first | rfl | (simp [errW_none, errW_some] <;> rfl) | (simp [*, errW_none, errW_some] <;> rfl), by repeat (first | (with_reducible first | exact HB.out | apply below_alloc | apply pw_below_drewN | apply below_drew1 | refine below_set ?_ GE139.out) | exact HB.out)⟩
        · rw [if_neg c9] at H
          have c9b0 : (a1 == 2) = false := beq_eq_false_iff_ne.mpr c9
          have c9b1 : (a1 != 2) = true := bne_iff_ne.mpr c9
          by_cases c13 : a0_1 = true
          · subst c13
            have H1 : (some true) = some r := by rw [if_pos rfl] at H; exact H
            clear H
            have H := H1
            clear H1
            obtain rfl := Option.some.inj H
            have hcz14_0 : wc.cell? ⟨gb139, 0, none⟩ = some (.int .i64 a0_0) := (blk_cell BK139.out 0).trans rfl
            have hcz14_1 : wc.cell? ⟨gb139, 1, none⟩ = some (.bool true) := (blk_cell BK139.out 1).trans rfl
            have hcz14_2 : wc.cell? ⟨gb139, 2, none⟩ = some (.string a0_2) := (blk_cell BK139.out 2).trans rfl
            have hcz14_3 : wc.cell? ⟨gb139, 3, none⟩ = some (.string a0_3) := (blk_cell BK139.out 3).trans rfl
            have hcz14_4 : wc.cell? ⟨gb139, 4, none⟩ = some (.slice A0_4 l0_4.length c0_4) := (blk_cell BK139.out 4).trans rfl
            have hfz14_0 := blk_frozen BK139.out 0
            have hfz14_1 := blk_frozen BK139.out 1
            have hfz14_2 := blk_frozen BK139.out 2
            have hfz14_3 := blk_frozen BK139.out 3
            have hfz14_4 := blk_frozen BK139.out 4
            go_wp2
            go_ret
            exact ⟨by first | rfl | (simp [errW_none, errW_some] <;> rfl) | (simp [*, errW_none, errW_some] <;> rfl), by repeat (first | (with_reducible first | exact HB.out | apply below_alloc | apply pw_below_drewN | apply below_drew1 | refine below_set ?_ GE139.out) | exact HB.out)⟩
          · replace c13 := Bool.eq_false_iff.mpr c13
            subst c13
            have H1 : (deadfallref03_text.l0 kj2 a1 0 a0_0 false a0_2 a0_3 l0_4) = some r := by rw [if_neg (show ¬ (false = true) by decide)] at H; exact H
            clear H
            have H := H1
            clear H1
            have H' := Aside0.mk H
            clear H
            have hcz15_0 : wc.cell? ⟨gb139, 0, none⟩ = some (.int .i64 a0_0) := (blk_cell BK139.out 0).trans rfl
            have hcz15_1 : wc.cell? ⟨gb139, 1, none⟩ = some (.bool false) := (blk_cell BK139.out 1).trans rfl
            have hcz15_2 : wc.cell? ⟨gb139, 2, none⟩ = some (.string a0_2) := (blk_cell BK139.out 2).trans rfl
            have hcz15_3 : wc.cell? ⟨gb139, 3, none⟩ = some (.string a0_3) := (blk_cell BK139.out 3).trans rfl
            have hcz15_4 : wc.cell? ⟨gb139, 4, none⟩ = some (.slice A0_4 l0_4.length c0_4) := (blk_cell BK139.out 4).trans rfl
            have hfz15_0 := blk_frozen BK139.out 0
            have hfz15_1 := blk_frozen BK139.out 1
            have hfz15_2 := blk_frozen BK139.out 2
            have hfz15_3 := blk_frozen BK139.out 3
            have hfz15_4 := blk_frozen BK139.out 4
            go_wp2
            go_loopg [5] kj2 (fun kq v5 w' => ∃ (x5_2 : Int), v5 = .int .i64 x5_2 ∧ Aside0 (deadfallref03_text.l0 kq a1 x5_2 a0_0 false a0_2 a0_3 l0_4 = some r) ∧ Aside0 (kq ≤ kj2) ∧ Aside0 (w'.heap[gb139]? = some (.cells #[.int .i64 a0_0, .bool false, .string a0_2, .string a0_3, (.slice A0_4 l0_4.length c0_4)] 33 (0, 0))) ∧ Aside0 (Below w.heap.size w w'))
            case atStart => exact ⟨(0), (by first | rfl | (simp; done) | (simp [*]; done)), H', ⟨Nat.le_refl _⟩, ⟨by (with_reducible repeat (first | refine blk_drewN ?_ _ | refine blk_drew ?_ | refine blk_alloc ?_ _)); exact BK139.out⟩, ⟨by repeat (first | (with_reducible first | exact HB.out | apply below_alloc | apply pw_below_drewN | apply below_drew1 | refine below_set ?_ GE139.out) | exact HB.out)⟩⟩
            case round =>
              clear H'
              try clear c1
              try clear p2
              try clear c3
              try clear c5
              try clear c5b0
              try clear c5b1
              try clear c8
              try clear c9
              try clear c9b0
              try clear c9b1
              try clear c10
              try clear c13
              try clear hcz11_0
              try clear hcz11_1
              try clear hcz11_2
              try clear hcz11_3
              try clear hcz11_4
              try clear hcz12_0
              try clear hcz12_1
              try clear hcz12_2
              try clear hcz12_3
              try clear hcz12_4
              try clear hcz14_0
              try clear hcz14_1
              try clear hcz14_2
              try clear hcz14_3
              try clear hcz14_4
              try clear hcz15_0
              try clear hcz15_1
              try clear hcz15_2
              try clear hcz15_3
              try clear hcz15_4
              try clear hcz6_0
              try clear hcz6_1
              try clear hcz6_2
              try clear hcz6_3
              try clear hcz6_4
              try clear hcz7_0
              try clear hcz7_1
              try clear hcz7_2
              try clear hcz7_3
              try clear hcz7_4
              try clear hfz11_0
              try clear hfz11_1
              try clear hfz11_2
              try clear hfz11_3
              try clear hfz11_4
              try clear hfz12_0
              try clear hfz12_1
              try clear hfz12_2
              try clear hfz12_3
              try clear hfz12_4
              try clear hfz14_0
              try clear hfz14_1
              try clear hfz14_2
              try clear hfz14_3
              try clear hfz14_4
              try clear hfz15_0
              try clear hfz15_1
              try clear hfz15_2
              try clear hfz15_3
              try clear hfz15_4
              try clear hfz6_0
              try clear hfz6_1
              try clear hfz6_2
              try clear hfz6_3
              try clear hfz6_4
              try clear hfz7_0
              try clear hfz7_1
              try clear hfz7_2
              try clear hfz7_3
              try clear hfz7_4
              try clear p2
              obtain ⟨x5_2, rfl, HA, HK2, BK139, HB⟩ := hrel
              cases gk with
              | zero => exact absurd HA.out (by simp [deadfallref03_text.l0])
              | succ k2 =>
                have H := HA.out
                clear HA
                simp only [deadfallref03_text.l0] at H
                by_cases c16 : x5_2 < (a0_2.size : Int)
                · rw [if_pos c16] at H
                  have c16b0 : decide (x5_2 < (a0_2.size : Int)) = true := decide_eq_true c16
                  clear c16
                  by_cases c17 : a1 = 0
                  · rw [if_pos c17] at H
                    have c17b0 : (a1 == 0) = true := beq_iff_eq.mpr c17
                    have c17b1 : (a1 != 0) = false := bne_eq_false_iff_eq.mpr c17
                    clear c17
                    by_cases c18 : 0 ≤ x5_2
                    · rw [if_pos c18] at H
                      have c18b0 : decide (0 ≤ x5_2) = true := decide_eq_true c18
                      clear c18
                      replace H := Option.bind_eq_some_iff.mp H
                      obtain ⟨t140, A200, H⟩ := H
                      replace H : (if t140 = true then (if a1 = 1 then ((deadfallref03_among.f k2 (bt a0_2 x5_2) (⟨#[34, 36, 39, 92, 96, 125]⟩ : ByteArray)).bind fun t141 => (if t141 = true then (some false) else (deadfallref03_text.l0 k2 a1 (wrap64 (x5_2 + 1)) a0_0 false a0_2 a0_3 l0_4))) else (deadfallref03_text.l0 k2 a1 (wrap64 (x5_2 + 1)) a0_0 false a0_2 a0_3 l0_4)) else (some false)) = some r := H
                      have A20 := Aside0.mk A200
                      clear A200
                      by_cases c21 : t140 = true
                      · subst c21
                        have H1 : (if a1 = 1 then ((deadfallref03_among.f k2 (bt a0_2 x5_2) (⟨#[34, 36, 39, 92, 96, 125]⟩ : ByteArray)).bind fun t141 => (if t141 = true then (some false) else (deadfallref03_text.l0 k2 a1 (wrap64 (x5_2 + 1)) a0_0 false a0_2 a0_3 l0_4))) else (deadfallref03_text.l0 k2 a1 (wrap64 (x5_2 + 1)) a0_0 false a0_2 a0_3 l0_4)) = some r := by rw [if_pos rfl] at H; exact H
                        clear H
                        have H := H1
                        clear H1
                        by_cases c22 : a1 = 1
                        · rw [if_pos c22] at H
                          have c22b0 : (a1 == 1) = true := beq_iff_eq.mpr c22
                          have c22b1 : (a1 != 1) = false := bne_eq_false_iff_eq.mpr c22
                          clear c22
                          replace H := Option.bind_eq_some_iff.mp H
                          obtain ⟨t141, A240, H⟩ := H
                          replace H : (if t141 = true then (some false) else (deadfallref03_text.l0 k2 a1 (wrap64 (x5_2 + 1)) a0_0 false a0_2 a0_3 l0_4)) = some r := H
                          have A24 := Aside0.mk A240
                          clear A240
                          by_cases c25 : t141 = true
                          · subst c25
                            have H1 : (some false) = some r := by rw [if_pos rfl] at H; exact H
                            clear H
                            have H := H1
                            clear H1
                            obtain rfl := Option.some.inj H
                            have hcz26_0 : wr.cell? ⟨gb139, 0, none⟩ = some (.int .i64 a0_0) := (blk_cell BK139.out 0).trans rfl
                            have hcz26_1 : wr.cell? ⟨gb139, 1, none⟩ = some (.bool false) := (blk_cell BK139.out 1).trans rfl
                            have hcz26_2 : wr.cell? ⟨gb139, 2, none⟩ = some (.string a0_2) := (blk_cell BK139.out 2).trans rfl
                            have hcz26_3 : wr.cell? ⟨gb139, 3, none⟩ = some (.string a0_3) := (blk_cell BK139.out 3).trans rfl
                            have hcz26_4 : wr.cell? ⟨gb139, 4, none⟩ = some (.slice A0_4 l0_4.length c0_4) := (blk_cell BK139.out 4).trans rfl
                            have hfz26_0 := blk_frozen BK139.out 0
                            have hfz26_1 := blk_frozen BK139.out 1
                            have hfz26_2 := blk_frozen BK139.out 2
                            have hfz26_3 := blk_frozen BK139.out 3
                            have hfz26_4 := blk_frozen BK139.out 4
                            have p19 : 0 ≤ (x5_2 : Int) := of_decide_eq_true (by first | (with_reducible assumption) | assumption)
                            have q19 : x5_2 < (a0_2.size : Int) := of_decide_eq_true (by first | (with_reducible assumption) | assumption)
                            have hx19 := bt_at a0_2 x5_2
                            replace p19 := eq_true p19
                            replace q19 := eq_true q19
                            go_wp2_with (first | (go_at_call 55; (with_reducible refine (deadfallref02_Bare.calls (bt a0_2 x5_2) true _ A20.out).mono ?_); rintro e w27 ⟨rfl, hb⟩; have n0_ := Aside0.mk (blk_below (g := gb139) (o := .cells #[.int .i64 a0_0, .bool false, .string a0_2, .string a0_3, .slice A0_4 l0_4.length c0_4] 33 (0, 0)) (by (with_reducible repeat (first | refine blk_drewN ?_ _ | refine blk_drew ?_ | refine blk_alloc ?_ _)); exact BK139.out) hb); have n1_ := Aside0.mk (below_step (by repeat (first | (with_reducible first | exact HB.out | apply below_alloc | apply pw_below_drewN | apply below_drew1 | refine below_set ?_ GE139.out) | exact HB.out)) hb); clear BK139; clear HB; have BK139 := n0_; have HB := n1_; clear n0_ n1_; (try clear hb); (try clear hb2); (try clear hk); (try clear hi); have hcz28_0 : w27.cell? ⟨gb139, 0, none⟩ = some (.int .i64 a0_0) := (blk_cell BK139.out 0).trans rfl; have hcz28_1 : w27.cell? ⟨gb139, 1, none⟩ = some (.bool false) := (blk_cell BK139.out 1).trans rfl; have hcz28_2 : w27.cell? ⟨gb139, 2, none⟩ = some (.string a0_2) := (blk_cell BK139.out 2).trans rfl; have hcz28_3 : w27.cell? ⟨gb139, 3, none⟩ = some (.string a0_3) := (blk_cell BK139.out 3).trans rfl; have hcz28_4 : w27.cell? ⟨gb139, 4, none⟩ = some (.slice A0_4 l0_4.length c0_4) := (blk_cell BK139.out 4).trans rfl; have hfz28_0 := blk_frozen BK139.out 0; have hfz28_1 := blk_frozen BK139.out 1; have hfz28_2 := blk_frozen BK139.out 2; have hfz28_3 := blk_frozen BK139.out 3; have hfz28_4 := blk_frozen BK139.out 4; have p23 : 0 ≤ (x5_2 : Int) := of_decide_eq_true (by first | (with_reducible assumption) | assumption); have q23 : x5_2 < (a0_2.size : Int) := of_decide_eq_true (by first | (with_reducible assumption) | assumption); have hx23 := bt_at a0_2 x5_2; replace p23 := eq_true p23; replace q23 := eq_true q23) | (go_at_call 42; (with_reducible refine (deadfallref03_among.calls k2 (bt a0_2 x5_2) (⟨#[34, 36, 39, 92, 96, 125]⟩ : ByteArray) true _ A24.out).mono ?_); rintro e w' ⟨rfl, ⟨nd, rfl⟩⟩))
                            go_ret
                            exact ⟨by first | rfl | (simp [errW_none, errW_some] <;> rfl) | (simp [*, errW_none, errW_some] <;> rfl), by repeat (first | (with_reducible first | exact HB.out | apply below_alloc | apply pw_below_drewN | apply below_drew1 | refine below_set ?_ GE139.out) | exact HB.out)⟩
                          · replace c25 := Bool.eq_false_iff.mpr c25
                            subst c25
                            have H1 : (deadfallref03_text.l0 k2 a1 (wrap64 (x5_2 + 1)) a0_0 false a0_2 a0_3 l0_4) = some r := by rw [if_neg (show ¬ (false = true) by decide)] at H; exact H
                            clear H
                            have H := H1
                            clear H1
                            have H' := Aside0.mk H
                            clear H
                            have hcz29_0 : wr.cell? ⟨gb139, 0, none⟩ = some (.int .i64 a0_0) := (blk_cell BK139.out 0).trans rfl
                            have hcz29_1 : wr.cell? ⟨gb139, 1, none⟩ = some (.bool false) := (blk_cell BK139.out 1).trans rfl
                            have hcz29_2 : wr.cell? ⟨gb139, 2, none⟩ = some (.string a0_2) := (blk_cell BK139.out 2).trans rfl
                            have hcz29_3 : wr.cell? ⟨gb139, 3, none⟩ = some (.string a0_3) := (blk_cell BK139.out 3).trans rfl
                            have hcz29_4 : wr.cell? ⟨gb139, 4, none⟩ = some (.slice A0_4 l0_4.length c0_4) := (blk_cell BK139.out 4).trans rfl
                            have hfz29_0 := blk_frozen BK139.out 0
                            have hfz29_1 := blk_frozen BK139.out 1
                            have hfz29_2 := blk_frozen BK139.out 2
                            have hfz29_3 := blk_frozen BK139.out 3
                            have hfz29_4 := blk_frozen BK139.out 4
                            have p19 : 0 ≤ (x5_2 : Int) := of_decide_eq_true (by first | (with_reducible assumption) | assumption)
                            have q19 : x5_2 < (a0_2.size : Int) := of_decide_eq_true (by first | (with_reducible assumption) | assumption)
                            have hx19 := bt_at a0_2 x5_2
                            replace p19 := eq_true p19
                            replace q19 := eq_true q19
                            go_wp2_with (first | (go_at_call 55; (with_reducible refine (deadfallref02_Bare.calls (bt a0_2 x5_2) true _ A20.out).mono ?_); rintro e w30 ⟨rfl, hb⟩; have n0_ := Aside0.mk (blk_below (g := gb139) (o := .cells #[.int .i64 a0_0, .bool false, .string a0_2, .string a0_3, .slice A0_4 l0_4.length c0_4] 33 (0, 0)) (by (with_reducible repeat (first | refine blk_drewN ?_ _ | refine blk_drew ?_ | refine blk_alloc ?_ _)); exact BK139.out) hb); have n1_ := Aside0.mk (below_step (by repeat (first | (with_reducible first | exact HB.out | apply below_alloc | apply pw_below_drewN | apply below_drew1 | refine below_set ?_ GE139.out) | exact HB.out)) hb); clear BK139; clear HB; have BK139 := n0_; have HB := n1_; clear n0_ n1_; (try clear hb); (try clear hb2); (try clear hk); (try clear hi); have hcz31_0 : w30.cell? ⟨gb139, 0, none⟩ = some (.int .i64 a0_0) := (blk_cell BK139.out 0).trans rfl; have hcz31_1 : w30.cell? ⟨gb139, 1, none⟩ = some (.bool false) := (blk_cell BK139.out 1).trans rfl; have hcz31_2 : w30.cell? ⟨gb139, 2, none⟩ = some (.string a0_2) := (blk_cell BK139.out 2).trans rfl; have hcz31_3 : w30.cell? ⟨gb139, 3, none⟩ = some (.string a0_3) := (blk_cell BK139.out 3).trans rfl; have hcz31_4 : w30.cell? ⟨gb139, 4, none⟩ = some (.slice A0_4 l0_4.length c0_4) := (blk_cell BK139.out 4).trans rfl; have hfz31_0 := blk_frozen BK139.out 0; have hfz31_1 := blk_frozen BK139.out 1; have hfz31_2 := blk_frozen BK139.out 2; have hfz31_3 := blk_frozen BK139.out 3; have hfz31_4 := blk_frozen BK139.out 4; have p23 : 0 ≤ (x5_2 : Int) := of_decide_eq_true (by first | (with_reducible assumption) | assumption); have q23 : x5_2 < (a0_2.size : Int) := of_decide_eq_true (by first | (with_reducible assumption) | assumption); have hx23 := bt_at a0_2 x5_2; replace p23 := eq_true p23; replace q23 := eq_true q23) | (go_at_call 42; (with_reducible refine (deadfallref03_among.calls k2 (bt a0_2 x5_2) (⟨#[34, 36, 39, 92, 96, 125]⟩ : ByteArray) false _ A24.out).mono ?_); rintro e w' ⟨rfl, ⟨nd, rfl⟩⟩))
                            go_roundg k2
                            case measure => have := HJ2.out; have := HK2.out; omega
                            case rel => exact ⟨(wrap64 (x5_2 + 1)), (by first | rfl | (simp; done) | (simp [*]; done)), H', ⟨by have := HJ2.out; have := HK2.out; omega⟩, ⟨by (with_reducible repeat (first | refine blk_drewN ?_ _ | refine blk_drew ?_ | refine blk_alloc ?_ _)); exact BK139.out⟩, ⟨by repeat (first | (with_reducible first | exact HB.out | apply below_alloc | apply pw_below_drewN | apply below_drew1 | refine below_set ?_ GE139.out) | exact HB.out)⟩⟩
                        · rw [if_neg c22] at H
                          have c22b0 : (a1 == 1) = false := beq_eq_false_iff_ne.mpr c22
                          have c22b1 : (a1 != 1) = true := bne_iff_ne.mpr c22
                          have H' := Aside0.mk H
                          clear H
                          have hcz32_0 : wr.cell? ⟨gb139, 0, none⟩ = some (.int .i64 a0_0) := (blk_cell BK139.out 0).trans rfl
                          have hcz32_1 : wr.cell? ⟨gb139, 1, none⟩ = some (.bool false) := (blk_cell BK139.out 1).trans rfl
                          have hcz32_2 : wr.cell? ⟨gb139, 2, none⟩ = some (.string a0_2) := (blk_cell BK139.out 2).trans rfl
                          have hcz32_3 : wr.cell? ⟨gb139, 3, none⟩ = some (.string a0_3) := (blk_cell BK139.out 3).trans rfl
                          have hcz32_4 : wr.cell? ⟨gb139, 4, none⟩ = some (.slice A0_4 l0_4.length c0_4) := (blk_cell BK139.out 4).trans rfl
                          have hfz32_0 := blk_frozen BK139.out 0
                          have hfz32_1 := blk_frozen BK139.out 1
                          have hfz32_2 := blk_frozen BK139.out 2
                          have hfz32_3 := blk_frozen BK139.out 3
                          have hfz32_4 := blk_frozen BK139.out 4
                          have p19 : 0 ≤ (x5_2 : Int) := of_decide_eq_true (by first | (with_reducible assumption) | assumption)
                          have q19 : x5_2 < (a0_2.size : Int) := of_decide_eq_true (by first | (with_reducible assumption) | assumption)
                          have hx19 := bt_at a0_2 x5_2
                          replace p19 := eq_true p19
                          replace q19 := eq_true q19
                          go_wp2_with (first | (go_at_call 55; (with_reducible refine (deadfallref02_Bare.calls (bt a0_2 x5_2) true _ A20.out).mono ?_); rintro e w33 ⟨rfl, hb⟩; have n0_ := Aside0.mk (blk_below (g := gb139) (o := .cells #[.int .i64 a0_0, .bool false, .string a0_2, .string a0_3, .slice A0_4 l0_4.length c0_4] 33 (0, 0)) (by (with_reducible repeat (first | refine blk_drewN ?_ _ | refine blk_drew ?_ | refine blk_alloc ?_ _)); exact BK139.out) hb); have n1_ := Aside0.mk (below_step (by repeat (first | (with_reducible first | exact HB.out | apply below_alloc | apply pw_below_drewN | apply below_drew1 | refine below_set ?_ GE139.out) | exact HB.out)) hb); clear BK139; clear HB; have BK139 := n0_; have HB := n1_; clear n0_ n1_; (try clear hb); (try clear hb2); (try clear hk); (try clear hi)))
                          go_roundg k2
                          case measure => have := HJ2.out; have := HK2.out; omega
                          case rel => exact ⟨(wrap64 (x5_2 + 1)), (by first | rfl | (simp; done) | (simp [*]; done)), H', ⟨by have := HJ2.out; have := HK2.out; omega⟩, ⟨by (with_reducible repeat (first | refine blk_drewN ?_ _ | refine blk_drew ?_ | refine blk_alloc ?_ _)); exact BK139.out⟩, ⟨by repeat (first | (with_reducible first | exact HB.out | apply below_alloc | apply pw_below_drewN | apply below_drew1 | refine below_set ?_ GE139.out) | exact HB.out)⟩⟩
                      · replace c21 := Bool.eq_false_iff.mpr c21
                        subst c21
                        have H1 : (some false) = some r := by rw [if_neg (show ¬ (false = true) by decide)] at H; exact H
                        clear H
                        have H := H1
                        clear H1
                        obtain rfl := Option.some.inj H
                        have hcz34_0 : wr.cell? ⟨gb139, 0, none⟩ = some (.int .i64 a0_0) := (blk_cell BK139.out 0).trans rfl
                        have hcz34_1 : wr.cell? ⟨gb139, 1, none⟩ = some (.bool false) := (blk_cell BK139.out 1).trans rfl
                        have hcz34_2 : wr.cell? ⟨gb139, 2, none⟩ = some (.string a0_2) := (blk_cell BK139.out 2).trans rfl
                        have hcz34_3 : wr.cell? ⟨gb139, 3, none⟩ = some (.string a0_3) := (blk_cell BK139.out 3).trans rfl
                        have hcz34_4 : wr.cell? ⟨gb139, 4, none⟩ = some (.slice A0_4 l0_4.length c0_4) := (blk_cell BK139.out 4).trans rfl
                        have hfz34_0 := blk_frozen BK139.out 0
                        have hfz34_1 := blk_frozen BK139.out 1
                        have hfz34_2 := blk_frozen BK139.out 2
                        have hfz34_3 := blk_frozen BK139.out 3
                        have hfz34_4 := blk_frozen BK139.out 4
                        have p19 : 0 ≤ (x5_2 : Int) := of_decide_eq_true (by first | (with_reducible assumption) | assumption)
                        have q19 : x5_2 < (a0_2.size : Int) := of_decide_eq_true (by first | (with_reducible assumption) | assumption)
                        have hx19 := bt_at a0_2 x5_2
                        replace p19 := eq_true p19
                        replace q19 := eq_true q19
                        go_wp2_with (first | (go_at_call 55; (with_reducible refine (deadfallref02_Bare.calls (bt a0_2 x5_2) false _ A20.out).mono ?_); rintro e w35 ⟨rfl, hb⟩; have n0_ := Aside0.mk (blk_below (g := gb139) (o := .cells #[.int .i64 a0_0, .bool false, .string a0_2, .string a0_3, .slice A0_4 l0_4.length c0_4] 33 (0, 0)) (by (with_reducible repeat (first | refine blk_drewN ?_ _ | refine blk_drew ?_ | refine blk_alloc ?_ _)); exact BK139.out) hb); have n1_ := Aside0.mk (below_step (by repeat (first | (with_reducible first | exact HB.out | apply below_alloc | apply pw_below_drewN | apply below_drew1 | refine below_set ?_ GE139.out) | exact HB.out)) hb); clear BK139; clear HB; have BK139 := n0_; have HB := n1_; clear n0_ n1_; (try clear hb); (try clear hb2); (try clear hk); (try clear hi)))
                        go_ret
                        exact ⟨by first | rfl | (simp [errW_none, errW_some] <;> rfl) | (simp [*, errW_none, errW_some] <;> rfl), by repeat (first | (with_reducible first | exact HB.out | apply below_alloc | apply pw_below_drewN | apply below_drew1 | refine below_set ?_ GE139.out) | exact HB.out)⟩
                    · rw [if_neg c18] at H
                      exact absurd H (by simp)
                  · rw [if_neg c17] at H
                    have c17b0 : (a1 == 0) = false := beq_eq_false_iff_ne.mpr c17
                    have c17b1 : (a1 != 0) = true := bne_iff_ne.mpr c17
                    by_cases c36 : a1 = 1
                    · rw [if_pos c36] at H
                      have c36b0 : (a1 == 1) = true := beq_iff_eq.mpr c36
                      have c36b1 : (a1 != 1) = false := bne_eq_false_iff_eq.mpr c36
                      clear c36
                      by_cases c37 : 0 ≤ x5_2
                      · rw [if_pos c37] at H
                        have c37b0 : decide (0 ≤ x5_2) = true := decide_eq_true c37
                        clear c37
                        replace H := Option.bind_eq_some_iff.mp H
                        obtain ⟨t142, A390, H⟩ := H
                        replace H : (if t142 = true then (some false) else (deadfallref03_text.l0 k2 a1 (wrap64 (x5_2 + 1)) a0_0 false a0_2 a0_3 l0_4)) = some r := H
                        have A39 := Aside0.mk A390
                        clear A390
                        by_cases c40 : t142 = true
                        · subst c40
                          have H1 : (some false) = some r := by rw [if_pos rfl] at H; exact H
                          clear H
                          have H := H1
                          clear H1
                          obtain rfl := Option.some.inj H
                          have hcz41_0 : wr.cell? ⟨gb139, 0, none⟩ = some (.int .i64 a0_0) := (blk_cell BK139.out 0).trans rfl
                          have hcz41_1 : wr.cell? ⟨gb139, 1, none⟩ = some (.bool false) := (blk_cell BK139.out 1).trans rfl
                          have hcz41_2 : wr.cell? ⟨gb139, 2, none⟩ = some (.string a0_2) := (blk_cell BK139.out 2).trans rfl
                          have hcz41_3 : wr.cell? ⟨gb139, 3, none⟩ = some (.string a0_3) := (blk_cell BK139.out 3).trans rfl
                          have hcz41_4 : wr.cell? ⟨gb139, 4, none⟩ = some (.slice A0_4 l0_4.length c0_4) := (blk_cell BK139.out 4).trans rfl
                          have hfz41_0 := blk_frozen BK139.out 0
                          have hfz41_1 := blk_frozen BK139.out 1
                          have hfz41_2 := blk_frozen BK139.out 2
                          have hfz41_3 := blk_frozen BK139.out 3
                          have hfz41_4 := blk_frozen BK139.out 4
                          have p38 : 0 ≤ (x5_2 : Int) := of_decide_eq_true (by first | (with_reducible assumption) | assumption)
                          have q38 : x5_2 < (a0_2.size : Int) := of_decide_eq_true (by first | (with_reducible assumption) | assumption)
                          have hx38 := bt_at a0_2 x5_2
                          replace p38 := eq_true p38
                          replace q38 := eq_true q38
                          go_wp2_with (first | (go_at_call 42; (with_reducible refine (deadfallref03_among.calls k2 (bt a0_2 x5_2) (⟨#[34, 36, 39, 92, 96, 125]⟩ : ByteArray) true _ A39.out).mono ?_); rintro e w' ⟨rfl, ⟨nd, rfl⟩⟩))
                          go_ret
                          exact ⟨by first | rfl | (simp [errW_none, errW_some] <;> rfl) | (simp [*, errW_none, errW_some] <;> rfl), by repeat (first | (with_reducible first | exact HB.out | apply below_alloc | apply pw_below_drewN | apply below_drew1 | refine below_set ?_ GE139.out) | exact HB.out)⟩
                        · replace c40 := Bool.eq_false_iff.mpr c40
                          subst c40
                          have H1 : (deadfallref03_text.l0 k2 a1 (wrap64 (x5_2 + 1)) a0_0 false a0_2 a0_3 l0_4) = some r := by rw [if_neg (show ¬ (false = true) by decide)] at H; exact H
                          clear H
                          have H := H1
                          clear H1
                          have H' := Aside0.mk H
                          clear H
                          have hcz42_0 : wr.cell? ⟨gb139, 0, none⟩ = some (.int .i64 a0_0) := (blk_cell BK139.out 0).trans rfl
                          have hcz42_1 : wr.cell? ⟨gb139, 1, none⟩ = some (.bool false) := (blk_cell BK139.out 1).trans rfl
                          have hcz42_2 : wr.cell? ⟨gb139, 2, none⟩ = some (.string a0_2) := (blk_cell BK139.out 2).trans rfl
                          have hcz42_3 : wr.cell? ⟨gb139, 3, none⟩ = some (.string a0_3) := (blk_cell BK139.out 3).trans rfl
                          have hcz42_4 : wr.cell? ⟨gb139, 4, none⟩ = some (.slice A0_4 l0_4.length c0_4) := (blk_cell BK139.out 4).trans rfl
                          have hfz42_0 := blk_frozen BK139.out 0
                          have hfz42_1 := blk_frozen BK139.out 1
                          have hfz42_2 := blk_frozen BK139.out 2
                          have hfz42_3 := blk_frozen BK139.out 3
                          have hfz42_4 := blk_frozen BK139.out 4
                          have p38 : 0 ≤ (x5_2 : Int) := of_decide_eq_true (by first | (with_reducible assumption) | assumption)
                          have q38 : x5_2 < (a0_2.size : Int) := of_decide_eq_true (by first | (with_reducible assumption) | assumption)
                          have hx38 := bt_at a0_2 x5_2
                          replace p38 := eq_true p38
                          replace q38 := eq_true q38
                          go_wp2_with (first | (go_at_call 42; (with_reducible refine (deadfallref03_among.calls k2 (bt a0_2 x5_2) (⟨#[34, 36, 39, 92, 96, 125]⟩ : ByteArray) false _ A39.out).mono ?_); rintro e w' ⟨rfl, ⟨nd, rfl⟩⟩))
                          go_roundg k2
                          case measure => have := HJ2.out; have := HK2.out; omega
                          case rel => exact ⟨(wrap64 (x5_2 + 1)), (by first | rfl | (simp; done) | (simp [*]; done)), H', ⟨by have := HJ2.out; have := HK2.out; omega⟩, ⟨by (with_reducible repeat (first | refine blk_drewN ?_ _ | refine blk_drew ?_ | refine blk_alloc ?_ _)); exact BK139.out⟩, ⟨by repeat (first | (with_reducible first | exact HB.out | apply below_alloc | apply pw_below_drewN | apply below_drew1 | refine below_set ?_ GE139.out) | exact HB.out)⟩⟩
                      · rw [if_neg c37] at H
                        exact absurd H (by simp)
                    · rw [if_neg c36] at H
                      have c36b0 : (a1 == 1) = false := beq_eq_false_iff_ne.mpr c36
                      have c36b1 : (a1 != 1) = true := bne_iff_ne.mpr c36
                      have H' := Aside0.mk H
                      clear H
                      have hcz43_0 : wr.cell? ⟨gb139, 0, none⟩ = some (.int .i64 a0_0) := (blk_cell BK139.out 0).trans rfl
                      have hcz43_1 : wr.cell? ⟨gb139, 1, none⟩ = some (.bool false) := (blk_cell BK139.out 1).trans rfl
                      have hcz43_2 : wr.cell? ⟨gb139, 2, none⟩ = some (.string a0_2) := (blk_cell BK139.out 2).trans rfl
                      have hcz43_3 : wr.cell? ⟨gb139, 3, none⟩ = some (.string a0_3) := (blk_cell BK139.out 3).trans rfl
                      have hcz43_4 : wr.cell? ⟨gb139, 4, none⟩ = some (.slice A0_4 l0_4.length c0_4) := (blk_cell BK139.out 4).trans rfl
                      have hfz43_0 := blk_frozen BK139.out 0
                      have hfz43_1 := blk_frozen BK139.out 1
                      have hfz43_2 := blk_frozen BK139.out 2
                      have hfz43_3 := blk_frozen BK139.out 3
                      have hfz43_4 := blk_frozen BK139.out 4
                      go_wp2
                      go_roundg k2
                      case measure => have := HJ2.out; have := HK2.out; omega
                      case rel => exact ⟨(wrap64 (x5_2 + 1)), (by first | rfl | (simp; done) | (simp [*]; done)), H', ⟨by have := HJ2.out; have := HK2.out; omega⟩, ⟨by (with_reducible repeat (first | refine blk_drewN ?_ _ | refine blk_drew ?_ | refine blk_alloc ?_ _)); exact BK139.out⟩, ⟨by repeat (first | (with_reducible first | exact HB.out | apply below_alloc | apply pw_below_drewN | apply below_drew1 | refine below_set ?_ GE139.out) | exact HB.out)⟩⟩
                · rw [if_neg c16] at H
                  have c16b0 : decide (x5_2 < (a0_2.size : Int)) = false := decide_eq_false c16
                  clear c16
                  obtain rfl := Option.some.inj H
                  have hcz44_0 : wr.cell? ⟨gb139, 0, none⟩ = some (.int .i64 a0_0) := (blk_cell BK139.out 0).trans rfl
                  have hcz44_1 : wr.cell? ⟨gb139, 1, none⟩ = some (.bool false) := (blk_cell BK139.out 1).trans rfl
                  have hcz44_2 : wr.cell? ⟨gb139, 2, none⟩ = some (.string a0_2) := (blk_cell BK139.out 2).trans rfl
                  have hcz44_3 : wr.cell? ⟨gb139, 3, none⟩ = some (.string a0_3) := (blk_cell BK139.out 3).trans rfl
                  have hcz44_4 : wr.cell? ⟨gb139, 4, none⟩ = some (.slice A0_4 l0_4.length c0_4) := (blk_cell BK139.out 4).trans rfl
                  have hfz44_0 := blk_frozen BK139.out 0
                  have hfz44_1 := blk_frozen BK139.out 1
                  have hfz44_2 := blk_frozen BK139.out 2
                  have hfz44_3 := blk_frozen BK139.out 3
                  have hfz44_4 := blk_frozen BK139.out 4
                  go_wp2
                  go_ret
                  exact ⟨by first | rfl | (simp [errW_none, errW_some] <;> rfl) | (simp [*, errW_none, errW_some] <;> rfl), by repeat (first | (with_reducible first | exact HB.out | apply below_alloc | apply pw_below_drewN | apply below_drew1 | refine below_set ?_ GE139.out) | exact HB.out)⟩
end Go.Proofs.YtkecpfjmdokieaaDoor.P
namespace Go.Proofs.YtkecpfjmdokieaaDoor.Word
open Go.RowKit Go.Proofs.YtkecpfjmdokieaaDoorW.PrintWords Go.Proofs.YtkecpfjmdokieaaDoorW.PrintLast Go.Proofs.YtkecpfjmdokieaaDoor.Base Go.Proofs.YtkecpfjmdokieaaDoor.P Go.Proofs.YtkecpfjmdokieaaDoor.NodeOps Go.Proofs.YtkecpfjmdokieaaDoor.Class
set_option linter.unusedVariables false
set_option linter.unusedSimpArgs false
def bareS (s : ByteArray) : Bool := (bytesOf s).all bareB
def looseS (s : ByteArray) : Bool := (bytesOf s).all fun b => !(bytesOf CH).contains b
def neS (s : ByteArray) : Bool := decide (0 < s.size)
def litB (at_ : Int) (x : Pt) : Bool :=
  if x.f3.size = 0 ∧ x.f4.length = 0 then (if at_ = 2 then x.f1 && neS x.f2 else if x.f1 = true then true else if at_ = 1 then neS x.f2 && looseS x.f2 else neS x.f2 && bareS x.f2) else false
theorem toList_nil (s : ByteArray) : s.toList = ([] : List UInt8) ↔ s.size = 0 := by
  rw [Go.Lib.toList_data]
  have := data_length s
  constructor
  · intro e; rw [e] at this; exact this.symm
  · intro e; exact List.length_eq_zero_iff.1 (by omega)
theorem toList_ne (s : ByteArray) : (s.toList != ([] : List UInt8)) = neS s := by
  unfold neS
  by_cases h : s.size = 0
  · rw [decide_eq_false (by omega)]
    have := (toList_nil s).2 h
    rw [this]
    rfl
  · rw [decide_eq_true (by omega), bne_iff_ne]
    exact fun e => h ((toList_nil s).1 e)
theorem bytes_drop (s : ByteArray) (i : Nat) (h : i < s.size) : (bytesOf s).drop i = bt s i :: (bytesOf s).drop (i + 1) := by
  rw [List.drop_eq_getElem_cons (by rw [bytesOf_length]; exact h)]
  congr 1
  have := bt_nat s i h
  rw [← this]
  simp [bytesOf, ByteArray.getElem_eq_getElem_data]
theorem all_drop (s : ByteArray) (p : Int → Bool) (i : Nat) (h : i < s.size) : ((bytesOf s).drop i).all p = (p (bt s i) && ((bytesOf s).drop (i + 1)).all p) := by
  rw [bytes_drop s i h, List.all_cons]
theorem lit_loop (x : Pt) (hz : x.f2.size ≤ 1000000) : ∀ (d i : Nat), x.f2.size - i ≤ d → i ≤ x.f2.size → Ev (fun k => word_literal.l0 k (x.f2.size : Int) (i : Int) x.f0 x.f1 x.f2 x.f3 x.f4) (neS x.f2 && ((bytesOf x.f2).drop i).all bareB) := by
  have hend : ∀ i : Nat, ¬ i < x.f2.size → Ev (fun k => word_literal.l0 k (x.f2.size : Int) (i : Int) x.f0 x.f1 x.f2 x.f3 x.f4) (neS x.f2 && ((bytesOf x.f2).drop i).all bareB) := by
    intro i hi
    refine now fun k => ?_
    show word_literal.l0 (k + 1) (x.f2.size : Int) (i : Int) x.f0 x.f1 x.f2 x.f3 x.f4 = _
    rw [word_literal.l0, if_neg (by omega), List.drop_eq_nil_of_le (by rw [bytesOf_length]; omega), toList_ne]
    simp
  intro d
  induction d with
  | zero => exact fun i hd hi => hend i (by omega)
  | succ d ih =>
    intro i hd hi
    by_cases hlt : i < x.f2.size
    · have hw : wrap64 ((i : Int) + 1) = ((i + 1 : Nat) : Int) := by unfold wrap64; omega
      have hr := bt_range x.f2 i
      have hf : class_Bare.f (bt x.f2 i) = some (bareB (bt x.f2 i)) := by unfold class_Bare.f; rw [if_pos hr.1, if_pos hr.2]
      rw [all_drop _ _ _ hlt]
      cases hb : bareB (bt x.f2 i) with
      | true =>
        refine step (by simpa using ih (i + 1) (by omega) (by omega)) fun k => ?_
        show word_literal.l0 (k + 1) (x.f2.size : Int) (i : Int) x.f0 x.f1 x.f2 x.f3 x.f4 = word_literal.l0 k (x.f2.size : Int) ((i + 1 : Nat) : Int) x.f0 x.f1 x.f2 x.f3 x.f4
        rw [word_literal.l0, if_pos (by omega), if_pos (by omega), if_pos (by omega), hf, Option.bind_some, hb, if_pos rfl, hw]
      | false =>
        refine now fun k => ?_
        show word_literal.l0 (k + 1) (x.f2.size : Int) (i : Int) x.f0 x.f1 x.f2 x.f3 x.f4 = _
        rw [word_literal.l0, if_pos (by omega), if_pos (by omega), if_pos (by omega), hf, Option.bind_some, hb, if_neg (by decide)]
        simp
    · exact hend i hlt
theorem contains_loose (s : ByteArray) : Lib.containsAny s.data.toList CH.data.toList = !looseS s := by
  have key : ∀ l : List UInt8, decide (0 ≤ Lib.indexAny l CH.data.toList) = !((l.map fun b => (b.toNat : Int)).all fun b => !(bytesOf CH).contains b) := by
    intro l
    induction l with
    | nil => rfl
    | cons b l ih =>
      have hc : CH.data.toList.contains b = (bytesOf CH).contains (b.toNat : Int) := by
        have hall : ∀ b : UInt8, CH.data.toList.contains b = (bytesOf CH).contains (b.toNat : Int) := by
          intro b
          have h1 : ∀ n : Fin 256, CH.data.toList.contains (UInt8.ofNat n.val) = (bytesOf CH).contains ((n.val : Nat) : Int) := by decide +kernel
          have := h1 ⟨b.toNat, b.toNat_lt⟩
          simpa using this
        exact hall b
      rw [List.map_cons, List.all_cons, Bool.not_and, Bool.not_not, ← ih, ← hc]
      have hge := Lib.indexAny_ge CH.data.toList l
      have hu : Lib.indexAny (b :: l) CH.data.toList = (if CH.data.toList.contains b = true then 0 else if (Lib.indexAny l CH.data.toList == -1) = true then -1 else Lib.indexAny l CH.data.toList + 1) := rfl
      rw [hu]
      generalize Lib.indexAny l CH.data.toList = v at *
      cases hb : CH.data.toList.contains b with
      | true => rw [if_pos rfl]; simp
      | false =>
        rw [if_neg (by decide), Bool.false_or]
        by_cases h : v = -1
        · subst h; rfl
        · rw [if_neg (by simpa using h)]
          by_cases h0 : 0 ≤ v
          · rw [decide_eq_true h0, decide_eq_true (by omega)]
          · omega
  exact key s.data.toList
theorem lit_ev (at_ : Int) (x : Pt) (hz : x.f2.size ≤ 1000000) : Ev (fun k => word_literal.f k x.f0 x.f1 x.f2 x.f3 x.f4 at_) (litB at_ x) := by
  unfold litB
  have bad : ∀ g : Nat → Option Bool, (∀ k, g k = word_literal.j0 k at_ true x.f0 x.f1 x.f2 x.f3 x.f4) → Ev g false := by
    intro g hg
    refine via2 (f := fun k => word_literal.j0 k at_ true x.f0 x.f1 x.f2 x.f3 x.f4) (now fun k => ?_) hg
    rw [word_literal.j0, if_pos rfl]
  by_cases h3 : x.f3.size = 0
  · by_cases h4 : x.f4.length = 0
    · rw [if_pos ⟨h3, h4⟩]
      refine via2 (f := fun k => word_literal.j0 k at_ false x.f0 x.f1 x.f2 x.f3 x.f4) ?_ (fun k => by rw [word_literal.f, if_pos ((toList_nil _).2 h3), decide_eq_false (by omega)])
      by_cases h2 : at_ = 2
      · rw [if_pos h2]
        refine now fun k => ?_
        rw [word_literal.j0, if_neg (by decide), if_pos h2]
        cases x.f1 with
        | true => rw [if_pos rfl, toList_ne]; simp
        | false => rw [if_neg (by decide)]; rfl
      · rw [if_neg h2]
        cases hq : x.f1 with
        | true =>
          rw [if_pos rfl]
          refine now fun k => ?_
          rw [word_literal.j0, if_neg (by decide), if_neg h2, if_pos rfl]
        | false =>
          rw [if_neg (by decide)]
          by_cases h1 : at_ = 1
          · rw [if_pos h1]
            refine now fun k => ?_
            rw [word_literal.j0, if_neg (by decide), if_neg h2, if_neg (by decide), if_pos h1]
            by_cases hn : x.f2.size = 0
            · rw [if_pos ((toList_nil _).2 hn)]
              unfold neS
              rw [decide_eq_false (by omega)]
              rfl
            · rw [if_neg (fun e => hn ((toList_nil _).1 e))]
              unfold strings_ContainsAny.f neS
              rw [if_pos (by omega), if_pos rfl, Option.bind_some, contains_loose, Bool.not_not, decide_eq_true (by omega), Bool.true_and]
          · rw [if_neg h1]
            have := lit_loop x hz x.f2.size 0 (by omega) (by omega)
            rw [List.drop_zero, hq] at this
            refine step this fun k => ?_
            rw [word_literal.j0, if_neg (by decide), if_neg h2, if_neg (by decide), if_neg h1]
            rfl
    · rw [if_neg (fun h => h4 h.2)]
      exact bad _ (fun k => by rw [word_literal.f, if_pos ((toList_nil _).2 h3), decide_eq_true (by omega)])
  · rw [if_neg (fun h => h3 h.1)]
    exact bad _ (fun k => by rw [word_literal.f, if_neg (fun e => h3 ((toList_nil _).1 e))])
theorem contains_cons (b c : Int) (l : List Int) : (b :: l).contains c = (decide (b = c) || l.contains c) := by
  rw [List.contains_cons]
  congr 1
  by_cases h : b = c
  · subst h; simp
  · rw [decide_eq_false h, beq_eq_false_iff_ne]; exact fun e => h e.symm
theorem ramong_loop (c : Int) (s : ByteArray) (hs : s.size ≤ 1000000) : ∀ (d i : Nat), s.size - i ≤ d → i ≤ s.size → Ev (fun k => deadfallref03_among.l0 k c s (i : Int)) (((bytesOf s).drop i).contains c) := by
  have hend : ∀ i : Nat, ¬ i < s.size → Ev (fun k => deadfallref03_among.l0 k c s (i : Int)) (((bytesOf s).drop i).contains c) := by
    intro i hi
    refine now fun k => ?_
    show deadfallref03_among.l0 (k + 1) c s (i : Int) = _
    rw [deadfallref03_among.l0, if_neg (by omega), List.drop_eq_nil_of_le (by rw [bytesOf_length]; omega)]
    rfl
  intro d
  induction d with
  | zero => exact fun i hd hi => hend i (by omega)
  | succ d ih =>
    intro i hd hi
    by_cases hlt : i < s.size
    · have hw : wrap64 ((i : Int) + 1) = ((i + 1 : Nat) : Int) := by unfold wrap64; omega
      rw [bytes_drop s i hlt, contains_cons]
      by_cases hb : bt s i = c
      · refine now fun k => ?_
        show deadfallref03_among.l0 (k + 1) c s (i : Int) = _
        rw [deadfallref03_among.l0, if_pos (by omega), if_pos (by omega), if_pos hb, decide_eq_true hb]
        rfl
      · rw [decide_eq_false hb, Bool.false_or]
        refine step (ih (i + 1) (by omega) (by omega)) fun k => ?_
        show deadfallref03_among.l0 (k + 1) c s (i : Int) = deadfallref03_among.l0 k c s ((i + 1 : Nat) : Int)
        rw [deadfallref03_among.l0, if_pos (by omega), if_pos (by omega), if_neg hb, hw]
    · exact hend i hlt
theorem ramong_ev (c : Int) (s : ByteArray) (hs : s.size ≤ 1000000) : Ev (fun k => deadfallref03_among.f k c s) ((bytesOf s).contains c) := by
  have := ramong_loop c s hs s.size 0 (by omega) (by omega)
  rw [List.drop_zero] at this
  exact via2 this fun k => rfl
def okB (at_ b : Int) : Bool := if at_ = 0 then bareB b else if at_ = 1 then !(bytesOf CH).contains b else true
theorem text_loop (at_ : Int) (x : Pt) (hz : x.f2.size ≤ 1000000) : ∀ (d i : Nat), x.f2.size - i ≤ d → i ≤ x.f2.size → Ev (fun k => deadfallref03_text.l0 k at_ (i : Int) x.f0 x.f1 x.f2 x.f3 x.f4) (neS x.f2 && ((bytesOf x.f2).drop i).all (okB at_)) := by
  have hend : ∀ i : Nat, ¬ i < x.f2.size → Ev (fun k => deadfallref03_text.l0 k at_ (i : Int) x.f0 x.f1 x.f2 x.f3 x.f4) (neS x.f2 && ((bytesOf x.f2).drop i).all (okB at_)) := by
    intro i hi
    refine now fun k => ?_
    show deadfallref03_text.l0 (k + 1) at_ (i : Int) x.f0 x.f1 x.f2 x.f3 x.f4 = _
    rw [deadfallref03_text.l0, if_neg (by omega), List.drop_eq_nil_of_le (by rw [bytesOf_length]; omega), List.all_nil, Bool.and_true]
    unfold neS
    congr 1
    rw [decide_eq_decide]
    omega
  intro d
  induction d with
  | zero => exact fun i hd hi => hend i (by omega)
  | succ d ih =>
    intro i hd hi
    by_cases hlt : i < x.f2.size
    · have hw : wrap64 ((i : Int) + 1) = ((i + 1 : Nat) : Int) := by unfold wrap64; omega
      have hr := bt_range x.f2 i
      have hf : deadfallref02_Bare.f (bt x.f2 i) = some (bareB (bt x.f2 i)) := by unfold deadfallref02_Bare.f; rw [if_pos hr.1, if_pos hr.2]
      rw [all_drop _ _ _ hlt]
      by_cases h0 : at_ = 0
      · have hok : okB at_ (bt x.f2 i) = bareB (bt x.f2 i) := if_pos h0
        rw [hok]
        cases hb : bareB (bt x.f2 i) with
        | true =>
          refine step (by simpa using ih (i + 1) (by omega) (by omega)) fun k => ?_
          show deadfallref03_text.l0 (k + 1) at_ (i : Int) x.f0 x.f1 x.f2 x.f3 x.f4 = deadfallref03_text.l0 k at_ ((i + 1 : Nat) : Int) x.f0 x.f1 x.f2 x.f3 x.f4
          rw [deadfallref03_text.l0, if_pos (by omega), if_pos h0, if_pos (by omega), hf, Option.bind_some, hb, if_pos rfl, if_neg (by omega), hw]
        | false =>
          refine now fun k => ?_
          show deadfallref03_text.l0 (k + 1) at_ (i : Int) x.f0 x.f1 x.f2 x.f3 x.f4 = _
          rw [deadfallref03_text.l0, if_pos (by omega), if_pos h0, if_pos (by omega), hf, Option.bind_some, hb, if_neg (by decide)]
          simp
      · by_cases h1 : at_ = 1
        · have hok : okB at_ (bt x.f2 i) = !(bytesOf CH).contains (bt x.f2 i) := by unfold okB; rw [if_neg h0, if_pos h1]
          rw [hok]
          have hA := ramong_ev (bt x.f2 i) CH (by decide)
          cases hb : (bytesOf CH).contains (bt x.f2 i) with
          | true =>
            rw [hb] at hA
            refine via hA (r := _) (h' := fun _ => some false) ?_ (fun k hk => ?_)
            · simp; exact ⟨0, fun _ _ => rfl⟩
            · show deadfallref03_text.l0 (k + 1) at_ (i : Int) x.f0 x.f1 x.f2 x.f3 x.f4 = _
              rw [deadfallref03_text.l0, if_pos (by omega), if_neg h0, if_pos h1, if_pos (by omega), hk, Option.bind_some, if_pos rfl]
          | false =>
            rw [hb] at hA
            refine via hA (by simpa using ih (i + 1) (by omega) (by omega)) (fun k hk => ?_)
            show deadfallref03_text.l0 (k + 1) at_ (i : Int) x.f0 x.f1 x.f2 x.f3 x.f4 = deadfallref03_text.l0 k at_ ((i + 1 : Nat) : Int) x.f0 x.f1 x.f2 x.f3 x.f4
            rw [deadfallref03_text.l0, if_pos (by omega), if_neg h0, if_pos h1, if_pos (by omega), hk, Option.bind_some, if_neg (by decide), hw]
        · have hok : okB at_ (bt x.f2 i) = true := by unfold okB; rw [if_neg h0, if_neg h1]
          rw [hok, Bool.true_and]
          refine step (ih (i + 1) (by omega) (by omega)) fun k => ?_
          show deadfallref03_text.l0 (k + 1) at_ (i : Int) x.f0 x.f1 x.f2 x.f3 x.f4 = deadfallref03_text.l0 k at_ ((i + 1 : Nat) : Int) x.f0 x.f1 x.f2 x.f3 x.f4
          rw [deadfallref03_text.l0, if_pos (by omega), if_neg h0, if_neg h1, hw]
    · exact hend i hlt
theorem text_ev (at_ : Int) (ha : at_ = 0 ∨ at_ = 1 ∨ at_ = 2) (x : Pt) (hz : x.f2.size ≤ 1000000) : Ev (fun k => deadfallref03_text.f k x.f0 x.f1 x.f2 x.f3 x.f4 at_) (litB at_ x) := by
  unfold litB
  have bad : ∀ g : Nat → Option Bool, (∀ k, g k = deadfallref03_text.j0 k at_ true x.f0 x.f1 x.f2 x.f3 x.f4) → Ev g false := by
    intro g hg
    refine via2 (f := fun k => deadfallref03_text.j0 k at_ true x.f0 x.f1 x.f2 x.f3 x.f4) (now fun k => ?_) hg
    rw [deadfallref03_text.j0, if_pos rfl]
  by_cases h3 : x.f3.size = 0
  · by_cases h4 : x.f4.length = 0
    · rw [if_pos ⟨h3, h4⟩]
      refine via2 (f := fun k => deadfallref03_text.j0 k at_ false x.f0 x.f1 x.f2 x.f3 x.f4) ?_ (fun k => by rw [deadfallref03_text.f, if_pos ((toList_nil _).2 h3), decide_eq_false (by omega)])
      by_cases h2 : at_ = 2
      · rw [if_pos h2]
        refine now fun k => ?_
        rw [deadfallref03_text.j0, if_neg (by decide), if_pos h2]
        have hne : decide ((x.f2.size : Int) > 0) = neS x.f2 := by unfold neS; rw [decide_eq_decide]; omega
        cases x.f1 with
        | true => rw [if_pos rfl, hne]; simp
        | false => rw [if_neg (by decide)]; rfl
      · rw [if_neg h2]
        cases hq : x.f1 with
        | true =>
          rw [if_pos rfl]
          refine now fun k => ?_
          rw [deadfallref03_text.j0, if_neg (by decide), if_neg h2, if_pos rfl]
        | false =>
          rw [if_neg (by decide)]
          have := text_loop at_ x hz x.f2.size 0 (by omega) (by omega)
          rw [List.drop_zero, hq] at this
          have e : (if at_ = 1 then neS x.f2 && looseS x.f2 else neS x.f2 && bareS x.f2) = (neS x.f2 && (bytesOf x.f2).all (okB at_)) := by
            rcases ha with rfl | rfl | rfl
            · rfl
            · rfl
            · exact absurd rfl h2
          rw [e]
          refine step this fun k => ?_
          rw [deadfallref03_text.j0, if_neg (by decide), if_neg h2, if_neg (by decide)]
          rfl
    · rw [if_neg (fun h => h4 h.2)]
      exact bad _ (fun k => by rw [deadfallref03_text.f, if_pos ((toList_nil _).2 h3), decide_eq_true (by omega)])
  · rw [if_neg (fun h => h3 h.1)]
    exact bad _ (fun k => by rw [deadfallref03_text.f, if_neg (fun e => h3 ((toList_nil _).1 e))])
end Go.Proofs.YtkecpfjmdokieaaDoor.Word
namespace Go.Proofs.YtkecpfjmdokieaaDoor.P
open Go.RowKit Go.Proofs.YtkecpfjmdokieaaDoorW.PrintWords Go.Proofs.YtkecpfjmdokieaaDoorW.PrintLast Go.Proofs.YtkecpfjmdokieaaDoorW.PrintMore
attribute [local go_sem] max2_int min2_int max_two min_two max_three min_three max_four min_four   -- for this text's walks alone
set_option linter.unusedVariables false
set_option linter.unusedSimpArgs false
def deadfallref03_Operator.f (a0 : ByteArray) : Option (Bool) := if a0.toList = ([45] : List UInt8) then (some true) else (if a0.toList = ([58, 45] : List UInt8) then (some true) else (if a0.toList = ([61] : List UInt8) then (some true) else (if a0.toList = ([58, 61] : List UInt8) then (some true) else (if a0.toList = ([43] : List UInt8) then (some true) else (if a0.toList = ([58, 43] : List UInt8) then (some true) else (if a0.toList = ([63] : List UInt8) then (some true) else (some (a0.toList == ([58, 63] : List UInt8)))))))))
set_option maxHeartbeats 8000000 in
set_option maxRecDepth 100000 in
theorem deadfallref03_Operator.calls (a0 : ByteArray) (r : Bool) (w : World) (h : deadfallref03_Operator.f a0 = some r) :
    Calls Tryd.prog 39 #[.string a0] w fun e w' => e = .returned (.bool r) ∧ Drawn0 w w' := by
  have H : (if a0.toList = ([45] : List UInt8) then (some true) else (if a0.toList = ([58, 45] : List UInt8) then (some true) else (if a0.toList = ([61] : List UInt8) then (some true) else (if a0.toList = ([58, 61] : List UInt8) then (some true) else (if a0.toList = ([43] : List UInt8) then (some true) else (if a0.toList = ([58, 43] : List UInt8) then (some true) else (if a0.toList = ([63] : List UInt8) then (some true) else (some (a0.toList == ([58, 63] : List UInt8)))))))))) = some r := h
  clear h
  by_cases c2 : a0.toList = ([45] : List UInt8)
  · rw [if_pos c2] at H
    have c2b0 : (a0.toList == ([45] : List UInt8)) = true := beq_iff_eq.mpr c2
    have c2b1 : (a0.toList != ([45] : List UInt8)) = false := bne_eq_false_iff_eq.mpr c2
    clear c2
    obtain rfl := Option.some.inj H
    go_enter Tryd.func39, Tryd.ntmps39
    go_wp2
    go_ret
    exact ⟨by first | rfl | (simp; done) | (simp [*]; done), by repeat (first | exact Drawn0.refl _ | apply Drawn0.step)⟩
  · rw [if_neg c2] at H
    have c2b0 : (a0.toList == ([45] : List UInt8)) = false := beq_eq_false_iff_ne.mpr c2
    have c2b1 : (a0.toList != ([45] : List UInt8)) = true := bne_iff_ne.mpr c2
    by_cases c3 : a0.toList = ([58, 45] : List UInt8)
    · rw [if_pos c3] at H
      have c3b0 : (a0.toList == ([58, 45] : List UInt8)) = true := beq_iff_eq.mpr c3
      have c3b1 : (a0.toList != ([58, 45] : List UInt8)) = false := bne_eq_false_iff_eq.mpr c3
      clear c3
      obtain rfl := Option.some.inj H
      go_enter Tryd.func39, Tryd.ntmps39
      go_wp2
      go_ret
      exact ⟨by first | rfl | (simp; done) | (simp [*]; done), by repeat (first | exact Drawn0.refl _ | apply Drawn0.step)⟩
    · rw [if_neg c3] at H
      have c3b0 : (a0.toList == ([58, 45] : List UInt8)) = false := beq_eq_false_iff_ne.mpr c3
      have c3b1 : (a0.toList != ([58, 45] : List UInt8)) = true := bne_iff_ne.mpr c3
      by_cases c4 : a0.toList = ([61] : List UInt8)
      · rw [if_pos c4] at H
        have c4b0 : (a0.toList == ([61] : List UInt8)) = true := beq_iff_eq.mpr c4
        have c4b1 : (a0.toList != ([61] : List UInt8)) = false := bne_eq_false_iff_eq.mpr c4
        clear c4
        obtain rfl := Option.some.inj H
        go_enter Tryd.func39, Tryd.ntmps39
        go_wp2
        go_ret
        exact ⟨by first | rfl | (simp; done) | (simp [*]; done), by repeat (first | exact Drawn0.refl _ | apply Drawn0.step)⟩
      · rw [if_neg c4] at H
        have c4b0 : (a0.toList == ([61] : List UInt8)) = false := beq_eq_false_iff_ne.mpr c4
        have c4b1 : (a0.toList != ([61] : List UInt8)) = true := bne_iff_ne.mpr c4
        by_cases c5 : a0.toList = ([58, 61] : List UInt8)
        · rw [if_pos c5] at H
          have c5b0 : (a0.toList == ([58, 61] : List UInt8)) = true := beq_iff_eq.mpr c5
          have c5b1 : (a0.toList != ([58, 61] : List UInt8)) = false := bne_eq_false_iff_eq.mpr c5
          clear c5
          obtain rfl := Option.some.inj H
          go_enter Tryd.func39, Tryd.ntmps39
          go_wp2
          go_ret
          exact ⟨by first | rfl | (simp; done) | (simp [*]; done), by repeat (first | exact Drawn0.refl _ | apply Drawn0.step)⟩
        · rw [if_neg c5] at H
          have c5b0 : (a0.toList == ([58, 61] : List UInt8)) = false := beq_eq_false_iff_ne.mpr c5
          have c5b1 : (a0.toList != ([58, 61] : List UInt8)) = true := bne_iff_ne.mpr c5
          by_cases c6 : a0.toList = ([43] : List UInt8)
          · rw [if_pos c6] at H
            have c6b0 : (a0.toList == ([43] : List UInt8)) = true := beq_iff_eq.mpr c6
            have c6b1 : (a0.toList != ([43] : List UInt8)) = false := bne_eq_false_iff_eq.mpr c6
            clear c6
            obtain rfl := Option.some.inj H
            go_enter Tryd.func39, Tryd.ntmps39
            go_wp2
            go_ret
            exact ⟨by first | rfl | (simp; done) | (simp [*]; done), by repeat (first | exact Drawn0.refl _ | apply Drawn0.step)⟩
          · rw [if_neg c6] at H
            have c6b0 : (a0.toList == ([43] : List UInt8)) = false := beq_eq_false_iff_ne.mpr c6
            have c6b1 : (a0.toList != ([43] : List UInt8)) = true := bne_iff_ne.mpr c6
            by_cases c7 : a0.toList = ([58, 43] : List UInt8)
            · rw [if_pos c7] at H
              have c7b0 : (a0.toList == ([58, 43] : List UInt8)) = true := beq_iff_eq.mpr c7
              have c7b1 : (a0.toList != ([58, 43] : List UInt8)) = false := bne_eq_false_iff_eq.mpr c7
              clear c7
              obtain rfl := Option.some.inj H
              go_enter Tryd.func39, Tryd.ntmps39
              go_wp2
              go_ret
              exact ⟨by first | rfl | (simp; done) | (simp [*]; done), by repeat (first | exact Drawn0.refl _ | apply Drawn0.step)⟩
            · rw [if_neg c7] at H
              have c7b0 : (a0.toList == ([58, 43] : List UInt8)) = false := beq_eq_false_iff_ne.mpr c7
              have c7b1 : (a0.toList != ([58, 43] : List UInt8)) = true := bne_iff_ne.mpr c7
              by_cases c8 : a0.toList = ([63] : List UInt8)
              · rw [if_pos c8] at H
                have c8b0 : (a0.toList == ([63] : List UInt8)) = true := beq_iff_eq.mpr c8
                have c8b1 : (a0.toList != ([63] : List UInt8)) = false := bne_eq_false_iff_eq.mpr c8
                clear c8
                obtain rfl := Option.some.inj H
                go_enter Tryd.func39, Tryd.ntmps39
                go_wp2
                go_ret
                exact ⟨by first | rfl | (simp; done) | (simp [*]; done), by repeat (first | exact Drawn0.refl _ | apply Drawn0.step)⟩
              · rw [if_neg c8] at H
                have c8b0 : (a0.toList == ([63] : List UInt8)) = false := beq_eq_false_iff_ne.mpr c8
                have c8b1 : (a0.toList != ([63] : List UInt8)) = true := bne_iff_ne.mpr c8
                obtain rfl := Option.some.inj H
                go_enter Tryd.func39, Tryd.ntmps39
                go_wp2
                go_ret
                exact ⟨by first | rfl | (simp; done) | (simp [*]; done), by repeat (first | exact Drawn0.refl _ | apply Drawn0.step)⟩
end Go.Proofs.YtkecpfjmdokieaaDoor.P
