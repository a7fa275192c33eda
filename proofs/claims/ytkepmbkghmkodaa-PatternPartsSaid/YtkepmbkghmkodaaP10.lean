-- printed by a program of this session (wip/pp): a Lean function and a proof for each Go function
import Derived.Test.YtkepmbkghmkodaaP0
import Derived.Test.YtkepmbkghmkodaaP6
import Derived.Test.YtkepmbkghmkodaaP9
import Derived.Test.YtkepmbkghmkodaaPatOracle
namespace Go.Proofs.Ytkepmbkghmkodaa.P
open Go.RowKit Go.Proofs.YtkepmbkghmkodaaW.PrintWords Go.Proofs.YtkepmbkghmkodaaW.PrintLast Go.Proofs.YtkepmbkghmkodaaW.PrintMore
attribute [local go_sem] max2_int min2_int max_two min_two max_three min_three max_four min_four   -- for this text's walks alone
set_option linter.unusedVariables false
set_option linter.unusedSimpArgs false

/-! ### deadfalllaw08_PatternParts: function 10 -/
mutual
def deadfalllaw08_PatternParts.j0 : Nat → ByteArray → ByteArray → ByteArray → Bool → Option (Bool)
  | 0, _, _, _, _ => none
  | k + 1, x0, x1, x2, x25 => if x25 = true then (some true) else ((pattern_Literal.f x0).bind fun t383 => ((pattern_Match.f t383 x1).bind fun t386 => (if (t386 != (x0.toList == x1.toList)) = true then (deadfalllaw08_PatternParts.j1 k x0 x1 true) else (if x0.size + x1.size ≤ 9223372036854775807 then (if (x0 ++ x1).size + x2.size ≤ 9223372036854775807 then ((pattern_Match.f (([(⟨(⟨#[42]⟩ : ByteArray), false, false⟩ : S26), (⟨x1, true, false⟩ : S26), (⟨(⟨#[42]⟩ : ByteArray), false, false⟩ : S26)] : List (S26))) ((x0 ++ x1) ++ x2)).bind fun t390 => (if t390 = true then ((pattern_Match.f (([(⟨(⟨#[42]⟩ : ByteArray), false, false⟩ : S26), (⟨(⟨#[120]⟩ : ByteArray), false, true⟩ : S26), (⟨(⟨#[42]⟩ : ByteArray), false, false⟩ : S26)] : List (S26))) x0).bind fun t394 => (if t394 = true then ((pattern_Literal.f x0).bind fun t395 => ((deadfallref08_Same.f k t395 (([(⟨x0, true, false⟩ : S26)] : List (S26)))).bind fun t401 => (deadfalllaw08_PatternParts.j1 k x0 x1 (!t401)))) else (deadfalllaw08_PatternParts.j1 k x0 x1 true))) else (deadfalllaw08_PatternParts.j1 k x0 x1 true))) else (none)) else (none)))))
def deadfalllaw08_PatternParts.j1 : Nat → ByteArray → ByteArray → Bool → Option (Bool)
  | 0, _, _, _ => none
  | k + 1, x0, x1, x67 => if x67 = true then (some false) else ((some (([(⟨x0, false, false⟩ : S26)] : List (S26)) : List (S26))).bind fun y402 => ((pattern_Plain.f y402).bind fun t405 => (if t405 = true then ((pattern_Match.f y402 x1).bind fun t406 => (deadfalllaw08_PatternParts.j2 k x0 x1 (t406 != (x0.toList == x1.toList)))) else (deadfalllaw08_PatternParts.j2 k x0 x1 false))))
def deadfalllaw08_PatternParts.j2 : Nat → ByteArray → ByteArray → Bool → Option (Bool)
  | 0, _, _, _ => none
  | k + 1, x0, x1, x81 => if x81 = true then (some false) else (deadfalllaw08_PatternParts.l0 k x0 x1 (⟨#[]⟩ : ByteArray) (x0.size : Int) 0)
def deadfalllaw08_PatternParts.l0 : Nat → ByteArray → ByteArray → ByteArray → Int → Int → Option (Bool)
  | 0, _, _, _, _, _ => none
  | k + 1, x0, x1, x10, x83, x84 => if x84 < x83 then (if x10.size + 1 ≤ 9223372036854775807 then (deadfalllaw08_PatternParts.l0 k x0 x1 (x10 ++ (⟨#[63]⟩ : ByteArray)) x83 (wrap64 (x84 + 1))) else (none)) else ((pattern_Match.f (([(⟨x10, false, false⟩ : S26)] : List (S26))) x1).bind fun t410 => (if (t410 == ((x0.size : Int) == (x1.size : Int))) = true then ((pattern_Literal.f x0).bind fun t411 => ((pattern_Plain.f t411).bind fun t414 => (some t414))) else (some false)))
end
def deadfalllaw08_PatternParts.f (k : Nat) (a0 : ByteArray) (a1 : ByteArray) (a2 : ByteArray) : Option (Bool) := (deadfalllaw08_patternAlive.f).bind fun t380 => (if t380 = true then (if (a0.size : Int) > 100 then (deadfalllaw08_PatternParts.j0 k a0 a1 a2 true) else (if (a1.size : Int) > 100 then (deadfalllaw08_PatternParts.j0 k a0 a1 a2 true) else (deadfalllaw08_PatternParts.j0 k a0 a1 a2 (decide ((a2.size : Int) > 100))))) else (some false))
theorem deadfalllaw08_PatternParts.mono_l : ∀ k, (∀ y0 y1 y2 y3, LeO (deadfalllaw08_PatternParts.j0 k y0 y1 y2 y3) (deadfalllaw08_PatternParts.j0 (k + 1) y0 y1 y2 y3)) ∧ (∀ y0 y1 y2, LeO (deadfalllaw08_PatternParts.j1 k y0 y1 y2) (deadfalllaw08_PatternParts.j1 (k + 1) y0 y1 y2)) ∧ (∀ y0 y1 y2, LeO (deadfalllaw08_PatternParts.j2 k y0 y1 y2) (deadfalllaw08_PatternParts.j2 (k + 1) y0 y1 y2)) ∧ (∀ y0 y1 y2 y3 y4, LeO (deadfalllaw08_PatternParts.l0 k y0 y1 y2 y3 y4) (deadfalllaw08_PatternParts.l0 (k + 1) y0 y1 y2 y3 y4))
  | 0 => ⟨fun _ _ _ _ r h => by simp [deadfalllaw08_PatternParts.j0] at h, fun _ _ _ r h => by simp [deadfalllaw08_PatternParts.j1] at h, fun _ _ _ r h => by simp [deadfalllaw08_PatternParts.j2] at h, fun _ _ _ _ _ r h => by simp [deadfalllaw08_PatternParts.l0] at h⟩
  | k + 1 => by
    obtain ⟨ih0, ih1, ih2, ih3⟩ := deadfalllaw08_PatternParts.mono_l k
    refine ⟨?_, ?_, ?_, ?_⟩
    · intro y0 y1 y2 y3
      unfold deadfalllaw08_PatternParts.j0
      repeat' first
      | (with_reducible exact ih0 _ _ _ _)
      | (with_reducible exact ih1 _ _ _)
      | (with_reducible exact ih2 _ _ _)
      | (with_reducible exact ih3 _ _ _ _ _)
      | (with_reducible exact deadfallref08_Same.mono _ _ _)
      | (with_reducible exact LeO.refl _)
      | (with_reducible exact LeO.none _)
      | (with_reducible refine LeO.ite ?_ ?_)
      | (with_reducible refine LeO.bind ?_ (fun _ => ?_))
      | exact ih0 _ _ _ _
      | exact ih1 _ _ _
      | exact ih2 _ _ _
      | exact ih3 _ _ _ _ _
      | exact deadfallref08_Same.mono _ _ _
      | exact LeO.none _
      | refine LeO.ite ?_ ?_
      | refine LeO.bind ?_ (fun _ => ?_)
    · intro y0 y1 y2
      unfold deadfalllaw08_PatternParts.j1
      repeat' first
      | (with_reducible exact ih0 _ _ _ _)
      | (with_reducible exact ih1 _ _ _)
      | (with_reducible exact ih2 _ _ _)
      | (with_reducible exact ih3 _ _ _ _ _)
      | (with_reducible exact deadfallref08_Same.mono _ _ _)
      | (with_reducible exact LeO.refl _)
      | (with_reducible exact LeO.none _)
      | (with_reducible refine LeO.ite ?_ ?_)
      | (with_reducible refine LeO.bind ?_ (fun _ => ?_))
      | exact ih0 _ _ _ _
      | exact ih1 _ _ _
      | exact ih2 _ _ _
      | exact ih3 _ _ _ _ _
      | exact deadfallref08_Same.mono _ _ _
      | exact LeO.none _
      | refine LeO.ite ?_ ?_
      | refine LeO.bind ?_ (fun _ => ?_)
    · intro y0 y1 y2
      unfold deadfalllaw08_PatternParts.j2
      repeat' first
      | (with_reducible exact ih0 _ _ _ _)
      | (with_reducible exact ih1 _ _ _)
      | (with_reducible exact ih2 _ _ _)
      | (with_reducible exact ih3 _ _ _ _ _)
      | (with_reducible exact deadfallref08_Same.mono _ _ _)
      | (with_reducible exact LeO.refl _)
      | (with_reducible exact LeO.none _)
      | (with_reducible refine LeO.ite ?_ ?_)
      | (with_reducible refine LeO.bind ?_ (fun _ => ?_))
      | exact ih0 _ _ _ _
      | exact ih1 _ _ _
      | exact ih2 _ _ _
      | exact ih3 _ _ _ _ _
      | exact deadfallref08_Same.mono _ _ _
      | exact LeO.none _
      | refine LeO.ite ?_ ?_
      | refine LeO.bind ?_ (fun _ => ?_)
    · intro y0 y1 y2 y3 y4
      unfold deadfalllaw08_PatternParts.l0
      repeat' first
      | (with_reducible exact ih0 _ _ _ _)
      | (with_reducible exact ih1 _ _ _)
      | (with_reducible exact ih2 _ _ _)
      | (with_reducible exact ih3 _ _ _ _ _)
      | (with_reducible exact deadfallref08_Same.mono _ _ _)
      | (with_reducible exact LeO.refl _)
      | (with_reducible exact LeO.none _)
      | (with_reducible refine LeO.ite ?_ ?_)
      | (with_reducible refine LeO.bind ?_ (fun _ => ?_))
      | exact ih0 _ _ _ _
      | exact ih1 _ _ _
      | exact ih2 _ _ _
      | exact ih3 _ _ _ _ _
      | exact deadfallref08_Same.mono _ _ _
      | exact LeO.none _
      | refine LeO.ite ?_ ?_
      | refine LeO.bind ?_ (fun _ => ?_)
theorem deadfalllaw08_PatternParts.mono : ∀ a0 a1 a2 k, LeO (deadfalllaw08_PatternParts.f k a0 a1 a2) (deadfalllaw08_PatternParts.f (k + 1) a0 a1 a2) := by
  intro a0 a1 a2 k
  obtain ⟨ih0, ih1, ih2, ih3⟩ := deadfalllaw08_PatternParts.mono_l k
  unfold deadfalllaw08_PatternParts.f
  repeat' first
      | (with_reducible exact ih0 _ _ _ _)
      | (with_reducible exact ih1 _ _ _)
      | (with_reducible exact ih2 _ _ _)
      | (with_reducible exact ih3 _ _ _ _ _)
      | (with_reducible exact deadfallref08_Same.mono _ _ _)
      | (with_reducible exact LeO.refl _)
      | (with_reducible exact LeO.none _)
      | (with_reducible refine LeO.ite ?_ ?_)
      | (with_reducible refine LeO.bind ?_ (fun _ => ?_))
      | exact ih0 _ _ _ _
      | exact ih1 _ _ _
      | exact ih2 _ _ _
      | exact ih3 _ _ _ _ _
      | exact deadfallref08_Same.mono _ _ _
      | exact LeO.none _
      | refine LeO.ite ?_ ?_
      | refine LeO.bind ?_ (fun _ => ?_)
set_option maxHeartbeats 8000000 in
set_option maxRecDepth 100000 in
theorem deadfalllaw08_PatternParts.calls (k : Nat) (a0 : ByteArray) (a1 : ByteArray) (a2 : ByteArray) (r : Bool) (w : World) (h : deadfalllaw08_PatternParts.f k a0 a1 a2 = some r) :
    Calls Try.prog 10 #[.string a0, .string a1, .string a2] w fun e w' => e = .returned (.bool r) ∧ Below w.heap.size w w' := by
  have hu26 := Try.underlying26
  have HB := Aside0.mk (Below.refl w.heap.size w)
  have H : ((deadfalllaw08_patternAlive.f).bind fun t380 => (if t380 = true then (if (a0.size : Int) > 100 then (deadfalllaw08_PatternParts.j0 k a0 a1 a2 true) else (if (a1.size : Int) > 100 then (deadfalllaw08_PatternParts.j0 k a0 a1 a2 true) else (deadfalllaw08_PatternParts.j0 k a0 a1 a2 (decide ((a2.size : Int) > 100))))) else (some false))) = some r := h
  clear h
  replace H := Option.bind_eq_some_iff.mp H
  obtain ⟨t380, A40, H⟩ := H
  replace H : (if t380 = true then (if (a0.size : Int) > 100 then (deadfalllaw08_PatternParts.j0 k a0 a1 a2 true) else (if (a1.size : Int) > 100 then (deadfalllaw08_PatternParts.j0 k a0 a1 a2 true) else (deadfalllaw08_PatternParts.j0 k a0 a1 a2 (decide ((a2.size : Int) > 100))))) else (some false)) = some r := H
  have A4 := Aside0.mk A40
  clear A40
  by_cases c5 : t380 = true
  · subst c5
    have H1 : (if (a0.size : Int) > 100 then (deadfalllaw08_PatternParts.j0 k a0 a1 a2 true) else (if (a1.size : Int) > 100 then (deadfalllaw08_PatternParts.j0 k a0 a1 a2 true) else (deadfalllaw08_PatternParts.j0 k a0 a1 a2 (decide ((a2.size : Int) > 100))))) = some r := by rw [if_pos rfl] at H; exact H
    clear H
    have H := H1
    clear H1
    have HC6 := Aside0.mk H
    clear H
    go_enter Try.func10, Try.ntmps10
    go_upto_region 3 with (first | ((with_reducible refine gate_callee (f := 43) rfl ?_); refine goesL_ (some 11) rfl rfl Try.func43 (by kernel_rfl) rfl #[] rfl (by (try simp only [List.map_toArray, List.map_cons, List.map_nil]); first | done | rfl | (simp only [List.length_drop, List.length_take]; rfl)) ?_; (with_reducible refine (deadfalllaw08_patternAlive.calls  true _ A4.out).mono ?_); rintro e w7 ⟨rfl, hb⟩; refine ⟨_, rfl, ?_⟩; have n0_ := Aside0.mk (below_step (by repeat (first | (with_reducible first | exact HB.out | apply below_alloc | apply pw_below_drewN | apply below_drew1) | exact HB.out)) hb); clear HB; have HB := n0_; clear n0_; (try clear hb); (try clear hb2); (try clear hk); (try clear hi)))
    (try simp only [Act.put, List.setIfInBounds_toArray, List.set_cons_zero, List.set_cons_succ])
    go_cut [25] (fun v25 wc => ∃ (kq : Nat) (x25_5 : Bool), v25 = .bool x25_5 ∧ Aside0 (deadfalllaw08_PatternParts.j0 kq a0 a1 a2 x25_5 = some r) ∧ Aside0 (kq ≤ k) ∧ Aside0 (Below w.heap.size w wc))
    case first =>
      have H := HC6.out
      clear HC6
      by_cases c8 : (a0.size : Int) > 100
      · rw [if_pos c8] at H
        have c8b0 : decide (100 < (a0.size : Int)) = true := decide_eq_true c8
        have c8b1 : decide (100 < a0.size) = true := decide_eq_true (by omega)
        clear c8
        (first | rw [c8b0] | (simp only [i64_w, i32_w]; rw [c8b0]) | skip)
        have H' := Aside0.mk H
        clear H
        go_wp2
        go_meet
        case rel => exact ⟨_, (true), (by first | rfl | (simp; done) | (simp [*]; done)), H', ⟨by first | omega | exact Nat.le_refl _⟩, ⟨by repeat (first | (with_reducible first | exact HB.out | apply below_alloc | apply pw_below_drewN | apply below_drew1) | exact HB.out)⟩⟩
      · rw [if_neg c8] at H
        have c8b0 : decide (100 < (a0.size : Int)) = false := decide_eq_false c8
        have c8b1 : decide (100 < a0.size) = false := decide_eq_false (by omega)
        clear c8
        (first | rw [c8b0] | (simp only [i64_w, i32_w]; rw [c8b0]) | skip)
        by_cases c9 : (a1.size : Int) > 100
        · rw [if_pos c9] at H
          have c9b0 : decide (100 < (a1.size : Int)) = true := decide_eq_true c9
          have c9b1 : decide (100 < a1.size) = true := decide_eq_true (by omega)
          clear c9
          have H' := Aside0.mk H
          clear H
          go_wp2
          go_meet
          case rel => exact ⟨_, (true), (by first | rfl | (simp; done) | (simp [*]; done)), H', ⟨by first | omega | exact Nat.le_refl _⟩, ⟨by repeat (first | (with_reducible first | exact HB.out | apply below_alloc | apply pw_below_drewN | apply below_drew1) | exact HB.out)⟩⟩
        · rw [if_neg c9] at H
          have c9b0 : decide (100 < (a1.size : Int)) = false := decide_eq_false c9
          have c9b1 : decide (100 < a1.size) = false := decide_eq_false (by omega)
          clear c9
          have H' := Aside0.mk H
          clear H
          go_wp2
          go_meet
          case rel => exact ⟨_, (decide ((a2.size : Int) > 100)), (by first | rfl | (simp; done) | (simp [*]; done)), H', ⟨by first | omega | exact Nat.le_refl _⟩, ⟨by repeat (first | (with_reducible first | exact HB.out | apply below_alloc | apply pw_below_drewN | apply below_drew1) | exact HB.out)⟩⟩
    case rest =>
      clear HC6
      try clear c1
      try clear p2
      try clear c4
      try clear c5
      try clear c8
      try clear c8b0
      try clear c8b1
      try clear c9
      try clear c9b0
      try clear c9b1
      obtain ⟨kq, x25_5, rfl, HA, HJ5, HB⟩ := hcut
      cases kq with
      | zero => exact absurd HA.out (by simp [deadfalllaw08_PatternParts.j0])
      | succ kj5 =>
        have H := HA.out
        clear HA
        simp only [deadfalllaw08_PatternParts.j0] at H
        by_cases c10 : x25_5 = true
        · subst c10
          have H1 : (some true) = some r := by rw [if_pos rfl] at H; exact H
          clear H
          have H := H1
          clear H1
          obtain rfl := Option.some.inj H
          go_wp2
          go_ret
          exact ⟨by first | rfl | (simp [errW_none, errW_some] <;> rfl) | (simp [*, errW_none, errW_some] <;> rfl), by repeat (first | (with_reducible first | exact HB.out | apply below_alloc | apply pw_below_drewN | apply below_drew1) | exact HB.out)⟩
        · replace c10 := Bool.eq_false_iff.mpr c10
          subst c10
          have H1 : ((pattern_Literal.f a0).bind fun t383 => ((pattern_Match.f t383 a1).bind fun t386 => (if (t386 != (a0.toList == a1.toList)) = true then (deadfalllaw08_PatternParts.j1 kj5 a0 a1 true) else (if a0.size + a1.size ≤ 9223372036854775807 then (if (a0 ++ a1).size + a2.size ≤ 9223372036854775807 then ((pattern_Match.f (([(⟨(⟨#[42]⟩ : ByteArray), false, false⟩ : S26), (⟨a1, true, false⟩ : S26), (⟨(⟨#[42]⟩ : ByteArray), false, false⟩ : S26)] : List (S26))) ((a0 ++ a1) ++ a2)).bind fun t390 => (if t390 = true then ((pattern_Match.f (([(⟨(⟨#[42]⟩ : ByteArray), false, false⟩ : S26), (⟨(⟨#[120]⟩ : ByteArray), false, true⟩ : S26), (⟨(⟨#[42]⟩ : ByteArray), false, false⟩ : S26)] : List (S26))) a0).bind fun t394 => (if t394 = true then ((pattern_Literal.f a0).bind fun t395 => ((deadfallref08_Same.f kj5 t395 (([(⟨a0, true, false⟩ : S26)] : List (S26)))).bind fun t401 => (deadfalllaw08_PatternParts.j1 kj5 a0 a1 (!t401)))) else (deadfalllaw08_PatternParts.j1 kj5 a0 a1 true))) else (deadfalllaw08_PatternParts.j1 kj5 a0 a1 true))) else (none)) else (none))))) = some r := by rw [if_neg (show ¬ (false = true) by decide)] at H; exact H
          clear H
          have H := H1
          clear H1
          have HC11 := Aside0.mk H
          clear H
          go_upto_region 7 with (first | ((with_reducible refine gate_dst (N := 7) rfl ?_); (try (refine gate_guard (by rfl) ?_; dsimp only)); refine box_event ?hg (N := 7) ?hd (cs := #[.string (⟨#[]⟩ : ByteArray), .bool false, .bool false]) (t := 26) ?hr ?_; (case hd => rfl); (case hg => rfl); (case hr => first | (go_simp; done) | (go_simp; rfl)); intro gb381 hg w12 hbox hb; have n0_ := Aside0.mk (below_step (by repeat (first | (with_reducible first | exact HB.out | apply below_alloc | apply pw_below_drewN | apply below_drew1) | exact HB.out)) hb); have n1_ := Aside0.mk (hbox); have n2_ := Aside0.mk ((by rw [hg]; exact (below_size (by repeat (first | (with_reducible first | exact HB.out | apply below_alloc | apply pw_below_drewN | apply below_drew1) | exact HB.out))) : w.heap.size ≤ gb381)); have n3_ := Aside0.mk ((by rw [hg]; exact (below_size (by repeat (first | (with_reducible first | exact HB.out | apply below_alloc | apply pw_below_drewN | apply below_drew1) | exact HB.out))) : w.heap.size ≤ gb381)); clear HB; have HB := n0_; have BK381 := n1_; have GW381 := n2_; have GE381 := n3_; clear n0_ n1_ n2_ n3_; clear hb hbox hg; have hcz13_0 : w12.cell? ⟨gb381, 0, none⟩ = some (.string (⟨#[]⟩ : ByteArray)) := (blk_cell BK381.out 0).trans rfl; have hcz13_1 : w12.cell? ⟨gb381, 1, none⟩ = some (.bool false) := (blk_cell BK381.out 1).trans rfl; have hcz13_2 : w12.cell? ⟨gb381, 2, none⟩ = some (.bool false) := (blk_cell BK381.out 2).trans rfl; have hfz13_0 := blk_frozen BK381.out 0; have hfz13_1 := blk_frozen BK381.out 1; have hfz13_2 := blk_frozen BK381.out 2) | ((with_reducible refine gate_dst (N := 8) rfl ?_); (try (refine gate_guard (by rfl) ?_; dsimp only)); refine box_event ?hg (N := 8) ?hd (cs := #[.string (⟨#[]⟩ : ByteArray), .bool false, .bool false]) (t := 26) ?hr ?_; (case hd => rfl); (case hg => rfl); (case hr => first | (go_simp; done) | (go_simp; rfl)); intro gb382 hg w14 hbox hb; have n0_ := Aside0.mk (blk_below (g := gb381) (o := .cells #[.string (⟨#[42]⟩ : ByteArray), .bool false, .bool false] 26 (0, 0)) (by (with_reducible repeat (first | refine blk_drewN ?_ _ | refine blk_drew ?_ | refine blk_alloc ?_ _)); refine blk_put (cs := #[.string (⟨#[42]⟩ : ByteArray), .bool false, .bool false]) ?_ 2 _ rfl; (with_reducible repeat (first | refine blk_drewN ?_ _ | refine blk_drew ?_ | refine blk_alloc ?_ _)); refine blk_put (cs := #[.string (⟨#[42]⟩ : ByteArray), .bool false, .bool false]) ?_ 1 _ rfl; (with_reducible repeat (first | refine blk_drewN ?_ _ | refine blk_drew ?_ | refine blk_alloc ?_ _)); refine blk_put (cs := #[.string (⟨#[]⟩ : ByteArray), .bool false, .bool false]) ?_ 0 _ rfl; (with_reducible repeat (first | refine blk_drewN ?_ _ | refine blk_drew ?_ | refine blk_alloc ?_ _)); exact BK381.out) hb); have n1_ := Aside0.mk (below_step (by repeat (first | (with_reducible first | exact HB.out | apply below_alloc | apply pw_below_drewN | apply below_drew1 | refine below_set ?_ GE381.out) | exact HB.out)) hb); have n2_ := Aside0.mk (hbox); have n3_ := Aside0.mk ((by rw [hg]; exact (below_size (by repeat (first | (with_reducible first | exact HB.out | apply below_alloc | apply pw_below_drewN | apply below_drew1 | refine below_set ?_ GE381.out) | exact HB.out))) : w.heap.size ≤ gb382)); have n4_ := Aside0.mk ((by rw [hg]; exact (below_size (by repeat (first | (with_reducible first | exact HB.out | apply below_alloc | apply pw_below_drewN | apply below_drew1 | refine below_set ?_ GE381.out) | exact HB.out))) : w.heap.size ≤ gb382)); have n5_ := Aside0.mk ((by rw [hg]; exact Nat.ne_of_lt (blk_lt (g := gb381) (o := .cells #[.string (⟨#[42]⟩ : ByteArray), .bool false, .bool false] 26 (0, 0)) (by (with_reducible repeat (first | refine blk_drewN ?_ _ | refine blk_drew ?_ | refine blk_alloc ?_ _)); refine blk_put (cs := #[.string (⟨#[42]⟩ : ByteArray), .bool false, .bool false]) ?_ 2 _ rfl; (with_reducible repeat (first | refine blk_drewN ?_ _ | refine blk_drew ?_ | refine blk_alloc ?_ _)); refine blk_put (cs := #[.string (⟨#[42]⟩ : ByteArray), .bool false, .bool false]) ?_ 1 _ rfl; (with_reducible repeat (first | refine blk_drewN ?_ _ | refine blk_drew ?_ | refine blk_alloc ?_ _)); refine blk_put (cs := #[.string (⟨#[]⟩ : ByteArray), .bool false, .bool false]) ?_ 0 _ rfl; (with_reducible repeat (first | refine blk_drewN ?_ _ | refine blk_drew ?_ | refine blk_alloc ?_ _)); exact BK381.out)) : gb381 ≠ gb382)); have n6_ := Aside0.mk ((by rw [hg]; exact Nat.ne_of_gt (blk_lt (g := gb381) (o := .cells #[.string (⟨#[42]⟩ : ByteArray), .bool false, .bool false] 26 (0, 0)) (by (with_reducible repeat (first | refine blk_drewN ?_ _ | refine blk_drew ?_ | refine blk_alloc ?_ _)); refine blk_put (cs := #[.string (⟨#[42]⟩ : ByteArray), .bool false, .bool false]) ?_ 2 _ rfl; (with_reducible repeat (first | refine blk_drewN ?_ _ | refine blk_drew ?_ | refine blk_alloc ?_ _)); refine blk_put (cs := #[.string (⟨#[42]⟩ : ByteArray), .bool false, .bool false]) ?_ 1 _ rfl; (with_reducible repeat (first | refine blk_drewN ?_ _ | refine blk_drew ?_ | refine blk_alloc ?_ _)); refine blk_put (cs := #[.string (⟨#[]⟩ : ByteArray), .bool false, .bool false]) ?_ 0 _ rfl; (with_reducible repeat (first | refine blk_drewN ?_ _ | refine blk_drew ?_ | refine blk_alloc ?_ _)); exact BK381.out)) : gb382 ≠ gb381)); clear BK381; clear HB; have BK381 := n0_; have HB := n1_; have BK382 := n2_; have GW382 := n3_; have GE382 := n4_; have NB381_382 := n5_; have NB382_381 := n6_; clear n0_ n1_ n2_ n3_ n4_ n5_ n6_; clear hb hbox hg; have hnb15 := NB382_381.out; have hnc15 := NB381_382.out; have hcz16_0 : w14.cell? ⟨gb382, 0, none⟩ = some (.string (⟨#[]⟩ : ByteArray)) := (blk_cell BK382.out 0).trans rfl; have hcz16_1 : w14.cell? ⟨gb382, 1, none⟩ = some (.bool false) := (blk_cell BK382.out 1).trans rfl; have hcz16_2 : w14.cell? ⟨gb382, 2, none⟩ = some (.bool false) := (blk_cell BK382.out 2).trans rfl; have hfz16_0 := blk_frozen BK382.out 0; have hfz16_1 := blk_frozen BK382.out 1; have hfz16_2 := blk_frozen BK382.out 2))
          (try simp only [Act.put, List.setIfInBounds_toArray, List.set_cons_zero, List.set_cons_succ])
          go_cut [67] (fun v67 wc => ∃ (kq : Nat) (x67_10 : Bool), v67 = .bool x67_10 ∧ Aside0 (deadfalllaw08_PatternParts.j1 kq a0 a1 x67_10 = some r) ∧ Aside0 (kq ≤ kj5) ∧ Aside0 (wc.heap[gb381]? = some (.cells #[.string (⟨#[42]⟩ : ByteArray), .bool false, .bool false] 26 (0, 0))) ∧ Aside0 (wc.heap[gb382]? = some (.cells #[.string a1, .bool true, .bool false] 26 (0, 0))) ∧ Aside0 (Below w.heap.size w wc))
          case first =>
            have H := HC11.out
            clear HC11
            replace H := Option.bind_eq_some_iff.mp H
            obtain ⟨t383, A170, H⟩ := H
            replace H : ((pattern_Match.f t383 a1).bind fun t386 => (if (t386 != (a0.toList == a1.toList)) = true then (deadfalllaw08_PatternParts.j1 kj5 a0 a1 true) else (if a0.size + a1.size ≤ 9223372036854775807 then (if (a0 ++ a1).size + a2.size ≤ 9223372036854775807 then ((pattern_Match.f (([(⟨(⟨#[42]⟩ : ByteArray), false, false⟩ : S26), (⟨a1, true, false⟩ : S26), (⟨(⟨#[42]⟩ : ByteArray), false, false⟩ : S26)] : List (S26))) ((a0 ++ a1) ++ a2)).bind fun t390 => (if t390 = true then ((pattern_Match.f (([(⟨(⟨#[42]⟩ : ByteArray), false, false⟩ : S26), (⟨(⟨#[120]⟩ : ByteArray), false, true⟩ : S26), (⟨(⟨#[42]⟩ : ByteArray), false, false⟩ : S26)] : List (S26))) a0).bind fun t394 => (if t394 = true then ((pattern_Literal.f a0).bind fun t395 => ((deadfallref08_Same.f kj5 t395 (([(⟨a0, true, false⟩ : S26)] : List (S26)))).bind fun t401 => (deadfalllaw08_PatternParts.j1 kj5 a0 a1 (!t401)))) else (deadfalllaw08_PatternParts.j1 kj5 a0 a1 true))) else (deadfalllaw08_PatternParts.j1 kj5 a0 a1 true))) else (none)) else (none)))) = some r := H
            have A17 := Aside0.mk A170
            clear A170
            replace H := Option.bind_eq_some_iff.mp H
            obtain ⟨t386, A180, H⟩ := H
            replace H : (if (t386 != (a0.toList == a1.toList)) = true then (deadfalllaw08_PatternParts.j1 kj5 a0 a1 true) else (if a0.size + a1.size ≤ 9223372036854775807 then (if (a0 ++ a1).size + a2.size ≤ 9223372036854775807 then ((pattern_Match.f (([(⟨(⟨#[42]⟩ : ByteArray), false, false⟩ : S26), (⟨a1, true, false⟩ : S26), (⟨(⟨#[42]⟩ : ByteArray), false, false⟩ : S26)] : List (S26))) ((a0 ++ a1) ++ a2)).bind fun t390 => (if t390 = true then ((pattern_Match.f (([(⟨(⟨#[42]⟩ : ByteArray), false, false⟩ : S26), (⟨(⟨#[120]⟩ : ByteArray), false, true⟩ : S26), (⟨(⟨#[42]⟩ : ByteArray), false, false⟩ : S26)] : List (S26))) a0).bind fun t394 => (if t394 = true then ((pattern_Literal.f a0).bind fun t395 => ((deadfallref08_Same.f kj5 t395 (([(⟨a0, true, false⟩ : S26)] : List (S26)))).bind fun t401 => (deadfalllaw08_PatternParts.j1 kj5 a0 a1 (!t401)))) else (deadfalllaw08_PatternParts.j1 kj5 a0 a1 true))) else (deadfalllaw08_PatternParts.j1 kj5 a0 a1 true))) else (none)) else (none))) = some r := H
            have A18 := Aside0.mk A180
            clear A180
            by_cases c19 : (t386 != (a0.toList == a1.toList)) = true
            · rw [if_pos c19] at H
              have c19b0 : (t386 != (a0.toList == a1.toList)) = true := c19
              (try (have c19b1 : decide (t386 = (a0.toList == a1.toList)) = false := by simpa using c19))
              (try (have c19b2 : (t386 == (a0.toList == a1.toList)) = false := by simpa using c19))
              (try (have c19b3 : ¬ (t386 = (a0.toList == a1.toList)) := by simpa using c19))
              clear c19
              (first | rw [c19b0] | (simp only [i64_w, i32_w]; rw [c19b0]) | skip)
              have H' := Aside0.mk H
              clear H
              go_wp2_with (first | ((with_reducible refine gate_callee (f := 49) rfl ?_); refine goesL_ (some 30) rfl rfl Try.func49 (by kernel_rfl) rfl #[.string a0] rfl (by (try simp only [List.map_toArray, List.map_cons, List.map_nil]); first | done | rfl | (simp only [List.length_drop, List.length_take]; rfl)) ?_; (with_reducible refine (pattern_Literal.calls a0 t383 _ A17.out).mono ?_); rintro e w20 ⟨v384, rfl, ho0, hb⟩; refine ⟨_, rfl, ?_⟩; have n0_ := Aside0.mk (Kd.R_lower (Kd.R_newB (Kd.R_newB ho0 (g := gb381) (o := .cells #[.string (⟨#[42]⟩ : ByteArray), .bool false, .bool false] 26 (0, 0)) (by (with_reducible repeat (first | refine blk_drewN ?_ _ | refine blk_drew ?_ | refine blk_alloc ?_ _)); refine blk_far ?_ NB381_382.out _; (with_reducible repeat (first | refine blk_drewN ?_ _ | refine blk_drew ?_ | refine blk_alloc ?_ _)); refine blk_far ?_ NB381_382.out _; (with_reducible repeat (first | refine blk_drewN ?_ _ | refine blk_drew ?_ | refine blk_alloc ?_ _)); refine blk_far ?_ NB381_382.out _; (with_reducible repeat (first | refine blk_drewN ?_ _ | refine blk_drew ?_ | refine blk_alloc ?_ _)); exact BK381.out)) (g := gb382) (o := .cells #[.string a1, .bool true, .bool false] 26 (0, 0)) (by (with_reducible repeat (first | refine blk_drewN ?_ _ | refine blk_drew ?_ | refine blk_alloc ?_ _)); refine blk_put (cs := #[.string a1, .bool true, .bool false]) ?_ 2 _ rfl; (with_reducible repeat (first | refine blk_drewN ?_ _ | refine blk_drew ?_ | refine blk_alloc ?_ _)); refine blk_put (cs := #[.string a1, .bool false, .bool false]) ?_ 1 _ rfl; (with_reducible repeat (first | refine blk_drewN ?_ _ | refine blk_drew ?_ | refine blk_alloc ?_ _)); refine blk_put (cs := #[.string (⟨#[]⟩ : ByteArray), .bool false, .bool false]) ?_ 0 _ rfl; (with_reducible repeat (first | refine blk_drewN ?_ _ | refine blk_drew ?_ | refine blk_alloc ?_ _)); exact BK382.out)) (below_size (by repeat (first | (with_reducible first | exact HB.out | apply below_alloc | apply pw_below_drewN | apply below_drew1 | refine below_set ?_ GE381.out | refine below_set ?_ GE382.out) | exact HB.out)))); have n1_ := Aside0.mk (blk_below (g := gb381) (o := .cells #[.string (⟨#[42]⟩ : ByteArray), .bool false, .bool false] 26 (0, 0)) (by (with_reducible repeat (first | refine blk_drewN ?_ _ | refine blk_drew ?_ | refine blk_alloc ?_ _)); refine blk_far ?_ NB381_382.out _; (with_reducible repeat (first | refine blk_drewN ?_ _ | refine blk_drew ?_ | refine blk_alloc ?_ _)); refine blk_far ?_ NB381_382.out _; (with_reducible repeat (first | refine blk_drewN ?_ _ | refine blk_drew ?_ | refine blk_alloc ?_ _)); refine blk_far ?_ NB381_382.out _; (with_reducible repeat (first | refine blk_drewN ?_ _ | refine blk_drew ?_ | refine blk_alloc ?_ _)); exact BK381.out) hb); have n2_ := Aside0.mk (blk_below (g := gb382) (o := .cells #[.string a1, .bool true, .bool false] 26 (0, 0)) (by (with_reducible repeat (first | refine blk_drewN ?_ _ | refine blk_drew ?_ | refine blk_alloc ?_ _)); refine blk_put (cs := #[.string a1, .bool true, .bool false]) ?_ 2 _ rfl; (with_reducible repeat (first | refine blk_drewN ?_ _ | refine blk_drew ?_ | refine blk_alloc ?_ _)); refine blk_put (cs := #[.string a1, .bool false, .bool false]) ?_ 1 _ rfl; (with_reducible repeat (first | refine blk_drewN ?_ _ | refine blk_drew ?_ | refine blk_alloc ?_ _)); refine blk_put (cs := #[.string (⟨#[]⟩ : ByteArray), .bool false, .bool false]) ?_ 0 _ rfl; (with_reducible repeat (first | refine blk_drewN ?_ _ | refine blk_drew ?_ | refine blk_alloc ?_ _)); exact BK382.out) hb); have n3_ := Aside0.mk (below_step (by repeat (first | (with_reducible first | exact HB.out | apply below_alloc | apply pw_below_drewN | apply below_drew1 | refine below_set ?_ GE381.out | refine below_set ?_ GE382.out) | exact HB.out)) hb); clear BK381; clear BK382; clear HB; have HO385 := n0_; have BK381 := n1_; have BK382 := n2_; have HB := n3_; clear n0_ n1_ n2_ n3_; (try clear hb); (try clear hb2); (try clear hk); (try clear hi); (try clear ho0); obtain ⟨Ao21, co21, eo21⟩ := Kd.R_slice HO385.out; subst eo21) | ((with_reducible refine gate_callee (f := 45) rfl ?_); refine goesL_ (some 32) rfl rfl Try.func45 (by kernel_rfl) rfl #[.slice Ao21 t383.length co21, .string a1] rfl (by (try simp only [List.map_toArray, List.map_cons, List.map_nil]); first | done | rfl | (simp only [List.length_drop, List.length_take]; rfl)) ?_; (with_reducible refine (pattern_Match.calls _ _ t383 a1 t386 _ ?side1 ?side2 A18.out).mono ?_); (case side1 => repeat (first | exact (Kd.R_reads' HO385.out).2.2 | (with_reducible refine Kd.C_alloc ?_ _) | (with_reducible refine Kd.C_drewN ?_ _) | (with_reducible refine Kd.C_drew ?_))); (case side2 => exact (Kd.R_reads' HO385.out).2.1); rintro e w22 ⟨rfl, hb⟩; refine ⟨_, rfl, ?_⟩; have n0_ := Aside0.mk (Kd.R_below (by (with_reducible repeat (first | apply Kd.R_alloc | apply Kd.R_drewN | apply Kd.R_drew)); exact HO385.out) hb); have n1_ := Aside0.mk (blk_below (g := gb381) (o := .cells #[.string (⟨#[42]⟩ : ByteArray), .bool false, .bool false] 26 (0, 0)) (by (with_reducible repeat (first | refine blk_drewN ?_ _ | refine blk_drew ?_ | refine blk_alloc ?_ _)); exact BK381.out) hb); have n2_ := Aside0.mk (blk_below (g := gb382) (o := .cells #[.string a1, .bool true, .bool false] 26 (0, 0)) (by (with_reducible repeat (first | refine blk_drewN ?_ _ | refine blk_drew ?_ | refine blk_alloc ?_ _)); exact BK382.out) hb); have n3_ := Aside0.mk (below_step (by repeat (first | (with_reducible first | exact HB.out | apply below_alloc | apply pw_below_drewN | apply below_drew1 | refine below_set ?_ GE381.out | refine below_set ?_ GE382.out) | exact HB.out)) hb); clear HO385; clear BK381; clear BK382; clear HB; have HO385 := n0_; have BK381 := n1_; have BK382 := n2_; have HB := n3_; clear n0_ n1_ n2_ n3_; (try clear hb); (try clear hb2); (try clear hk); (try clear hi)))
              go_meet
              case rel => exact ⟨_, (true), (by first | rfl | (simp; done) | (simp [*]; done)), H', ⟨by have := HJ5.out; first | omega | exact Nat.le_refl _⟩, ⟨by (with_reducible repeat (first | refine blk_drewN ?_ _ | refine blk_drew ?_ | refine blk_alloc ?_ _)); exact BK381.out⟩, ⟨by (with_reducible repeat (first | refine blk_drewN ?_ _ | refine blk_drew ?_ | refine blk_alloc ?_ _)); exact BK382.out⟩, ⟨by repeat (first | (with_reducible first | exact HB.out | apply below_alloc | apply pw_below_drewN | apply below_drew1 | refine below_set ?_ GE381.out | refine below_set ?_ GE382.out) | exact HB.out)⟩⟩
            · rw [if_neg c19] at H
              have c19b0 : (t386 != (a0.toList == a1.toList)) = false := by simpa using c19
              (try (have c19b1 : decide (t386 = (a0.toList == a1.toList)) = true := by simpa using c19))
              (try (have c19b2 : (t386 == (a0.toList == a1.toList)) = true := by simpa using c19))
              clear c19
              (first | rw [c19b0] | (simp only [i64_w, i32_w]; rw [c19b0]) | skip)
              obtain ⟨y387, hy387⟩ : ∃ y_ : List (S26), y_ = (([(⟨(⟨#[42]⟩ : ByteArray), false, false⟩ : S26), (⟨a1, true, false⟩ : S26), (⟨(⟨#[42]⟩ : ByteArray), false, false⟩ : S26)] : List (S26))) := ⟨_, rfl⟩
              replace H : (if a0.size + a1.size ≤ 9223372036854775807 then (if (a0 ++ a1).size + a2.size ≤ 9223372036854775807 then ((pattern_Match.f y387 ((a0 ++ a1) ++ a2)).bind fun t390 => (if t390 = true then ((pattern_Match.f (([(⟨(⟨#[42]⟩ : ByteArray), false, false⟩ : S26), (⟨(⟨#[120]⟩ : ByteArray), false, true⟩ : S26), (⟨(⟨#[42]⟩ : ByteArray), false, false⟩ : S26)] : List (S26))) a0).bind fun t394 => (if t394 = true then ((pattern_Literal.f a0).bind fun t395 => ((deadfallref08_Same.f kj5 t395 (([(⟨a0, true, false⟩ : S26)] : List (S26)))).bind fun t401 => (deadfalllaw08_PatternParts.j1 kj5 a0 a1 (!t401)))) else (deadfalllaw08_PatternParts.j1 kj5 a0 a1 true))) else (deadfalllaw08_PatternParts.j1 kj5 a0 a1 true))) else (none)) else (none)) = some r := by first | (rw [hy387]; with_reducible exact H) | (have H2_ := (Option.bind_some _ _).symm.trans H; rw [hy387]; with_reducible exact H2_) | (have H2_ := (Option.bind_some _ _).symm.trans H; with_reducible exact H2_) | with_reducible exact H | (rw [hy387]; exact H) | exact H
              have Ny387 := Aside0.mk hy387
              clear hy387
              by_cases c23 : a0.size + a1.size ≤ 9223372036854775807
              · rw [if_pos c23] at H
                have c23b0 := eq_true c23
                have c23b1 : decide (a0.size + a1.size ≤ 9223372036854775807) = true := decide_eq_true c23
                try have c23b2 : (9223372036854775807 < a0.size + a1.size) = False := eq_false (Nat.not_lt.2 c23)
                by_cases c24 : (a0 ++ a1).size + a2.size ≤ 9223372036854775807
                · rw [if_pos c24] at H
                  have c24b0 := eq_true c24
                  have c24b1 : decide ((a0 ++ a1).size + a2.size ≤ 9223372036854775807) = true := decide_eq_true c24
                  try have c24b2 : (9223372036854775807 < (a0 ++ a1).size + a2.size) = False := eq_false (Nat.not_lt.2 c24)
                  replace H := Option.bind_eq_some_iff.mp H
                  obtain ⟨t390, A250, H⟩ := H
                  replace H : (if t390 = true then ((pattern_Match.f (([(⟨(⟨#[42]⟩ : ByteArray), false, false⟩ : S26), (⟨(⟨#[120]⟩ : ByteArray), false, true⟩ : S26), (⟨(⟨#[42]⟩ : ByteArray), false, false⟩ : S26)] : List (S26))) a0).bind fun t394 => (if t394 = true then ((pattern_Literal.f a0).bind fun t395 => ((deadfallref08_Same.f kj5 t395 (([(⟨a0, true, false⟩ : S26)] : List (S26)))).bind fun t401 => (deadfalllaw08_PatternParts.j1 kj5 a0 a1 (!t401)))) else (deadfalllaw08_PatternParts.j1 kj5 a0 a1 true))) else (deadfalllaw08_PatternParts.j1 kj5 a0 a1 true)) = some r := H
                  have A25 := Aside0.mk A250
                  clear A250
                  by_cases c26 : t390 = true
                  · subst c26
                    have H1 : ((pattern_Match.f (([(⟨(⟨#[42]⟩ : ByteArray), false, false⟩ : S26), (⟨(⟨#[120]⟩ : ByteArray), false, true⟩ : S26), (⟨(⟨#[42]⟩ : ByteArray), false, false⟩ : S26)] : List (S26))) a0).bind fun t394 => (if t394 = true then ((pattern_Literal.f a0).bind fun t395 => ((deadfallref08_Same.f kj5 t395 (([(⟨a0, true, false⟩ : S26)] : List (S26)))).bind fun t401 => (deadfalllaw08_PatternParts.j1 kj5 a0 a1 (!t401)))) else (deadfalllaw08_PatternParts.j1 kj5 a0 a1 true))) = some r := by rw [if_pos rfl] at H; exact H
                    clear H
                    have H := H1
                    clear H1
                    obtain ⟨y391, hy391⟩ : ∃ y_ : List (S26), y_ = (([(⟨(⟨#[42]⟩ : ByteArray), false, false⟩ : S26), (⟨(⟨#[120]⟩ : ByteArray), false, true⟩ : S26), (⟨(⟨#[42]⟩ : ByteArray), false, false⟩ : S26)] : List (S26))) := ⟨_, rfl⟩
                    replace H : ((pattern_Match.f y391 a0).bind fun t394 => (if t394 = true then ((pattern_Literal.f a0).bind fun t395 => ((deadfallref08_Same.f kj5 t395 (([(⟨a0, true, false⟩ : S26)] : List (S26)))).bind fun t401 => (deadfalllaw08_PatternParts.j1 kj5 a0 a1 (!t401)))) else (deadfalllaw08_PatternParts.j1 kj5 a0 a1 true))) = some r := by first | (rw [hy391]; with_reducible exact H) | (have H2_ := (Option.bind_some _ _).symm.trans H; rw [hy391]; with_reducible exact H2_) | (have H2_ := (Option.bind_some _ _).symm.trans H; with_reducible exact H2_) | with_reducible exact H | (rw [hy391]; exact H) | exact H
                    have Ny391 := Aside0.mk hy391
                    clear hy391
                    replace H := Option.bind_eq_some_iff.mp H
                    obtain ⟨t394, A270, H⟩ := H
                    replace H : (if t394 = true then ((pattern_Literal.f a0).bind fun t395 => ((deadfallref08_Same.f kj5 t395 (([(⟨a0, true, false⟩ : S26)] : List (S26)))).bind fun t401 => (deadfalllaw08_PatternParts.j1 kj5 a0 a1 (!t401)))) else (deadfalllaw08_PatternParts.j1 kj5 a0 a1 true)) = some r := H
                    have A27 := Aside0.mk A270
                    clear A270
                    by_cases c28 : t394 = true
                    · subst c28
                      have H1 : ((pattern_Literal.f a0).bind fun t395 => ((deadfallref08_Same.f kj5 t395 (([(⟨a0, true, false⟩ : S26)] : List (S26)))).bind fun t401 => (deadfalllaw08_PatternParts.j1 kj5 a0 a1 (!t401)))) = some r := by rw [if_pos rfl] at H; exact H
                      clear H
                      have H := H1
                      clear H1
                      replace H := Option.bind_eq_some_iff.mp H
                      obtain ⟨t395, A290, H⟩ := H
                      replace H : ((deadfallref08_Same.f kj5 t395 (([(⟨a0, true, false⟩ : S26)] : List (S26)))).bind fun t401 => (deadfalllaw08_PatternParts.j1 kj5 a0 a1 (!t401))) = some r := H
                      have A29 := Aside0.mk A290
                      clear A290
                      obtain ⟨y398, hy398⟩ : ∃ y_ : List (S26), y_ = (([(⟨a0, true, false⟩ : S26)] : List (S26))) := ⟨_, rfl⟩
                      replace H : ((deadfallref08_Same.f kj5 t395 y398).bind fun t401 => (deadfalllaw08_PatternParts.j1 kj5 a0 a1 (!t401))) = some r := by first | (rw [hy398]; with_reducible exact H) | (have H2_ := (Option.bind_some _ _).symm.trans H; rw [hy398]; with_reducible exact H2_) | (have H2_ := (Option.bind_some _ _).symm.trans H; with_reducible exact H2_) | with_reducible exact H | (rw [hy398]; exact H) | exact H
                      have Ny398 := Aside0.mk hy398
                      clear hy398
                      replace H := Option.bind_eq_some_iff.mp H
                      obtain ⟨t401, A300, H⟩ := H
                      replace H : (deadfalllaw08_PatternParts.j1 kj5 a0 a1 (!t401)) = some r := H
                      have A30 := Aside0.mk A300
                      clear A300
                      have H' := Aside0.mk H
                      clear H
                      go_wp2_with (first | ((with_reducible refine gate_callee (f := 49) rfl ?_); refine goesL_ (some 30) rfl rfl Try.func49 (by kernel_rfl) rfl #[.string a0] rfl (by (try simp only [List.map_toArray, List.map_cons, List.map_nil]); first | done | rfl | (simp only [List.length_drop, List.length_take]; rfl)) ?_; (with_reducible refine (pattern_Literal.calls a0 t383 _ A17.out).mono ?_); rintro e w31 ⟨v384, rfl, ho0, hb⟩; refine ⟨_, rfl, ?_⟩; have n0_ := Aside0.mk (Kd.R_lower (Kd.R_newB (Kd.R_newB ho0 (g := gb381) (o := .cells #[.string (⟨#[42]⟩ : ByteArray), .bool false, .bool false] 26 (0, 0)) (by (with_reducible repeat (first | refine blk_drewN ?_ _ | refine blk_drew ?_ | refine blk_alloc ?_ _)); refine blk_far ?_ NB381_382.out _; (with_reducible repeat (first | refine blk_drewN ?_ _ | refine blk_drew ?_ | refine blk_alloc ?_ _)); refine blk_far ?_ NB381_382.out _; (with_reducible repeat (first | refine blk_drewN ?_ _ | refine blk_drew ?_ | refine blk_alloc ?_ _)); refine blk_far ?_ NB381_382.out _; (with_reducible repeat (first | refine blk_drewN ?_ _ | refine blk_drew ?_ | refine blk_alloc ?_ _)); exact BK381.out)) (g := gb382) (o := .cells #[.string a1, .bool true, .bool false] 26 (0, 0)) (by (with_reducible repeat (first | refine blk_drewN ?_ _ | refine blk_drew ?_ | refine blk_alloc ?_ _)); refine blk_put (cs := #[.string a1, .bool true, .bool false]) ?_ 2 _ rfl; (with_reducible repeat (first | refine blk_drewN ?_ _ | refine blk_drew ?_ | refine blk_alloc ?_ _)); refine blk_put (cs := #[.string a1, .bool false, .bool false]) ?_ 1 _ rfl; (with_reducible repeat (first | refine blk_drewN ?_ _ | refine blk_drew ?_ | refine blk_alloc ?_ _)); refine blk_put (cs := #[.string (⟨#[]⟩ : ByteArray), .bool false, .bool false]) ?_ 0 _ rfl; (with_reducible repeat (first | refine blk_drewN ?_ _ | refine blk_drew ?_ | refine blk_alloc ?_ _)); exact BK382.out)) (below_size (by repeat (first | (with_reducible first | exact HB.out | apply below_alloc | apply pw_below_drewN | apply below_drew1 | refine below_set ?_ GE381.out | refine below_set ?_ GE382.out) | exact HB.out)))); have n1_ := Aside0.mk (blk_below (g := gb381) (o := .cells #[.string (⟨#[42]⟩ : ByteArray), .bool false, .bool false] 26 (0, 0)) (by (with_reducible repeat (first | refine blk_drewN ?_ _ | refine blk_drew ?_ | refine blk_alloc ?_ _)); refine blk_far ?_ NB381_382.out _; (with_reducible repeat (first | refine blk_drewN ?_ _ | refine blk_drew ?_ | refine blk_alloc ?_ _)); refine blk_far ?_ NB381_382.out _; (with_reducible repeat (first | refine blk_drewN ?_ _ | refine blk_drew ?_ | refine blk_alloc ?_ _)); refine blk_far ?_ NB381_382.out _; (with_reducible repeat (first | refine blk_drewN ?_ _ | refine blk_drew ?_ | refine blk_alloc ?_ _)); exact BK381.out) hb); have n2_ := Aside0.mk (blk_below (g := gb382) (o := .cells #[.string a1, .bool true, .bool false] 26 (0, 0)) (by (with_reducible repeat (first | refine blk_drewN ?_ _ | refine blk_drew ?_ | refine blk_alloc ?_ _)); refine blk_put (cs := #[.string a1, .bool true, .bool false]) ?_ 2 _ rfl; (with_reducible repeat (first | refine blk_drewN ?_ _ | refine blk_drew ?_ | refine blk_alloc ?_ _)); refine blk_put (cs := #[.string a1, .bool false, .bool false]) ?_ 1 _ rfl; (with_reducible repeat (first | refine blk_drewN ?_ _ | refine blk_drew ?_ | refine blk_alloc ?_ _)); refine blk_put (cs := #[.string (⟨#[]⟩ : ByteArray), .bool false, .bool false]) ?_ 0 _ rfl; (with_reducible repeat (first | refine blk_drewN ?_ _ | refine blk_drew ?_ | refine blk_alloc ?_ _)); exact BK382.out) hb); have n3_ := Aside0.mk (below_step (by repeat (first | (with_reducible first | exact HB.out | apply below_alloc | apply pw_below_drewN | apply below_drew1 | refine below_set ?_ GE381.out | refine below_set ?_ GE382.out) | exact HB.out)) hb); clear BK381; clear BK382; clear HB; have HO385 := n0_; have BK381 := n1_; have BK382 := n2_; have HB := n3_; clear n0_ n1_ n2_ n3_; (try clear hb); (try clear hb2); (try clear hk); (try clear hi); (try clear ho0); obtain ⟨Ao32, co32, eo32⟩ := Kd.R_slice HO385.out; subst eo32) | ((with_reducible refine gate_callee (f := 45) rfl ?_); refine goesL_ (some 32) rfl rfl Try.func45 (by kernel_rfl) rfl #[.slice Ao32 t383.length co32, .string a1] rfl (by (try simp only [List.map_toArray, List.map_cons, List.map_nil]); first | done | rfl | (simp only [List.length_drop, List.length_take]; rfl)) ?_; (with_reducible refine (pattern_Match.calls _ _ t383 a1 t386 _ ?side1 ?side2 A18.out).mono ?_); (case side1 => repeat (first | exact (Kd.R_reads' HO385.out).2.2 | (with_reducible refine Kd.C_alloc ?_ _) | (with_reducible refine Kd.C_drewN ?_ _) | (with_reducible refine Kd.C_drew ?_))); (case side2 => exact (Kd.R_reads' HO385.out).2.1); rintro e w33 ⟨rfl, hb⟩; refine ⟨_, rfl, ?_⟩; have n0_ := Aside0.mk (Kd.R_below (by (with_reducible repeat (first | apply Kd.R_alloc | apply Kd.R_drewN | apply Kd.R_drew)); exact HO385.out) hb); have n1_ := Aside0.mk (blk_below (g := gb381) (o := .cells #[.string (⟨#[42]⟩ : ByteArray), .bool false, .bool false] 26 (0, 0)) (by (with_reducible repeat (first | refine blk_drewN ?_ _ | refine blk_drew ?_ | refine blk_alloc ?_ _)); exact BK381.out) hb); have n2_ := Aside0.mk (blk_below (g := gb382) (o := .cells #[.string a1, .bool true, .bool false] 26 (0, 0)) (by (with_reducible repeat (first | refine blk_drewN ?_ _ | refine blk_drew ?_ | refine blk_alloc ?_ _)); exact BK382.out) hb); have n3_ := Aside0.mk (below_step (by repeat (first | (with_reducible first | exact HB.out | apply below_alloc | apply pw_below_drewN | apply below_drew1 | refine below_set ?_ GE381.out | refine below_set ?_ GE382.out) | exact HB.out)) hb); clear HO385; clear BK381; clear BK382; clear HB; have HO385 := n0_; have BK381 := n1_; have BK382 := n2_; have HB := n3_; clear n0_ n1_ n2_ n3_; (try clear hb); (try clear hb2); (try clear hk); (try clear hi); have hnb34 := NB381_382.out; have hnc34 := NB382_381.out; have hcz35_0 : w33.cell? ⟨gb381, 0, none⟩ = some (.string (⟨#[42]⟩ : ByteArray)) := (blk_cell BK381.out 0).trans rfl; have hcz35_1 : w33.cell? ⟨gb381, 1, none⟩ = some (.bool false) := (blk_cell BK381.out 1).trans rfl; have hcz35_2 : w33.cell? ⟨gb381, 2, none⟩ = some (.bool false) := (blk_cell BK381.out 2).trans rfl; have hfz35_0 := blk_frozen BK381.out 0; have hfz35_1 := blk_frozen BK381.out 1; have hfz35_2 := blk_frozen BK381.out 2; have hcz36_0 : w33.cell? ⟨gb382, 0, none⟩ = some (.string a1) := (blk_cell BK382.out 0).trans rfl; have hcz36_1 : w33.cell? ⟨gb382, 1, none⟩ = some (.bool true) := (blk_cell BK382.out 1).trans rfl; have hcz36_2 : w33.cell? ⟨gb382, 2, none⟩ = some (.bool false) := (blk_cell BK382.out 2).trans rfl; have hfz36_0 := blk_frozen BK382.out 0; have hfz36_1 := blk_frozen BK382.out 1; have hfz36_2 := blk_frozen BK382.out 2) | ((with_reducible refine gate_dst (N := 41) rfl ?_); (try (refine gate_guard (by rfl) ?_; dsimp only)); refine Kd.R_lit k26 _ 26 ?hg (N := 41) ?hd (xs := ([(⟨(⟨#[42]⟩ : ByteArray), false, false⟩ : S26), (⟨a1, true, false⟩ : S26), (⟨(⟨#[42]⟩ : ByteArray), false, false⟩ : S26)] : List (S26))) (inner := [.string (⟨#[42]⟩ : ByteArray), .bool false, .bool false, .string a1, .bool true, .bool false, .string (⟨#[42]⟩ : ByteArray), .bool false, .bool false]) (ok := fun _ => True) (okp := fun _ => True) ?hr ?hp (fun _ hk => hk) trivial (Below.refl _ _) (Nat.le_refl _) (by simp) ?_; (case hd => rfl); (case hg => rfl); (case hr => first | (go_simp; done) | (go_simp; rfl)); (case hp => exact (Reps.c3 (show Kd.M k26 _ _ _ (⟨(⟨#[42]⟩ : ByteArray), false, false⟩ : S26) [.string (⟨#[42]⟩ : ByteArray), .bool false, .bool false] from (k26_mkM _ _ _ (⟨(⟨#[42]⟩ : ByteArray), false, false⟩ : S26) )) (Reps.c3 (show Kd.M k26 _ _ _ (⟨a1, true, false⟩ : S26) [.string a1, .bool true, .bool false] from (k26_mkM _ _ _ (⟨a1, true, false⟩ : S26) )) (Reps.c3 (show Kd.M k26 _ _ _ (⟨(⟨#[42]⟩ : ByteArray), false, false⟩ : S26) [.string (⟨#[42]⟩ : ByteArray), .bool false, .bool false] from (k26_mkM _ _ _ (⟨(⟨#[42]⟩ : ByteArray), false, false⟩ : S26) )) (Reps.none _ _))))); intro v388 w37 ho38 hb hg_ hnew_; clear hg_ hnew_; (first | rw [← Ny387.out] at ho38 | (simp only [Int.reduceToNat] at ho38; rw [← Ny387.out] at ho38)); have n0_ := Aside0.mk (Kd.R_elder' (by (with_reducible repeat (first | apply Kd.R_alloc | apply Kd.R_drewN | apply Kd.R_drew)); exact HO385.out) (Kd.R_base ho38) hb); have n1_ := Aside0.mk (Kd.R_lower (Kd.R_newB (Kd.R_newB (Kd.R_new' ho38 (Kd.R_lt (by (with_reducible repeat (first | apply Kd.R_alloc | apply Kd.R_drewN | apply Kd.R_drew)); exact HO385.out))) (g := gb381) (o := .cells #[.string (⟨#[42]⟩ : ByteArray), .bool false, .bool false] 26 (0, 0)) (by (with_reducible repeat (first | refine blk_drewN ?_ _ | refine blk_drew ?_ | refine blk_alloc ?_ _)); exact BK381.out)) (g := gb382) (o := .cells #[.string a1, .bool true, .bool false] 26 (0, 0)) (by (with_reducible repeat (first | refine blk_drewN ?_ _ | refine blk_drew ?_ | refine blk_alloc ?_ _)); exact BK382.out)) (below_size (by repeat (first | (with_reducible first | exact HB.out | apply below_alloc | apply pw_below_drewN | apply below_drew1 | refine below_set ?_ GE381.out | refine below_set ?_ GE382.out) | exact HB.out)))); have n2_ := Aside0.mk (blk_below (g := gb381) (o := .cells #[.string (⟨#[42]⟩ : ByteArray), .bool false, .bool false] 26 (0, 0)) (by (with_reducible repeat (first | refine blk_drewN ?_ _ | refine blk_drew ?_ | refine blk_alloc ?_ _)); exact BK381.out) hb); have n3_ := Aside0.mk (blk_below (g := gb382) (o := .cells #[.string a1, .bool true, .bool false] 26 (0, 0)) (by (with_reducible repeat (first | refine blk_drewN ?_ _ | refine blk_drew ?_ | refine blk_alloc ?_ _)); exact BK382.out) hb); have n4_ := Aside0.mk (below_step (by repeat (first | (with_reducible first | exact HB.out | apply below_alloc | apply pw_below_drewN | apply below_drew1 | refine below_set ?_ GE381.out | refine below_set ?_ GE382.out) | exact HB.out)) hb); clear HO385; clear BK381; clear BK382; clear HB; have HO385 := n0_; have HO389 := n1_; have BK381 := n2_; have BK382 := n3_; have HB := n4_; clear n0_ n1_ n2_ n3_ n4_; clear hb ho38; obtain ⟨Ao39, co39, eo39⟩ := Kd.R_slice HO389.out; subst eo39) | (go_at_call 45; (with_reducible refine (pattern_Match.calls _ _ y387 ((a0 ++ a1) ++ a2) true _ ?side1 ?side2 A25.out).mono ?_); (case side1 => repeat (first | exact (Kd.R_reads' HO389.out).2.2 | (with_reducible refine Kd.C_alloc ?_ _) | (with_reducible refine Kd.C_drewN ?_ _) | (with_reducible refine Kd.C_drew ?_))); (case side2 => exact (Kd.R_reads' HO389.out).2.1); rintro e w40 ⟨rfl, hb⟩; have n0_ := Aside0.mk (Kd.R_below (by (with_reducible repeat (first | apply Kd.R_alloc | apply Kd.R_drewN | apply Kd.R_drew)); exact HO385.out) hb); have n1_ := Aside0.mk (Kd.R_below (by (with_reducible repeat (first | apply Kd.R_alloc | apply Kd.R_drewN | apply Kd.R_drew)); exact HO389.out) hb); have n2_ := Aside0.mk (blk_below (g := gb381) (o := .cells #[.string (⟨#[42]⟩ : ByteArray), .bool false, .bool false] 26 (0, 0)) (by (with_reducible repeat (first | refine blk_drewN ?_ _ | refine blk_drew ?_ | refine blk_alloc ?_ _)); exact BK381.out) hb); have n3_ := Aside0.mk (blk_below (g := gb382) (o := .cells #[.string a1, .bool true, .bool false] 26 (0, 0)) (by (with_reducible repeat (first | refine blk_drewN ?_ _ | refine blk_drew ?_ | refine blk_alloc ?_ _)); exact BK382.out) hb); have n4_ := Aside0.mk (below_step (by repeat (first | (with_reducible first | exact HB.out | apply below_alloc | apply pw_below_drewN | apply below_drew1 | refine below_set ?_ GE381.out | refine below_set ?_ GE382.out) | exact HB.out)) hb); clear HO385; clear HO389; clear BK381; clear BK382; clear HB; have HO385 := n0_; have HO389 := n1_; have BK381 := n2_; have BK382 := n3_; have HB := n4_; clear n0_ n1_ n2_ n3_ n4_; (try clear hb); (try clear hb2); (try clear hk); (try clear hi); have hcz41_0 : w40.cell? ⟨gb381, 0, none⟩ = some (.string (⟨#[42]⟩ : ByteArray)) := (blk_cell BK381.out 0).trans rfl; have hcz41_1 : w40.cell? ⟨gb381, 1, none⟩ = some (.bool false) := (blk_cell BK381.out 1).trans rfl; have hcz41_2 : w40.cell? ⟨gb381, 2, none⟩ = some (.bool false) := (blk_cell BK381.out 2).trans rfl; have hfz41_0 := blk_frozen BK381.out 0; have hfz41_1 := blk_frozen BK381.out 1; have hfz41_2 := blk_frozen BK381.out 2) | ((with_reducible refine gate_dst (N := 54) rfl ?_); (try (refine gate_guard (by rfl) ?_; dsimp only)); refine Kd.R_lit k26 _ 26 ?hg (N := 54) ?hd (xs := ([(⟨(⟨#[42]⟩ : ByteArray), false, false⟩ : S26), (⟨(⟨#[120]⟩ : ByteArray), false, true⟩ : S26), (⟨(⟨#[42]⟩ : ByteArray), false, false⟩ : S26)] : List (S26))) (inner := [.string (⟨#[42]⟩ : ByteArray), .bool false, .bool false, .string (⟨#[120]⟩ : ByteArray), .bool false, .bool true, .string (⟨#[42]⟩ : ByteArray), .bool false, .bool false]) (ok := fun _ => True) (okp := fun _ => True) ?hr ?hp (fun _ hk => hk) trivial (Below.refl _ _) (Nat.le_refl _) (by simp) ?_; (case hd => rfl); (case hg => rfl); (case hr => first | (go_simp; done) | (go_simp; rfl)); (case hp => exact (Reps.c3 (show Kd.M k26 _ _ _ (⟨(⟨#[42]⟩ : ByteArray), false, false⟩ : S26) [.string (⟨#[42]⟩ : ByteArray), .bool false, .bool false] from (k26_mkM _ _ _ (⟨(⟨#[42]⟩ : ByteArray), false, false⟩ : S26) )) (Reps.c3 (show Kd.M k26 _ _ _ (⟨(⟨#[120]⟩ : ByteArray), false, true⟩ : S26) [.string (⟨#[120]⟩ : ByteArray), .bool false, .bool true] from (k26_mkM _ _ _ (⟨(⟨#[120]⟩ : ByteArray), false, true⟩ : S26) )) (Reps.c3 (show Kd.M k26 _ _ _ (⟨(⟨#[42]⟩ : ByteArray), false, false⟩ : S26) [.string (⟨#[42]⟩ : ByteArray), .bool false, .bool false] from (k26_mkM _ _ _ (⟨(⟨#[42]⟩ : ByteArray), false, false⟩ : S26) )) (Reps.none _ _))))); intro v392 w42 ho43 hb hg_ hnew_; clear hg_ hnew_; (first | rw [← Ny391.out] at ho43 | (simp only [Int.reduceToNat] at ho43; rw [← Ny391.out] at ho43)); have n0_ := Aside0.mk (Kd.R_elder' (by (with_reducible repeat (first | apply Kd.R_alloc | apply Kd.R_drewN | apply Kd.R_drew)); exact HO385.out) (Kd.R_base ho43) hb); have n1_ := Aside0.mk (Kd.R_elder' (by (with_reducible repeat (first | apply Kd.R_alloc | apply Kd.R_drewN | apply Kd.R_drew)); exact HO389.out) (Kd.R_base ho43) hb); have n2_ := Aside0.mk (Kd.R_lower (Kd.R_newB (Kd.R_newB (Kd.R_new' (Kd.R_new' ho43 (Kd.R_lt (by (with_reducible repeat (first | apply Kd.R_alloc | apply Kd.R_drewN | apply Kd.R_drew)); exact HO385.out))) (Kd.R_lt (by (with_reducible repeat (first | apply Kd.R_alloc | apply Kd.R_drewN | apply Kd.R_drew)); exact HO389.out))) (g := gb381) (o := .cells #[.string (⟨#[42]⟩ : ByteArray), .bool false, .bool false] 26 (0, 0)) (by (with_reducible repeat (first | refine blk_drewN ?_ _ | refine blk_drew ?_ | refine blk_alloc ?_ _)); exact BK381.out)) (g := gb382) (o := .cells #[.string a1, .bool true, .bool false] 26 (0, 0)) (by (with_reducible repeat (first | refine blk_drewN ?_ _ | refine blk_drew ?_ | refine blk_alloc ?_ _)); exact BK382.out)) (below_size (by repeat (first | (with_reducible first | exact HB.out | apply below_alloc | apply pw_below_drewN | apply below_drew1 | refine below_set ?_ GE381.out | refine below_set ?_ GE382.out) | exact HB.out)))); have n3_ := Aside0.mk (blk_below (g := gb381) (o := .cells #[.string (⟨#[42]⟩ : ByteArray), .bool false, .bool false] 26 (0, 0)) (by (with_reducible repeat (first | refine blk_drewN ?_ _ | refine blk_drew ?_ | refine blk_alloc ?_ _)); exact BK381.out) hb); have n4_ := Aside0.mk (blk_below (g := gb382) (o := .cells #[.string a1, .bool true, .bool false] 26 (0, 0)) (by (with_reducible repeat (first | refine blk_drewN ?_ _ | refine blk_drew ?_ | refine blk_alloc ?_ _)); exact BK382.out) hb); have n5_ := Aside0.mk (below_step (by repeat (first | (with_reducible first | exact HB.out | apply below_alloc | apply pw_below_drewN | apply below_drew1 | refine below_set ?_ GE381.out | refine below_set ?_ GE382.out) | exact HB.out)) hb); clear HO385; clear HO389; clear BK381; clear BK382; clear HB; have HO385 := n0_; have HO389 := n1_; have HO393 := n2_; have BK381 := n3_; have BK382 := n4_; have HB := n5_; clear n0_ n1_ n2_ n3_ n4_ n5_; clear hb ho43; obtain ⟨Ao44, co44, eo44⟩ := Kd.R_slice HO393.out; subst eo44) | (go_at_call 45; (with_reducible refine (pattern_Match.calls _ _ y391 a0 true _ ?side1 ?side2 A27.out).mono ?_); (case side1 => repeat (first | exact (Kd.R_reads' HO393.out).2.2 | (with_reducible refine Kd.C_alloc ?_ _) | (with_reducible refine Kd.C_drewN ?_ _) | (with_reducible refine Kd.C_drew ?_))); (case side2 => exact (Kd.R_reads' HO393.out).2.1); rintro e w45 ⟨rfl, hb⟩; have n0_ := Aside0.mk (Kd.R_below (by (with_reducible repeat (first | apply Kd.R_alloc | apply Kd.R_drewN | apply Kd.R_drew)); exact HO385.out) hb); have n1_ := Aside0.mk (Kd.R_below (by (with_reducible repeat (first | apply Kd.R_alloc | apply Kd.R_drewN | apply Kd.R_drew)); exact HO389.out) hb); have n2_ := Aside0.mk (Kd.R_below (by (with_reducible repeat (first | apply Kd.R_alloc | apply Kd.R_drewN | apply Kd.R_drew)); exact HO393.out) hb); have n3_ := Aside0.mk (blk_below (g := gb381) (o := .cells #[.string (⟨#[42]⟩ : ByteArray), .bool false, .bool false] 26 (0, 0)) (by (with_reducible repeat (first | refine blk_drewN ?_ _ | refine blk_drew ?_ | refine blk_alloc ?_ _)); exact BK381.out) hb); have n4_ := Aside0.mk (blk_below (g := gb382) (o := .cells #[.string a1, .bool true, .bool false] 26 (0, 0)) (by (with_reducible repeat (first | refine blk_drewN ?_ _ | refine blk_drew ?_ | refine blk_alloc ?_ _)); exact BK382.out) hb); have n5_ := Aside0.mk (below_step (by repeat (first | (with_reducible first | exact HB.out | apply below_alloc | apply pw_below_drewN | apply below_drew1 | refine below_set ?_ GE381.out | refine below_set ?_ GE382.out) | exact HB.out)) hb); clear HO385; clear HO389; clear HO393; clear BK381; clear BK382; clear HB; have HO385 := n0_; have HO389 := n1_; have HO393 := n2_; have BK381 := n3_; have BK382 := n4_; have HB := n5_; clear n0_ n1_ n2_ n3_ n4_ n5_; (try clear hb); (try clear hb2); (try clear hk); (try clear hi)) | (go_at_call 49; (with_reducible refine (pattern_Literal.calls a0 t395 _ A29.out).mono ?_); rintro e w46 ⟨v396, rfl, ho0, hb⟩; have n0_ := Aside0.mk (Kd.R_elder' (by (with_reducible repeat (first | apply Kd.R_alloc | apply Kd.R_drewN | apply Kd.R_drew)); exact HO385.out) (Kd.R_base ho0) hb); have n1_ := Aside0.mk (Kd.R_elder' (by (with_reducible repeat (first | apply Kd.R_alloc | apply Kd.R_drewN | apply Kd.R_drew)); exact HO389.out) (Kd.R_base ho0) hb); have n2_ := Aside0.mk (Kd.R_elder' (by (with_reducible repeat (first | apply Kd.R_alloc | apply Kd.R_drewN | apply Kd.R_drew)); exact HO393.out) (Kd.R_base ho0) hb); have n3_ := Aside0.mk (Kd.R_lower (Kd.R_newB (Kd.R_newB (Kd.R_new' (Kd.R_new' (Kd.R_new' ho0 (Kd.R_lt (by (with_reducible repeat (first | apply Kd.R_alloc | apply Kd.R_drewN | apply Kd.R_drew)); exact HO385.out))) (Kd.R_lt (by (with_reducible repeat (first | apply Kd.R_alloc | apply Kd.R_drewN | apply Kd.R_drew)); exact HO389.out))) (Kd.R_lt (by (with_reducible repeat (first | apply Kd.R_alloc | apply Kd.R_drewN | apply Kd.R_drew)); exact HO393.out))) (g := gb381) (o := .cells #[.string (⟨#[42]⟩ : ByteArray), .bool false, .bool false] 26 (0, 0)) (by (with_reducible repeat (first | refine blk_drewN ?_ _ | refine blk_drew ?_ | refine blk_alloc ?_ _)); exact BK381.out)) (g := gb382) (o := .cells #[.string a1, .bool true, .bool false] 26 (0, 0)) (by (with_reducible repeat (first | refine blk_drewN ?_ _ | refine blk_drew ?_ | refine blk_alloc ?_ _)); exact BK382.out)) (below_size (by repeat (first | (with_reducible first | exact HB.out | apply below_alloc | apply pw_below_drewN | apply below_drew1 | refine below_set ?_ GE381.out | refine below_set ?_ GE382.out) | exact HB.out)))); have n4_ := Aside0.mk (blk_below (g := gb381) (o := .cells #[.string (⟨#[42]⟩ : ByteArray), .bool false, .bool false] 26 (0, 0)) (by (with_reducible repeat (first | refine blk_drewN ?_ _ | refine blk_drew ?_ | refine blk_alloc ?_ _)); exact BK381.out) hb); have n5_ := Aside0.mk (blk_below (g := gb382) (o := .cells #[.string a1, .bool true, .bool false] 26 (0, 0)) (by (with_reducible repeat (first | refine blk_drewN ?_ _ | refine blk_drew ?_ | refine blk_alloc ?_ _)); exact BK382.out) hb); have n6_ := Aside0.mk (below_step (by repeat (first | (with_reducible first | exact HB.out | apply below_alloc | apply pw_below_drewN | apply below_drew1 | refine below_set ?_ GE381.out | refine below_set ?_ GE382.out) | exact HB.out)) hb); clear HO385; clear HO389; clear HO393; clear BK381; clear BK382; clear HB; have HO385 := n0_; have HO389 := n1_; have HO393 := n2_; have HO397 := n3_; have BK381 := n4_; have BK382 := n5_; have HB := n6_; clear n0_ n1_ n2_ n3_ n4_ n5_ n6_; (try clear hb); (try clear hb2); (try clear hk); (try clear hi); (try clear ho0)) | ((with_reducible refine gate_dst (N := 64) rfl ?_); (try (refine gate_guard (by rfl) ?_; dsimp only)); refine Kd.R_lit k26 _ 26 ?hg (N := 64) ?hd (xs := ([(⟨a0, true, false⟩ : S26)] : List (S26))) (inner := [.string a0, .bool true, .bool false]) (ok := fun _ => True) (okp := fun _ => True) ?hr ?hp (fun _ hk => hk) trivial (Below.refl _ _) (Nat.le_refl _) (by simp) ?_; (case hd => rfl); (case hg => rfl); (case hr => first | (go_simp; done) | (go_simp; rfl)); (case hp => exact (Reps.c3 (show Kd.M k26 _ _ _ (⟨a0, true, false⟩ : S26) [.string a0, .bool true, .bool false] from (k26_mkM _ _ _ (⟨a0, true, false⟩ : S26) )) (Reps.none _ _))); intro v399 w47 ho48 hb hg_ hnew_; clear hg_ hnew_; (first | rw [← Ny398.out] at ho48 | (simp only [Int.reduceToNat] at ho48; rw [← Ny398.out] at ho48)); have n0_ := Aside0.mk (Kd.R_elder' (by (with_reducible repeat (first | apply Kd.R_alloc | apply Kd.R_drewN | apply Kd.R_drew)); exact HO385.out) (Kd.R_base ho48) hb); have n1_ := Aside0.mk (Kd.R_elder' (by (with_reducible repeat (first | apply Kd.R_alloc | apply Kd.R_drewN | apply Kd.R_drew)); exact HO389.out) (Kd.R_base ho48) hb); have n2_ := Aside0.mk (Kd.R_elder' (by (with_reducible repeat (first | apply Kd.R_alloc | apply Kd.R_drewN | apply Kd.R_drew)); exact HO393.out) (Kd.R_base ho48) hb); have n3_ := Aside0.mk (Kd.R_elder' (by (with_reducible repeat (first | apply Kd.R_alloc | apply Kd.R_drewN | apply Kd.R_drew)); exact HO397.out) (Kd.R_base ho48) hb); have n4_ := Aside0.mk (Kd.R_lower (Kd.R_newB (Kd.R_newB (Kd.R_new' (Kd.R_new' (Kd.R_new' (Kd.R_new' ho48 (Kd.R_lt (by (with_reducible repeat (first | apply Kd.R_alloc | apply Kd.R_drewN | apply Kd.R_drew)); exact HO385.out))) (Kd.R_lt (by (with_reducible repeat (first | apply Kd.R_alloc | apply Kd.R_drewN | apply Kd.R_drew)); exact HO389.out))) (Kd.R_lt (by (with_reducible repeat (first | apply Kd.R_alloc | apply Kd.R_drewN | apply Kd.R_drew)); exact HO393.out))) (Kd.R_lt (by (with_reducible repeat (first | apply Kd.R_alloc | apply Kd.R_drewN | apply Kd.R_drew)); exact HO397.out))) (g := gb381) (o := .cells #[.string (⟨#[42]⟩ : ByteArray), .bool false, .bool false] 26 (0, 0)) (by (with_reducible repeat (first | refine blk_drewN ?_ _ | refine blk_drew ?_ | refine blk_alloc ?_ _)); exact BK381.out)) (g := gb382) (o := .cells #[.string a1, .bool true, .bool false] 26 (0, 0)) (by (with_reducible repeat (first | refine blk_drewN ?_ _ | refine blk_drew ?_ | refine blk_alloc ?_ _)); exact BK382.out)) (below_size (by repeat (first | (with_reducible first | exact HB.out | apply below_alloc | apply pw_below_drewN | apply below_drew1 | refine below_set ?_ GE381.out | refine below_set ?_ GE382.out) | exact HB.out)))); have n5_ := Aside0.mk (blk_below (g := gb381) (o := .cells #[.string (⟨#[42]⟩ : ByteArray), .bool false, .bool false] 26 (0, 0)) (by (with_reducible repeat (first | refine blk_drewN ?_ _ | refine blk_drew ?_ | refine blk_alloc ?_ _)); exact BK381.out) hb); have n6_ := Aside0.mk (blk_below (g := gb382) (o := .cells #[.string a1, .bool true, .bool false] 26 (0, 0)) (by (with_reducible repeat (first | refine blk_drewN ?_ _ | refine blk_drew ?_ | refine blk_alloc ?_ _)); exact BK382.out) hb); have n7_ := Aside0.mk (below_step (by repeat (first | (with_reducible first | exact HB.out | apply below_alloc | apply pw_below_drewN | apply below_drew1 | refine below_set ?_ GE381.out | refine below_set ?_ GE382.out) | exact HB.out)) hb); clear HO385; clear HO389; clear HO393; clear HO397; clear BK381; clear BK382; clear HB; have HO385 := n0_; have HO389 := n1_; have HO393 := n2_; have HO397 := n3_; have HO400 := n4_; have BK381 := n5_; have BK382 := n6_; have HB := n7_; clear n0_ n1_ n2_ n3_ n4_ n5_ n6_ n7_; clear hb ho48; obtain ⟨Ao49, co49, eo49⟩ := Kd.R_slice HO397.out; subst eo49; obtain ⟨Ao50, co50, eo50⟩ := Kd.R_slice HO400.out; subst eo50) | (go_at_call 50; (with_reducible refine (deadfallref08_Same.calls kj5 _ _ t395 _ _ y398 t401 _ ?side1 ?side2 ?side3 ?side4 A30.out).mono ?_); (case side1 => repeat (first | exact (Kd.R_reads' HO397.out).2.2 | (with_reducible refine Kd.C_alloc ?_ _) | (with_reducible refine Kd.C_drewN ?_ _) | (with_reducible refine Kd.C_drew ?_))); (case side2 => exact (Kd.R_reads' HO397.out).2.1); (case side3 => repeat (first | exact (Kd.R_reads' HO400.out).2.2 | (with_reducible refine Kd.C_alloc ?_ _) | (with_reducible refine Kd.C_drewN ?_ _) | (with_reducible refine Kd.C_drew ?_))); (case side4 => exact (Kd.R_reads' HO400.out).2.1); rintro e w' ⟨rfl, ⟨nd, rfl⟩⟩))
                      go_meet
                      case rel => exact ⟨_, (!t401), (by first | rfl | (simp; done) | (simp [*]; done)), H', ⟨by have := HJ5.out; first | omega | exact Nat.le_refl _⟩, ⟨by (with_reducible repeat (first | refine blk_drewN ?_ _ | refine blk_drew ?_ | refine blk_alloc ?_ _)); exact BK381.out⟩, ⟨by (with_reducible repeat (first | refine blk_drewN ?_ _ | refine blk_drew ?_ | refine blk_alloc ?_ _)); exact BK382.out⟩, ⟨by repeat (first | (with_reducible first | exact HB.out | apply below_alloc | apply pw_below_drewN | apply below_drew1 | refine below_set ?_ GE381.out | refine below_set ?_ GE382.out) | exact HB.out)⟩⟩
                    · replace c28 := Bool.eq_false_iff.mpr c28
                      subst c28
                      have H1 : (deadfalllaw08_PatternParts.j1 kj5 a0 a1 true) = some r := by rw [if_neg (show ¬ (false = true) by decide)] at H; exact H
                      clear H
                      have H := H1
                      clear H1
                      have H' := Aside0.mk H
                      clear H
                      go_wp2_with (first | ((with_reducible refine gate_callee (f := 49) rfl ?_); refine goesL_ (some 30) rfl rfl Try.func49 (by kernel_rfl) rfl #[.string a0] rfl (by (try simp only [List.map_toArray, List.map_cons, List.map_nil]); first | done | rfl | (simp only [List.length_drop, List.length_take]; rfl)) ?_; (with_reducible refine (pattern_Literal.calls a0 t383 _ A17.out).mono ?_); rintro e w51 ⟨v384, rfl, ho0, hb⟩; refine ⟨_, rfl, ?_⟩; have n0_ := Aside0.mk (Kd.R_lower (Kd.R_newB (Kd.R_newB ho0 (g := gb381) (o := .cells #[.string (⟨#[42]⟩ : ByteArray), .bool false, .bool false] 26 (0, 0)) (by (with_reducible repeat (first | refine blk_drewN ?_ _ | refine blk_drew ?_ | refine blk_alloc ?_ _)); refine blk_far ?_ NB381_382.out _; (with_reducible repeat (first | refine blk_drewN ?_ _ | refine blk_drew ?_ | refine blk_alloc ?_ _)); refine blk_far ?_ NB381_382.out _; (with_reducible repeat (first | refine blk_drewN ?_ _ | refine blk_drew ?_ | refine blk_alloc ?_ _)); refine blk_far ?_ NB381_382.out _; (with_reducible repeat (first | refine blk_drewN ?_ _ | refine blk_drew ?_ | refine blk_alloc ?_ _)); exact BK381.out)) (g := gb382) (o := .cells #[.string a1, .bool true, .bool false] 26 (0, 0)) (by (with_reducible repeat (first | refine blk_drewN ?_ _ | refine blk_drew ?_ | refine blk_alloc ?_ _)); refine blk_put (cs := #[.string a1, .bool true, .bool false]) ?_ 2 _ rfl; (with_reducible repeat (first | refine blk_drewN ?_ _ | refine blk_drew ?_ | refine blk_alloc ?_ _)); refine blk_put (cs := #[.string a1, .bool false, .bool false]) ?_ 1 _ rfl; (with_reducible repeat (first | refine blk_drewN ?_ _ | refine blk_drew ?_ | refine blk_alloc ?_ _)); refine blk_put (cs := #[.string (⟨#[]⟩ : ByteArray), .bool false, .bool false]) ?_ 0 _ rfl; (with_reducible repeat (first | refine blk_drewN ?_ _ | refine blk_drew ?_ | refine blk_alloc ?_ _)); exact BK382.out)) (below_size (by repeat (first | (with_reducible first | exact HB.out | apply below_alloc | apply pw_below_drewN | apply below_drew1 | refine below_set ?_ GE381.out | refine below_set ?_ GE382.out) | exact HB.out)))); have n1_ := Aside0.mk (blk_below (g := gb381) (o := .cells #[.string (⟨#[42]⟩ : ByteArray), .bool false, .bool false] 26 (0, 0)) (by (with_reducible repeat (first | refine blk_drewN ?_ _ | refine blk_drew ?_ | refine blk_alloc ?_ _)); refine blk_far ?_ NB381_382.out _; (with_reducible repeat (first | refine blk_drewN ?_ _ | refine blk_drew ?_ | refine blk_alloc ?_ _)); refine blk_far ?_ NB381_382.out _; (with_reducible repeat (first | refine blk_drewN ?_ _ | refine blk_drew ?_ | refine blk_alloc ?_ _)); refine blk_far ?_ NB381_382.out _; (with_reducible repeat (first | refine blk_drewN ?_ _ | refine blk_drew ?_ | refine blk_alloc ?_ _)); exact BK381.out) hb); have n2_ := Aside0.mk (blk_below (g := gb382) (o := .cells #[.string a1, .bool true, .bool false] 26 (0, 0)) (by (with_reducible repeat (first | refine blk_drewN ?_ _ | refine blk_drew ?_ | refine blk_alloc ?_ _)); refine blk_put (cs := #[.string a1, .bool true, .bool false]) ?_ 2 _ rfl; (with_reducible repeat (first | refine blk_drewN ?_ _ | refine blk_drew ?_ | refine blk_alloc ?_ _)); refine blk_put (cs := #[.string a1, .bool false, .bool false]) ?_ 1 _ rfl; (with_reducible repeat (first | refine blk_drewN ?_ _ | refine blk_drew ?_ | refine blk_alloc ?_ _)); refine blk_put (cs := #[.string (⟨#[]⟩ : ByteArray), .bool false, .bool false]) ?_ 0 _ rfl; (with_reducible repeat (first | refine blk_drewN ?_ _ | refine blk_drew ?_ | refine blk_alloc ?_ _)); exact BK382.out) hb); have n3_ := Aside0.mk (below_step (by repeat (first | (with_reducible first | exact HB.out | apply below_alloc | apply pw_below_drewN | apply below_drew1 | refine below_set ?_ GE381.out | refine below_set ?_ GE382.out) | exact HB.out)) hb); clear BK381; clear BK382; clear HB; have HO385 := n0_; have BK381 := n1_; have BK382 := n2_; have HB := n3_; clear n0_ n1_ n2_ n3_; (try clear hb); (try clear hb2); (try clear hk); (try clear hi); (try clear ho0); obtain ⟨Ao52, co52, eo52⟩ := Kd.R_slice HO385.out; subst eo52) | ((with_reducible refine gate_callee (f := 45) rfl ?_); refine goesL_ (some 32) rfl rfl Try.func45 (by kernel_rfl) rfl #[.slice Ao52 t383.length co52, .string a1] rfl (by (try simp only [List.map_toArray, List.map_cons, List.map_nil]); first | done | rfl | (simp only [List.length_drop, List.length_take]; rfl)) ?_; (with_reducible refine (pattern_Match.calls _ _ t383 a1 t386 _ ?side1 ?side2 A18.out).mono ?_); (case side1 => repeat (first | exact (Kd.R_reads' HO385.out).2.2 | (with_reducible refine Kd.C_alloc ?_ _) | (with_reducible refine Kd.C_drewN ?_ _) | (with_reducible refine Kd.C_drew ?_))); (case side2 => exact (Kd.R_reads' HO385.out).2.1); rintro e w53 ⟨rfl, hb⟩; refine ⟨_, rfl, ?_⟩; have n0_ := Aside0.mk (Kd.R_below (by (with_reducible repeat (first | apply Kd.R_alloc | apply Kd.R_drewN | apply Kd.R_drew)); exact HO385.out) hb); have n1_ := Aside0.mk (blk_below (g := gb381) (o := .cells #[.string (⟨#[42]⟩ : ByteArray), .bool false, .bool false] 26 (0, 0)) (by (with_reducible repeat (first | refine blk_drewN ?_ _ | refine blk_drew ?_ | refine blk_alloc ?_ _)); exact BK381.out) hb); have n2_ := Aside0.mk (blk_below (g := gb382) (o := .cells #[.string a1, .bool true, .bool false] 26 (0, 0)) (by (with_reducible repeat (first | refine blk_drewN ?_ _ | refine blk_drew ?_ | refine blk_alloc ?_ _)); exact BK382.out) hb); have n3_ := Aside0.mk (below_step (by repeat (first | (with_reducible first | exact HB.out | apply below_alloc | apply pw_below_drewN | apply below_drew1 | refine below_set ?_ GE381.out | refine below_set ?_ GE382.out) | exact HB.out)) hb); clear HO385; clear BK381; clear BK382; clear HB; have HO385 := n0_; have BK381 := n1_; have BK382 := n2_; have HB := n3_; clear n0_ n1_ n2_ n3_; (try clear hb); (try clear hb2); (try clear hk); (try clear hi); have hnb54 := NB381_382.out; have hnc54 := NB382_381.out; have hcz55_0 : w53.cell? ⟨gb381, 0, none⟩ = some (.string (⟨#[42]⟩ : ByteArray)) := (blk_cell BK381.out 0).trans rfl; have hcz55_1 : w53.cell? ⟨gb381, 1, none⟩ = some (.bool false) := (blk_cell BK381.out 1).trans rfl; have hcz55_2 : w53.cell? ⟨gb381, 2, none⟩ = some (.bool false) := (blk_cell BK381.out 2).trans rfl; have hfz55_0 := blk_frozen BK381.out 0; have hfz55_1 := blk_frozen BK381.out 1; have hfz55_2 := blk_frozen BK381.out 2; have hcz56_0 : w53.cell? ⟨gb382, 0, none⟩ = some (.string a1) := (blk_cell BK382.out 0).trans rfl; have hcz56_1 : w53.cell? ⟨gb382, 1, none⟩ = some (.bool true) := (blk_cell BK382.out 1).trans rfl; have hcz56_2 : w53.cell? ⟨gb382, 2, none⟩ = some (.bool false) := (blk_cell BK382.out 2).trans rfl; have hfz56_0 := blk_frozen BK382.out 0; have hfz56_1 := blk_frozen BK382.out 1; have hfz56_2 := blk_frozen BK382.out 2) | ((with_reducible refine gate_dst (N := 41) rfl ?_); (try (refine gate_guard (by rfl) ?_; dsimp only)); refine Kd.R_lit k26 _ 26 ?hg (N := 41) ?hd (xs := ([(⟨(⟨#[42]⟩ : ByteArray), false, false⟩ : S26), (⟨a1, true, false⟩ : S26), (⟨(⟨#[42]⟩ : ByteArray), false, false⟩ : S26)] : List (S26))) (inner := [.string (⟨#[42]⟩ : ByteArray), .bool false, .bool false, .string a1, .bool true, .bool false, .string (⟨#[42]⟩ : ByteArray), .bool false, .bool false]) (ok := fun _ => True) (okp := fun _ => True) ?hr ?hp (fun _ hk => hk) trivial (Below.refl _ _) (Nat.le_refl _) (by simp) ?_; (case hd => rfl); (case hg => rfl); (case hr => first | (go_simp; done) | (go_simp; rfl)); (case hp => exact (Reps.c3 (show Kd.M k26 _ _ _ (⟨(⟨#[42]⟩ : ByteArray), false, false⟩ : S26) [.string (⟨#[42]⟩ : ByteArray), .bool false, .bool false] from (k26_mkM _ _ _ (⟨(⟨#[42]⟩ : ByteArray), false, false⟩ : S26) )) (Reps.c3 (show Kd.M k26 _ _ _ (⟨a1, true, false⟩ : S26) [.string a1, .bool true, .bool false] from (k26_mkM _ _ _ (⟨a1, true, false⟩ : S26) )) (Reps.c3 (show Kd.M k26 _ _ _ (⟨(⟨#[42]⟩ : ByteArray), false, false⟩ : S26) [.string (⟨#[42]⟩ : ByteArray), .bool false, .bool false] from (k26_mkM _ _ _ (⟨(⟨#[42]⟩ : ByteArray), false, false⟩ : S26) )) (Reps.none _ _))))); intro v388 w57 ho58 hb hg_ hnew_; clear hg_ hnew_; (first | rw [← Ny387.out] at ho58 | (simp only [Int.reduceToNat] at ho58; rw [← Ny387.out] at ho58)); have n0_ := Aside0.mk (Kd.R_elder' (by (with_reducible repeat (first | apply Kd.R_alloc | apply Kd.R_drewN | apply Kd.R_drew)); exact HO385.out) (Kd.R_base ho58) hb); have n1_ := Aside0.mk (Kd.R_lower (Kd.R_newB (Kd.R_newB (Kd.R_new' ho58 (Kd.R_lt (by (with_reducible repeat (first | apply Kd.R_alloc | apply Kd.R_drewN | apply Kd.R_drew)); exact HO385.out))) (g := gb381) (o := .cells #[.string (⟨#[42]⟩ : ByteArray), .bool false, .bool false] 26 (0, 0)) (by (with_reducible repeat (first | refine blk_drewN ?_ _ | refine blk_drew ?_ | refine blk_alloc ?_ _)); exact BK381.out)) (g := gb382) (o := .cells #[.string a1, .bool true, .bool false] 26 (0, 0)) (by (with_reducible repeat (first | refine blk_drewN ?_ _ | refine blk_drew ?_ | refine blk_alloc ?_ _)); exact BK382.out)) (below_size (by repeat (first | (with_reducible first | exact HB.out | apply below_alloc | apply pw_below_drewN | apply below_drew1 | refine below_set ?_ GE381.out | refine below_set ?_ GE382.out) | exact HB.out)))); have n2_ := Aside0.mk (blk_below (g := gb381) (o := .cells #[.string (⟨#[42]⟩ : ByteArray), .bool false, .bool false] 26 (0, 0)) (by (with_reducible repeat (first | refine blk_drewN ?_ _ | refine blk_drew ?_ | refine blk_alloc ?_ _)); exact BK381.out) hb); have n3_ := Aside0.mk (blk_below (g := gb382) (o := .cells #[.string a1, .bool true, .bool false] 26 (0, 0)) (by (with_reducible repeat (first | refine blk_drewN ?_ _ | refine blk_drew ?_ | refine blk_alloc ?_ _)); exact BK382.out) hb); have n4_ := Aside0.mk (below_step (by repeat (first | (with_reducible first | exact HB.out | apply below_alloc | apply pw_below_drewN | apply below_drew1 | refine below_set ?_ GE381.out | refine below_set ?_ GE382.out) | exact HB.out)) hb); clear HO385; clear BK381; clear BK382; clear HB; have HO385 := n0_; have HO389 := n1_; have BK381 := n2_; have BK382 := n3_; have HB := n4_; clear n0_ n1_ n2_ n3_ n4_; clear hb ho58; obtain ⟨Ao59, co59, eo59⟩ := Kd.R_slice HO389.out; subst eo59) | (go_at_call 45; (with_reducible refine (pattern_Match.calls _ _ y387 ((a0 ++ a1) ++ a2) true _ ?side1 ?side2 A25.out).mono ?_); (case side1 => repeat (first | exact (Kd.R_reads' HO389.out).2.2 | (with_reducible refine Kd.C_alloc ?_ _) | (with_reducible refine Kd.C_drewN ?_ _) | (with_reducible refine Kd.C_drew ?_))); (case side2 => exact (Kd.R_reads' HO389.out).2.1); rintro e w60 ⟨rfl, hb⟩; have n0_ := Aside0.mk (Kd.R_below (by (with_reducible repeat (first | apply Kd.R_alloc | apply Kd.R_drewN | apply Kd.R_drew)); exact HO385.out) hb); have n1_ := Aside0.mk (Kd.R_below (by (with_reducible repeat (first | apply Kd.R_alloc | apply Kd.R_drewN | apply Kd.R_drew)); exact HO389.out) hb); have n2_ := Aside0.mk (blk_below (g := gb381) (o := .cells #[.string (⟨#[42]⟩ : ByteArray), .bool false, .bool false] 26 (0, 0)) (by (with_reducible repeat (first | refine blk_drewN ?_ _ | refine blk_drew ?_ | refine blk_alloc ?_ _)); exact BK381.out) hb); have n3_ := Aside0.mk (blk_below (g := gb382) (o := .cells #[.string a1, .bool true, .bool false] 26 (0, 0)) (by (with_reducible repeat (first | refine blk_drewN ?_ _ | refine blk_drew ?_ | refine blk_alloc ?_ _)); exact BK382.out) hb); have n4_ := Aside0.mk (below_step (by repeat (first | (with_reducible first | exact HB.out | apply below_alloc | apply pw_below_drewN | apply below_drew1 | refine below_set ?_ GE381.out | refine below_set ?_ GE382.out) | exact HB.out)) hb); clear HO385; clear HO389; clear BK381; clear BK382; clear HB; have HO385 := n0_; have HO389 := n1_; have BK381 := n2_; have BK382 := n3_; have HB := n4_; clear n0_ n1_ n2_ n3_ n4_; (try clear hb); (try clear hb2); (try clear hk); (try clear hi); have hcz61_0 : w60.cell? ⟨gb381, 0, none⟩ = some (.string (⟨#[42]⟩ : ByteArray)) := (blk_cell BK381.out 0).trans rfl; have hcz61_1 : w60.cell? ⟨gb381, 1, none⟩ = some (.bool false) := (blk_cell BK381.out 1).trans rfl; have hcz61_2 : w60.cell? ⟨gb381, 2, none⟩ = some (.bool false) := (blk_cell BK381.out 2).trans rfl; have hfz61_0 := blk_frozen BK381.out 0; have hfz61_1 := blk_frozen BK381.out 1; have hfz61_2 := blk_frozen BK381.out 2) | ((with_reducible refine gate_dst (N := 54) rfl ?_); (try (refine gate_guard (by rfl) ?_; dsimp only)); refine Kd.R_lit k26 _ 26 ?hg (N := 54) ?hd (xs := ([(⟨(⟨#[42]⟩ : ByteArray), false, false⟩ : S26), (⟨(⟨#[120]⟩ : ByteArray), false, true⟩ : S26), (⟨(⟨#[42]⟩ : ByteArray), false, false⟩ : S26)] : List (S26))) (inner := [.string (⟨#[42]⟩ : ByteArray), .bool false, .bool false, .string (⟨#[120]⟩ : ByteArray), .bool false, .bool true, .string (⟨#[42]⟩ : ByteArray), .bool false, .bool false]) (ok := fun _ => True) (okp := fun _ => True) ?hr ?hp (fun _ hk => hk) trivial (Below.refl _ _) (Nat.le_refl _) (by simp) ?_; (case hd => rfl); (case hg => rfl); (case hr => first | (go_simp; done) | (go_simp; rfl)); (case hp => exact (Reps.c3 (show Kd.M k26 _ _ _ (⟨(⟨#[42]⟩ : ByteArray), false, false⟩ : S26) [.string (⟨#[42]⟩ : ByteArray), .bool false, .bool false] from (k26_mkM _ _ _ (⟨(⟨#[42]⟩ : ByteArray), false, false⟩ : S26) )) (Reps.c3 (show Kd.M k26 _ _ _ (⟨(⟨#[120]⟩ : ByteArray), false, true⟩ : S26) [.string (⟨#[120]⟩ : ByteArray), .bool false, .bool true] from (k26_mkM _ _ _ (⟨(⟨#[120]⟩ : ByteArray), false, true⟩ : S26) )) (Reps.c3 (show Kd.M k26 _ _ _ (⟨(⟨#[42]⟩ : ByteArray), false, false⟩ : S26) [.string (⟨#[42]⟩ : ByteArray), .bool false, .bool false] from (k26_mkM _ _ _ (⟨(⟨#[42]⟩ : ByteArray), false, false⟩ : S26) )) (Reps.none _ _))))); intro v392 w62 ho63 hb hg_ hnew_; clear hg_ hnew_; (first | rw [← Ny391.out] at ho63 | (simp only [Int.reduceToNat] at ho63; rw [← Ny391.out] at ho63)); have n0_ := Aside0.mk (Kd.R_elder' (by (with_reducible repeat (first | apply Kd.R_alloc | apply Kd.R_drewN | apply Kd.R_drew)); exact HO385.out) (Kd.R_base ho63) hb); have n1_ := Aside0.mk (Kd.R_elder' (by (with_reducible repeat (first | apply Kd.R_alloc | apply Kd.R_drewN | apply Kd.R_drew)); exact HO389.out) (Kd.R_base ho63) hb); have n2_ := Aside0.mk (Kd.R_lower (Kd.R_newB (Kd.R_newB (Kd.R_new' (Kd.R_new' ho63 (Kd.R_lt (by (with_reducible repeat (first | apply Kd.R_alloc | apply Kd.R_drewN | apply Kd.R_drew)); exact HO385.out))) (Kd.R_lt (by (with_reducible repeat (first | apply Kd.R_alloc | apply Kd.R_drewN | apply Kd.R_drew)); exact HO389.out))) (g := gb381) (o := .cells #[.string (⟨#[42]⟩ : ByteArray), .bool false, .bool false] 26 (0, 0)) (by (with_reducible repeat (first | refine blk_drewN ?_ _ | refine blk_drew ?_ | refine blk_alloc ?_ _)); exact BK381.out)) (g := gb382) (o := .cells #[.string a1, .bool true, .bool false] 26 (0, 0)) (by (with_reducible repeat (first | refine blk_drewN ?_ _ | refine blk_drew ?_ | refine blk_alloc ?_ _)); exact BK382.out)) (below_size (by repeat (first | (with_reducible first | exact HB.out | apply below_alloc | apply pw_below_drewN | apply below_drew1 | refine below_set ?_ GE381.out | refine below_set ?_ GE382.out) | exact HB.out)))); have n3_ := Aside0.mk (blk_below (g := gb381) (o := .cells #[.string (⟨#[42]⟩ : ByteArray), .bool false, .bool false] 26 (0, 0)) (by (with_reducible repeat (first | refine blk_drewN ?_ _ | refine blk_drew ?_ | refine blk_alloc ?_ _)); exact BK381.out) hb); have n4_ := Aside0.mk (blk_below (g := gb382) (o := .cells #[.string a1, .bool true, .bool false] 26 (0, 0)) (by (with_reducible repeat (first | refine blk_drewN ?_ _ | refine blk_drew ?_ | refine blk_alloc ?_ _)); exact BK382.out) hb); have n5_ := Aside0.mk (below_step (by repeat (first | (with_reducible first | exact HB.out | apply below_alloc | apply pw_below_drewN | apply below_drew1 | refine below_set ?_ GE381.out | refine below_set ?_ GE382.out) | exact HB.out)) hb); clear HO385; clear HO389; clear BK381; clear BK382; clear HB; have HO385 := n0_; have HO389 := n1_; have HO393 := n2_; have BK381 := n3_; have BK382 := n4_; have HB := n5_; clear n0_ n1_ n2_ n3_ n4_ n5_; clear hb ho63; obtain ⟨Ao64, co64, eo64⟩ := Kd.R_slice HO393.out; subst eo64) | (go_at_call 45; (with_reducible refine (pattern_Match.calls _ _ y391 a0 false _ ?side1 ?side2 A27.out).mono ?_); (case side1 => repeat (first | exact (Kd.R_reads' HO393.out).2.2 | (with_reducible refine Kd.C_alloc ?_ _) | (with_reducible refine Kd.C_drewN ?_ _) | (with_reducible refine Kd.C_drew ?_))); (case side2 => exact (Kd.R_reads' HO393.out).2.1); rintro e w65 ⟨rfl, hb⟩; have n0_ := Aside0.mk (Kd.R_below (by (with_reducible repeat (first | apply Kd.R_alloc | apply Kd.R_drewN | apply Kd.R_drew)); exact HO385.out) hb); have n1_ := Aside0.mk (Kd.R_below (by (with_reducible repeat (first | apply Kd.R_alloc | apply Kd.R_drewN | apply Kd.R_drew)); exact HO389.out) hb); have n2_ := Aside0.mk (Kd.R_below (by (with_reducible repeat (first | apply Kd.R_alloc | apply Kd.R_drewN | apply Kd.R_drew)); exact HO393.out) hb); have n3_ := Aside0.mk (blk_below (g := gb381) (o := .cells #[.string (⟨#[42]⟩ : ByteArray), .bool false, .bool false] 26 (0, 0)) (by (with_reducible repeat (first | refine blk_drewN ?_ _ | refine blk_drew ?_ | refine blk_alloc ?_ _)); exact BK381.out) hb); have n4_ := Aside0.mk (blk_below (g := gb382) (o := .cells #[.string a1, .bool true, .bool false] 26 (0, 0)) (by (with_reducible repeat (first | refine blk_drewN ?_ _ | refine blk_drew ?_ | refine blk_alloc ?_ _)); exact BK382.out) hb); have n5_ := Aside0.mk (below_step (by repeat (first | (with_reducible first | exact HB.out | apply below_alloc | apply pw_below_drewN | apply below_drew1 | refine below_set ?_ GE381.out | refine below_set ?_ GE382.out) | exact HB.out)) hb); clear HO385; clear HO389; clear HO393; clear BK381; clear BK382; clear HB; have HO385 := n0_; have HO389 := n1_; have HO393 := n2_; have BK381 := n3_; have BK382 := n4_; have HB := n5_; clear n0_ n1_ n2_ n3_ n4_ n5_; (try clear hb); (try clear hb2); (try clear hk); (try clear hi)))
                      go_meet
                      case rel => exact ⟨_, (true), (by first | rfl | (simp; done) | (simp [*]; done)), H', ⟨by have := HJ5.out; first | omega | exact Nat.le_refl _⟩, ⟨by (with_reducible repeat (first | refine blk_drewN ?_ _ | refine blk_drew ?_ | refine blk_alloc ?_ _)); exact BK381.out⟩, ⟨by (with_reducible repeat (first | refine blk_drewN ?_ _ | refine blk_drew ?_ | refine blk_alloc ?_ _)); exact BK382.out⟩, ⟨by repeat (first | (with_reducible first | exact HB.out | apply below_alloc | apply pw_below_drewN | apply below_drew1 | refine below_set ?_ GE381.out | refine below_set ?_ GE382.out) | exact HB.out)⟩⟩
                  · replace c26 := Bool.eq_false_iff.mpr c26
                    subst c26
                    have H1 : (deadfalllaw08_PatternParts.j1 kj5 a0 a1 true) = some r := by rw [if_neg (show ¬ (false = true) by decide)] at H; exact H
                    clear H
                    have H := H1
                    clear H1
                    have H' := Aside0.mk H
                    clear H
                    go_wp2_with (first | ((with_reducible refine gate_callee (f := 49) rfl ?_); refine goesL_ (some 30) rfl rfl Try.func49 (by kernel_rfl) rfl #[.string a0] rfl (by (try simp only [List.map_toArray, List.map_cons, List.map_nil]); first | done | rfl | (simp only [List.length_drop, List.length_take]; rfl)) ?_; (with_reducible refine (pattern_Literal.calls a0 t383 _ A17.out).mono ?_); rintro e w66 ⟨v384, rfl, ho0, hb⟩; refine ⟨_, rfl, ?_⟩; have n0_ := Aside0.mk (Kd.R_lower (Kd.R_newB (Kd.R_newB ho0 (g := gb381) (o := .cells #[.string (⟨#[42]⟩ : ByteArray), .bool false, .bool false] 26 (0, 0)) (by (with_reducible repeat (first | refine blk_drewN ?_ _ | refine blk_drew ?_ | refine blk_alloc ?_ _)); refine blk_far ?_ NB381_382.out _; (with_reducible repeat (first | refine blk_drewN ?_ _ | refine blk_drew ?_ | refine blk_alloc ?_ _)); refine blk_far ?_ NB381_382.out _; (with_reducible repeat (first | refine blk_drewN ?_ _ | refine blk_drew ?_ | refine blk_alloc ?_ _)); refine blk_far ?_ NB381_382.out _; (with_reducible repeat (first | refine blk_drewN ?_ _ | refine blk_drew ?_ | refine blk_alloc ?_ _)); exact BK381.out)) (g := gb382) (o := .cells #[.string a1, .bool true, .bool false] 26 (0, 0)) (by (with_reducible repeat (first | refine blk_drewN ?_ _ | refine blk_drew ?_ | refine blk_alloc ?_ _)); refine blk_put (cs := #[.string a1, .bool true, .bool false]) ?_ 2 _ rfl; (with_reducible repeat (first | refine blk_drewN ?_ _ | refine blk_drew ?_ | refine blk_alloc ?_ _)); refine blk_put (cs := #[.string a1, .bool false, .bool false]) ?_ 1 _ rfl; (with_reducible repeat (first | refine blk_drewN ?_ _ | refine blk_drew ?_ | refine blk_alloc ?_ _)); refine blk_put (cs := #[.string (⟨#[]⟩ : ByteArray), .bool false, .bool false]) ?_ 0 _ rfl; (with_reducible repeat (first | refine blk_drewN ?_ _ | refine blk_drew ?_ | refine blk_alloc ?_ _)); exact BK382.out)) (below_size (by repeat (first | (with_reducible first | exact HB.out | apply below_alloc | apply pw_below_drewN | apply below_drew1 | refine below_set ?_ GE381.out | refine below_set ?_ GE382.out) | exact HB.out)))); have n1_ := Aside0.mk (blk_below (g := gb381) (o := .cells #[.string (⟨#[42]⟩ : ByteArray), .bool false, .bool false] 26 (0, 0)) (by (with_reducible repeat (first | refine blk_drewN ?_ _ | refine blk_drew ?_ | refine blk_alloc ?_ _)); refine blk_far ?_ NB381_382.out _; (with_reducible repeat (first | refine blk_drewN ?_ _ | refine blk_drew ?_ | refine blk_alloc ?_ _)); refine blk_far ?_ NB381_382.out _; (with_reducible repeat (first | refine blk_drewN ?_ _ | refine blk_drew ?_ | refine blk_alloc ?_ _)); refine blk_far ?_ NB381_382.out _; (with_reducible repeat (first | refine blk_drewN ?_ _ | refine blk_drew ?_ | refine blk_alloc ?_ _)); exact BK381.out) hb); have n2_ := Aside0.mk (blk_below (g := gb382) (o := .cells #[.string a1, .bool true, .bool false] 26 (0, 0)) (by (with_reducible repeat (first | refine blk_drewN ?_ _ | refine blk_drew ?_ | refine blk_alloc ?_ _)); refine blk_put (cs := #[.string a1, .bool true, .bool false]) ?_ 2 _ rfl; (with_reducible repeat (first | refine blk_drewN ?_ _ | refine blk_drew ?_ | refine blk_alloc ?_ _)); refine blk_put (cs := #[.string a1, .bool false, .bool false]) ?_ 1 _ rfl; (with_reducible repeat (first | refine blk_drewN ?_ _ | refine blk_drew ?_ | refine blk_alloc ?_ _)); refine blk_put (cs := #[.string (⟨#[]⟩ : ByteArray), .bool false, .bool false]) ?_ 0 _ rfl; (with_reducible repeat (first | refine blk_drewN ?_ _ | refine blk_drew ?_ | refine blk_alloc ?_ _)); exact BK382.out) hb); have n3_ := Aside0.mk (below_step (by repeat (first | (with_reducible first | exact HB.out | apply below_alloc | apply pw_below_drewN | apply below_drew1 | refine below_set ?_ GE381.out | refine below_set ?_ GE382.out) | exact HB.out)) hb); clear BK381; clear BK382; clear HB; have HO385 := n0_; have BK381 := n1_; have BK382 := n2_; have HB := n3_; clear n0_ n1_ n2_ n3_; (try clear hb); (try clear hb2); (try clear hk); (try clear hi); (try clear ho0); obtain ⟨Ao67, co67, eo67⟩ := Kd.R_slice HO385.out; subst eo67) | ((with_reducible refine gate_callee (f := 45) rfl ?_); refine goesL_ (some 32) rfl rfl Try.func45 (by kernel_rfl) rfl #[.slice Ao67 t383.length co67, .string a1] rfl (by (try simp only [List.map_toArray, List.map_cons, List.map_nil]); first | done | rfl | (simp only [List.length_drop, List.length_take]; rfl)) ?_; (with_reducible refine (pattern_Match.calls _ _ t383 a1 t386 _ ?side1 ?side2 A18.out).mono ?_); (case side1 => repeat (first | exact (Kd.R_reads' HO385.out).2.2 | (with_reducible refine Kd.C_alloc ?_ _) | (with_reducible refine Kd.C_drewN ?_ _) | (with_reducible refine Kd.C_drew ?_))); (case side2 => exact (Kd.R_reads' HO385.out).2.1); rintro e w68 ⟨rfl, hb⟩; refine ⟨_, rfl, ?_⟩; have n0_ := Aside0.mk (Kd.R_below (by (with_reducible repeat (first | apply Kd.R_alloc | apply Kd.R_drewN | apply Kd.R_drew)); exact HO385.out) hb); have n1_ := Aside0.mk (blk_below (g := gb381) (o := .cells #[.string (⟨#[42]⟩ : ByteArray), .bool false, .bool false] 26 (0, 0)) (by (with_reducible repeat (first | refine blk_drewN ?_ _ | refine blk_drew ?_ | refine blk_alloc ?_ _)); exact BK381.out) hb); have n2_ := Aside0.mk (blk_below (g := gb382) (o := .cells #[.string a1, .bool true, .bool false] 26 (0, 0)) (by (with_reducible repeat (first | refine blk_drewN ?_ _ | refine blk_drew ?_ | refine blk_alloc ?_ _)); exact BK382.out) hb); have n3_ := Aside0.mk (below_step (by repeat (first | (with_reducible first | exact HB.out | apply below_alloc | apply pw_below_drewN | apply below_drew1 | refine below_set ?_ GE381.out | refine below_set ?_ GE382.out) | exact HB.out)) hb); clear HO385; clear BK381; clear BK382; clear HB; have HO385 := n0_; have BK381 := n1_; have BK382 := n2_; have HB := n3_; clear n0_ n1_ n2_ n3_; (try clear hb); (try clear hb2); (try clear hk); (try clear hi); have hnb69 := NB381_382.out; have hnc69 := NB382_381.out; have hcz70_0 : w68.cell? ⟨gb381, 0, none⟩ = some (.string (⟨#[42]⟩ : ByteArray)) := (blk_cell BK381.out 0).trans rfl; have hcz70_1 : w68.cell? ⟨gb381, 1, none⟩ = some (.bool false) := (blk_cell BK381.out 1).trans rfl; have hcz70_2 : w68.cell? ⟨gb381, 2, none⟩ = some (.bool false) := (blk_cell BK381.out 2).trans rfl; have hfz70_0 := blk_frozen BK381.out 0; have hfz70_1 := blk_frozen BK381.out 1; have hfz70_2 := blk_frozen BK381.out 2; have hcz71_0 : w68.cell? ⟨gb382, 0, none⟩ = some (.string a1) := (blk_cell BK382.out 0).trans rfl; have hcz71_1 : w68.cell? ⟨gb382, 1, none⟩ = some (.bool true) := (blk_cell BK382.out 1).trans rfl; have hcz71_2 : w68.cell? ⟨gb382, 2, none⟩ = some (.bool false) := (blk_cell BK382.out 2).trans rfl; have hfz71_0 := blk_frozen BK382.out 0; have hfz71_1 := blk_frozen BK382.out 1; have hfz71_2 := blk_frozen BK382.out 2) | ((with_reducible refine gate_dst (N := 41) rfl ?_); (try (refine gate_guard (by rfl) ?_; dsimp only)); refine Kd.R_lit k26 _ 26 ?hg (N := 41) ?hd (xs := ([(⟨(⟨#[42]⟩ : ByteArray), false, false⟩ : S26), (⟨a1, true, false⟩ : S26), (⟨(⟨#[42]⟩ : ByteArray), false, false⟩ : S26)] : List (S26))) (inner := [.string (⟨#[42]⟩ : ByteArray), .bool false, .bool false, .string a1, .bool true, .bool false, .string (⟨#[42]⟩ : ByteArray), .bool false, .bool false]) (ok := fun _ => True) (okp := fun _ => True) ?hr ?hp (fun _ hk => hk) trivial (Below.refl _ _) (Nat.le_refl _) (by simp) ?_; (case hd => rfl); (case hg => rfl); (case hr => first | (go_simp; done) | (go_simp; rfl)); (case hp => exact (Reps.c3 (show Kd.M k26 _ _ _ (⟨(⟨#[42]⟩ : ByteArray), false, false⟩ : S26) [.string (⟨#[42]⟩ : ByteArray), .bool false, .bool false] from (k26_mkM _ _ _ (⟨(⟨#[42]⟩ : ByteArray), false, false⟩ : S26) )) (Reps.c3 (show Kd.M k26 _ _ _ (⟨a1, true, false⟩ : S26) [.string a1, .bool true, .bool false] from (k26_mkM _ _ _ (⟨a1, true, false⟩ : S26) )) (Reps.c3 (show Kd.M k26 _ _ _ (⟨(⟨#[42]⟩ : ByteArray), false, false⟩ : S26) [.string (⟨#[42]⟩ : ByteArray), .bool false, .bool false] from (k26_mkM _ _ _ (⟨(⟨#[42]⟩ : ByteArray), false, false⟩ : S26) )) (Reps.none _ _))))); intro v388 w72 ho73 hb hg_ hnew_; clear hg_ hnew_; (first | rw [← Ny387.out] at ho73 | (simp only [Int.reduceToNat] at ho73; rw [← Ny387.out] at ho73)); have n0_ := Aside0.mk (Kd.R_elder' (by (with_reducible repeat (first | apply Kd.R_alloc | apply Kd.R_drewN | apply Kd.R_drew)); exact HO385.out) (Kd.R_base ho73) hb); have n1_ := Aside0.mk (Kd.R_lower (Kd.R_newB (Kd.R_newB (Kd.R_new' ho73 (Kd.R_lt (by (with_reducible repeat (first | apply Kd.R_alloc | apply Kd.R_drewN | apply Kd.R_drew)); exact HO385.out))) (g := gb381) (o := .cells #[.string (⟨#[42]⟩ : ByteArray), .bool false, .bool false] 26 (0, 0)) (by (with_reducible repeat (first | refine blk_drewN ?_ _ | refine blk_drew ?_ | refine blk_alloc ?_ _)); exact BK381.out)) (g := gb382) (o := .cells #[.string a1, .bool true, .bool false] 26 (0, 0)) (by (with_reducible repeat (first | refine blk_drewN ?_ _ | refine blk_drew ?_ | refine blk_alloc ?_ _)); exact BK382.out)) (below_size (by repeat (first | (with_reducible first | exact HB.out | apply below_alloc | apply pw_below_drewN | apply below_drew1 | refine below_set ?_ GE381.out | refine below_set ?_ GE382.out) | exact HB.out)))); have n2_ := Aside0.mk (blk_below (g := gb381) (o := .cells #[.string (⟨#[42]⟩ : ByteArray), .bool false, .bool false] 26 (0, 0)) (by (with_reducible repeat (first | refine blk_drewN ?_ _ | refine blk_drew ?_ | refine blk_alloc ?_ _)); exact BK381.out) hb); have n3_ := Aside0.mk (blk_below (g := gb382) (o := .cells #[.string a1, .bool true, .bool false] 26 (0, 0)) (by (with_reducible repeat (first | refine blk_drewN ?_ _ | refine blk_drew ?_ | refine blk_alloc ?_ _)); exact BK382.out) hb); have n4_ := Aside0.mk (below_step (by repeat (first | (with_reducible first | exact HB.out | apply below_alloc | apply pw_below_drewN | apply below_drew1 | refine below_set ?_ GE381.out | refine below_set ?_ GE382.out) | exact HB.out)) hb); clear HO385; clear BK381; clear BK382; clear HB; have HO385 := n0_; have HO389 := n1_; have BK381 := n2_; have BK382 := n3_; have HB := n4_; clear n0_ n1_ n2_ n3_ n4_; clear hb ho73; obtain ⟨Ao74, co74, eo74⟩ := Kd.R_slice HO389.out; subst eo74) | (go_at_call 45; (with_reducible refine (pattern_Match.calls _ _ y387 ((a0 ++ a1) ++ a2) false _ ?side1 ?side2 A25.out).mono ?_); (case side1 => repeat (first | exact (Kd.R_reads' HO389.out).2.2 | (with_reducible refine Kd.C_alloc ?_ _) | (with_reducible refine Kd.C_drewN ?_ _) | (with_reducible refine Kd.C_drew ?_))); (case side2 => exact (Kd.R_reads' HO389.out).2.1); rintro e w75 ⟨rfl, hb⟩; have n0_ := Aside0.mk (Kd.R_below (by (with_reducible repeat (first | apply Kd.R_alloc | apply Kd.R_drewN | apply Kd.R_drew)); exact HO385.out) hb); have n1_ := Aside0.mk (Kd.R_below (by (with_reducible repeat (first | apply Kd.R_alloc | apply Kd.R_drewN | apply Kd.R_drew)); exact HO389.out) hb); have n2_ := Aside0.mk (blk_below (g := gb381) (o := .cells #[.string (⟨#[42]⟩ : ByteArray), .bool false, .bool false] 26 (0, 0)) (by (with_reducible repeat (first | refine blk_drewN ?_ _ | refine blk_drew ?_ | refine blk_alloc ?_ _)); exact BK381.out) hb); have n3_ := Aside0.mk (blk_below (g := gb382) (o := .cells #[.string a1, .bool true, .bool false] 26 (0, 0)) (by (with_reducible repeat (first | refine blk_drewN ?_ _ | refine blk_drew ?_ | refine blk_alloc ?_ _)); exact BK382.out) hb); have n4_ := Aside0.mk (below_step (by repeat (first | (with_reducible first | exact HB.out | apply below_alloc | apply pw_below_drewN | apply below_drew1 | refine below_set ?_ GE381.out | refine below_set ?_ GE382.out) | exact HB.out)) hb); clear HO385; clear HO389; clear BK381; clear BK382; clear HB; have HO385 := n0_; have HO389 := n1_; have BK381 := n2_; have BK382 := n3_; have HB := n4_; clear n0_ n1_ n2_ n3_ n4_; (try clear hb); (try clear hb2); (try clear hk); (try clear hi)))
                    go_meet
                    case rel => exact ⟨_, (true), (by first | rfl | (simp; done) | (simp [*]; done)), H', ⟨by have := HJ5.out; first | omega | exact Nat.le_refl _⟩, ⟨by (with_reducible repeat (first | refine blk_drewN ?_ _ | refine blk_drew ?_ | refine blk_alloc ?_ _)); exact BK381.out⟩, ⟨by (with_reducible repeat (first | refine blk_drewN ?_ _ | refine blk_drew ?_ | refine blk_alloc ?_ _)); exact BK382.out⟩, ⟨by repeat (first | (with_reducible first | exact HB.out | apply below_alloc | apply pw_below_drewN | apply below_drew1 | refine below_set ?_ GE381.out | refine below_set ?_ GE382.out) | exact HB.out)⟩⟩
                · rw [if_neg c24] at H
                  exact absurd H (by simp)
              · rw [if_neg c23] at H
                exact absurd H (by simp)
          case rest =>
            clear HC11
            try clear c1
            try clear c2
            try clear p2
            try clear c3
            try clear c4
            try clear c5
            try clear c6
            try clear c8
            try clear c8b0
            try clear c8b1
            try clear c9
            try clear c9b0
            try clear c9b1
            try clear c10
            try clear c15
            try clear c19
            try clear c19b0
            try clear c19b1
            try clear c19b2
            try clear c23
            try clear c23b0
            try clear c23b1
            try clear c23b2
            try clear c24
            try clear c24b0
            try clear c24b1
            try clear c24b2
            try clear c26
            try clear c28
            try clear c34
            try clear c43
            try clear c45
            try clear c49
            try clear c54
            try clear c69
            try clear hcz13_0
            try clear hcz13_1
            try clear hcz13_2
            try clear hcz16_0
            try clear hcz16_1
            try clear hcz16_2
            try clear hcz35_0
            try clear hcz35_1
            try clear hcz35_2
            try clear hcz36_0
            try clear hcz36_1
            try clear hcz36_2
            try clear hcz41_0
            try clear hcz41_1
            try clear hcz41_2
            try clear hcz55_0
            try clear hcz55_1
            try clear hcz55_2
            try clear hcz56_0
            try clear hcz56_1
            try clear hcz56_2
            try clear hcz61_0
            try clear hcz61_1
            try clear hcz61_2
            try clear hcz70_0
            try clear hcz70_1
            try clear hcz70_2
            try clear hcz71_0
            try clear hcz71_1
            try clear hcz71_2
            try clear hfz13_0
            try clear hfz13_1
            try clear hfz13_2
            try clear hfz16_0
            try clear hfz16_1
            try clear hfz16_2
            try clear hfz35_0
            try clear hfz35_1
            try clear hfz35_2
            try clear hfz36_0
            try clear hfz36_1
            try clear hfz36_2
            try clear hfz41_0
            try clear hfz41_1
            try clear hfz41_2
            try clear hfz55_0
            try clear hfz55_1
            try clear hfz55_2
            try clear hfz56_0
            try clear hfz56_1
            try clear hfz56_2
            try clear hfz61_0
            try clear hfz61_1
            try clear hfz61_2
            try clear hfz70_0
            try clear hfz70_1
            try clear hfz70_2
            try clear hfz71_0
            try clear hfz71_1
            try clear hfz71_2
            try clear p2
            obtain ⟨kq, x67_10, rfl, HA, HJ10, BK381, BK382, HB⟩ := hcut
            cases kq with
            | zero => exact absurd HA.out (by simp [deadfalllaw08_PatternParts.j1])
            | succ kj10 =>
              have H := HA.out
              clear HA
              simp only [deadfalllaw08_PatternParts.j1] at H
              by_cases c76 : x67_10 = true
              · subst c76
                have H1 : (some false) = some r := by rw [if_pos rfl] at H; exact H
                clear H
                have H := H1
                clear H1
                obtain rfl := Option.some.inj H
                go_wp2
                go_ret
                exact ⟨by first | rfl | (simp [errW_none, errW_some] <;> rfl) | (simp [*, errW_none, errW_some] <;> rfl), by repeat (first | (with_reducible first | exact HB.out | apply below_alloc | apply pw_below_drewN | apply below_drew1 | refine below_set ?_ GE381.out | refine below_set ?_ GE382.out) | exact HB.out)⟩
              · replace c76 := Bool.eq_false_iff.mpr c76
                subst c76
                have H1 : ((some (([(⟨a0, false, false⟩ : S26)] : List (S26)) : List (S26))).bind fun y402 => ((pattern_Plain.f y402).bind fun t405 => (if t405 = true then ((pattern_Match.f y402 a1).bind fun t406 => (deadfalllaw08_PatternParts.j2 kj10 a0 a1 (t406 != (a0.toList == a1.toList)))) else (deadfalllaw08_PatternParts.j2 kj10 a0 a1 false)))) = some r := by rw [if_neg (show ¬ (false = true) by decide)] at H; exact H
                clear H
                have H := H1
                clear H1
                obtain ⟨y402, hy402⟩ : ∃ y_ : List (S26), y_ = (([(⟨a0, false, false⟩ : S26)] : List (S26))) := ⟨_, rfl⟩
                replace H : ((pattern_Plain.f y402).bind fun t405 => (if t405 = true then ((pattern_Match.f y402 a1).bind fun t406 => (deadfalllaw08_PatternParts.j2 kj10 a0 a1 (t406 != (a0.toList == a1.toList)))) else (deadfalllaw08_PatternParts.j2 kj10 a0 a1 false))) = some r := by first | (rw [hy402]; with_reducible exact H) | (have H2_ := (Option.bind_some _ _).symm.trans H; rw [hy402]; with_reducible exact H2_) | (have H2_ := (Option.bind_some _ _).symm.trans H; with_reducible exact H2_) | with_reducible exact H | (rw [hy402]; exact H) | exact H
                have Ny402 := Aside0.mk hy402
                clear hy402
                have HC77 := Aside0.mk H
                clear H
                go_upto_region 10 with (first | ((with_reducible refine gate_dst (N := 70) rfl ?_); (try (refine gate_guard (by rfl) ?_; dsimp only)); refine Kd.R_lit k26 _ 26 ?hg (N := 70) ?hd (xs := ([(⟨a0, false, false⟩ : S26)] : List (S26))) (inner := [.string a0, .bool false, .bool false]) (ok := fun _ => True) (okp := fun _ => True) ?hr ?hp (fun _ hk => hk) trivial (Below.refl _ _) (Nat.le_refl _) (by simp) ?_; (case hd => rfl); (case hg => rfl); (case hr => first | (go_simp; done) | (go_simp; rfl)); (case hp => exact (Reps.c3 (show Kd.M k26 _ _ _ (⟨a0, false, false⟩ : S26) [.string a0, .bool false, .bool false] from (k26_mkM _ _ _ (⟨a0, false, false⟩ : S26) )) (Reps.none _ _))); intro v403 w78 ho79 hb hg_ hnew_; clear hg_ hnew_; (first | rw [← Ny402.out] at ho79 | (simp only [Int.reduceToNat] at ho79; rw [← Ny402.out] at ho79)); have n0_ := Aside0.mk (Kd.R_lower (Kd.R_newB (Kd.R_newB ho79 (g := gb381) (o := .cells #[.string (⟨#[42]⟩ : ByteArray), .bool false, .bool false] 26 (0, 0)) (by (with_reducible repeat (first | refine blk_drewN ?_ _ | refine blk_drew ?_ | refine blk_alloc ?_ _)); exact BK381.out)) (g := gb382) (o := .cells #[.string a1, .bool true, .bool false] 26 (0, 0)) (by (with_reducible repeat (first | refine blk_drewN ?_ _ | refine blk_drew ?_ | refine blk_alloc ?_ _)); exact BK382.out)) (below_size (by repeat (first | (with_reducible first | exact HB.out | apply below_alloc | apply pw_below_drewN | apply below_drew1 | refine below_set ?_ GE381.out | refine below_set ?_ GE382.out) | exact HB.out)))); have n1_ := Aside0.mk (blk_below (g := gb381) (o := .cells #[.string (⟨#[42]⟩ : ByteArray), .bool false, .bool false] 26 (0, 0)) (by (with_reducible repeat (first | refine blk_drewN ?_ _ | refine blk_drew ?_ | refine blk_alloc ?_ _)); exact BK381.out) hb); have n2_ := Aside0.mk (blk_below (g := gb382) (o := .cells #[.string a1, .bool true, .bool false] 26 (0, 0)) (by (with_reducible repeat (first | refine blk_drewN ?_ _ | refine blk_drew ?_ | refine blk_alloc ?_ _)); exact BK382.out) hb); have n3_ := Aside0.mk (below_step (by repeat (first | (with_reducible first | exact HB.out | apply below_alloc | apply pw_below_drewN | apply below_drew1 | refine below_set ?_ GE381.out | refine below_set ?_ GE382.out) | exact HB.out)) hb); clear BK381; clear BK382; clear HB; have HO404 := n0_; have BK381 := n1_; have BK382 := n2_; have HB := n3_; clear n0_ n1_ n2_ n3_; clear hb ho79))
                (try simp only [Act.put, List.setIfInBounds_toArray, List.set_cons_zero, List.set_cons_succ])
                go_cut [81] (fun v81 wc => ∃ (kq : Nat) (x81_76 : Bool), v81 = .bool x81_76 ∧ Aside0 (deadfalllaw08_PatternParts.j2 kq a0 a1 x81_76 = some r) ∧ Aside0 (kq ≤ kj10) ∧ Aside0 (wc.heap[gb381]? = some (.cells #[.string (⟨#[42]⟩ : ByteArray), .bool false, .bool false] 26 (0, 0))) ∧ Aside0 (wc.heap[gb382]? = some (.cells #[.string a1, .bool true, .bool false] 26 (0, 0))) ∧ Aside0 (Below w.heap.size w wc))
                case first =>
                  have H := HC77.out
                  clear HC77
                  replace H := Option.bind_eq_some_iff.mp H
                  obtain ⟨t405, A800, H⟩ := H
                  replace H : (if t405 = true then ((pattern_Match.f y402 a1).bind fun t406 => (deadfalllaw08_PatternParts.j2 kj10 a0 a1 (t406 != (a0.toList == a1.toList)))) else (deadfalllaw08_PatternParts.j2 kj10 a0 a1 false)) = some r := H
                  have A80 := Aside0.mk A800
                  clear A800
                  by_cases c81 : t405 = true
                  · subst c81
                    have H1 : ((pattern_Match.f y402 a1).bind fun t406 => (deadfalllaw08_PatternParts.j2 kj10 a0 a1 (t406 != (a0.toList == a1.toList)))) = some r := by rw [if_pos rfl] at H; exact H
                    clear H
                    have H := H1
                    clear H1
                    replace H := Option.bind_eq_some_iff.mp H
                    obtain ⟨t406, A820, H⟩ := H
                    replace H : (deadfalllaw08_PatternParts.j2 kj10 a0 a1 (t406 != (a0.toList == a1.toList))) = some r := H
                    have A82 := Aside0.mk A820
                    clear A820
                    have H' := Aside0.mk H
                    clear H
                    obtain ⟨Ao83, co83, eo83⟩ := Kd.R_slice HO404.out
                    subst eo83
                    go_wp2_with (first | ((with_reducible refine gate_callee (f := 47) rfl ?_); refine goesL_ (some 72) rfl rfl Try.func47 (by kernel_rfl) rfl #[.slice Ao83 y402.length co83] rfl (by (try simp only [List.map_toArray, List.map_cons, List.map_nil]); first | done | rfl | (simp only [List.length_drop, List.length_take]; rfl)) ?_; (with_reducible refine (pattern_Plain.calls _ _ y402 true _ ?side1 ?side2 A80.out).mono ?_); (case side1 => repeat (first | exact (Kd.R_reads' HO404.out).2.2 | (with_reducible refine Kd.C_alloc ?_ _) | (with_reducible refine Kd.C_drewN ?_ _) | (with_reducible refine Kd.C_drew ?_))); (case side2 => exact (Kd.R_reads' HO404.out).2.1); rintro e w84 ⟨rfl, hb⟩; refine ⟨_, rfl, ?_⟩; have n0_ := Aside0.mk (Kd.R_below (by (with_reducible repeat (first | apply Kd.R_alloc | apply Kd.R_drewN | apply Kd.R_drew)); exact HO404.out) hb); have n1_ := Aside0.mk (blk_below (g := gb381) (o := .cells #[.string (⟨#[42]⟩ : ByteArray), .bool false, .bool false] 26 (0, 0)) (by (with_reducible repeat (first | refine blk_drewN ?_ _ | refine blk_drew ?_ | refine blk_alloc ?_ _)); exact BK381.out) hb); have n2_ := Aside0.mk (blk_below (g := gb382) (o := .cells #[.string a1, .bool true, .bool false] 26 (0, 0)) (by (with_reducible repeat (first | refine blk_drewN ?_ _ | refine blk_drew ?_ | refine blk_alloc ?_ _)); exact BK382.out) hb); have n3_ := Aside0.mk (below_step (by repeat (first | (with_reducible first | exact HB.out | apply below_alloc | apply pw_below_drewN | apply below_drew1 | refine below_set ?_ GE381.out | refine below_set ?_ GE382.out) | exact HB.out)) hb); clear HO404; clear BK381; clear BK382; clear HB; have HO404 := n0_; have BK381 := n1_; have BK382 := n2_; have HB := n3_; clear n0_ n1_ n2_ n3_; (try clear hb); (try clear hb2); (try clear hk); (try clear hi)) | (go_at_call 45; (with_reducible refine (pattern_Match.calls _ _ y402 a1 t406 _ ?side1 ?side2 A82.out).mono ?_); (case side1 => repeat (first | exact (Kd.R_reads' HO404.out).2.2 | (with_reducible refine Kd.C_alloc ?_ _) | (with_reducible refine Kd.C_drewN ?_ _) | (with_reducible refine Kd.C_drew ?_))); (case side2 => exact (Kd.R_reads' HO404.out).2.1); rintro e w85 ⟨rfl, hb⟩; have n0_ := Aside0.mk (Kd.R_below (by (with_reducible repeat (first | apply Kd.R_alloc | apply Kd.R_drewN | apply Kd.R_drew)); exact HO404.out) hb); have n1_ := Aside0.mk (blk_below (g := gb381) (o := .cells #[.string (⟨#[42]⟩ : ByteArray), .bool false, .bool false] 26 (0, 0)) (by (with_reducible repeat (first | refine blk_drewN ?_ _ | refine blk_drew ?_ | refine blk_alloc ?_ _)); exact BK381.out) hb); have n2_ := Aside0.mk (blk_below (g := gb382) (o := .cells #[.string a1, .bool true, .bool false] 26 (0, 0)) (by (with_reducible repeat (first | refine blk_drewN ?_ _ | refine blk_drew ?_ | refine blk_alloc ?_ _)); exact BK382.out) hb); have n3_ := Aside0.mk (below_step (by repeat (first | (with_reducible first | exact HB.out | apply below_alloc | apply pw_below_drewN | apply below_drew1 | refine below_set ?_ GE381.out | refine below_set ?_ GE382.out) | exact HB.out)) hb); clear HO404; clear BK381; clear BK382; clear HB; have HO404 := n0_; have BK381 := n1_; have BK382 := n2_; have HB := n3_; clear n0_ n1_ n2_ n3_; (try clear hb); (try clear hb2); (try clear hk); (try clear hi)))
                    go_meet
                    case rel => exact ⟨_, ((t406 != (a0.toList == a1.toList))), (by first | rfl | (simp; done) | (simp [*]; done)), H', ⟨by have := HJ5.out; have := HJ10.out; first | omega | exact Nat.le_refl _⟩, ⟨by (with_reducible repeat (first | refine blk_drewN ?_ _ | refine blk_drew ?_ | refine blk_alloc ?_ _)); exact BK381.out⟩, ⟨by (with_reducible repeat (first | refine blk_drewN ?_ _ | refine blk_drew ?_ | refine blk_alloc ?_ _)); exact BK382.out⟩, ⟨by repeat (first | (with_reducible first | exact HB.out | apply below_alloc | apply pw_below_drewN | apply below_drew1 | refine below_set ?_ GE381.out | refine below_set ?_ GE382.out) | exact HB.out)⟩⟩
                  · replace c81 := Bool.eq_false_iff.mpr c81
                    subst c81
                    have H1 : (deadfalllaw08_PatternParts.j2 kj10 a0 a1 false) = some r := by rw [if_neg (show ¬ (false = true) by decide)] at H; exact H
                    clear H
                    have H := H1
                    clear H1
                    have H' := Aside0.mk H
                    clear H
                    obtain ⟨Ao86, co86, eo86⟩ := Kd.R_slice HO404.out
                    subst eo86
                    go_wp2_with (first | ((with_reducible refine gate_callee (f := 47) rfl ?_); refine goesL_ (some 72) rfl rfl Try.func47 (by kernel_rfl) rfl #[.slice Ao86 y402.length co86] rfl (by (try simp only [List.map_toArray, List.map_cons, List.map_nil]); first | done | rfl | (simp only [List.length_drop, List.length_take]; rfl)) ?_; (with_reducible refine (pattern_Plain.calls _ _ y402 false _ ?side1 ?side2 A80.out).mono ?_); (case side1 => repeat (first | exact (Kd.R_reads' HO404.out).2.2 | (with_reducible refine Kd.C_alloc ?_ _) | (with_reducible refine Kd.C_drewN ?_ _) | (with_reducible refine Kd.C_drew ?_))); (case side2 => exact (Kd.R_reads' HO404.out).2.1); rintro e w87 ⟨rfl, hb⟩; refine ⟨_, rfl, ?_⟩; have n0_ := Aside0.mk (Kd.R_below (by (with_reducible repeat (first | apply Kd.R_alloc | apply Kd.R_drewN | apply Kd.R_drew)); exact HO404.out) hb); have n1_ := Aside0.mk (blk_below (g := gb381) (o := .cells #[.string (⟨#[42]⟩ : ByteArray), .bool false, .bool false] 26 (0, 0)) (by (with_reducible repeat (first | refine blk_drewN ?_ _ | refine blk_drew ?_ | refine blk_alloc ?_ _)); exact BK381.out) hb); have n2_ := Aside0.mk (blk_below (g := gb382) (o := .cells #[.string a1, .bool true, .bool false] 26 (0, 0)) (by (with_reducible repeat (first | refine blk_drewN ?_ _ | refine blk_drew ?_ | refine blk_alloc ?_ _)); exact BK382.out) hb); have n3_ := Aside0.mk (below_step (by repeat (first | (with_reducible first | exact HB.out | apply below_alloc | apply pw_below_drewN | apply below_drew1 | refine below_set ?_ GE381.out | refine below_set ?_ GE382.out) | exact HB.out)) hb); clear HO404; clear BK381; clear BK382; clear HB; have HO404 := n0_; have BK381 := n1_; have BK382 := n2_; have HB := n3_; clear n0_ n1_ n2_ n3_; (try clear hb); (try clear hb2); (try clear hk); (try clear hi)))
                    go_meet
                    case rel => exact ⟨_, (false), (by first | rfl | (simp; done) | (simp [*]; done)), H', ⟨by have := HJ5.out; have := HJ10.out; first | omega | exact Nat.le_refl _⟩, ⟨by (with_reducible repeat (first | refine blk_drewN ?_ _ | refine blk_drew ?_ | refine blk_alloc ?_ _)); exact BK381.out⟩, ⟨by (with_reducible repeat (first | refine blk_drewN ?_ _ | refine blk_drew ?_ | refine blk_alloc ?_ _)); exact BK382.out⟩, ⟨by repeat (first | (with_reducible first | exact HB.out | apply below_alloc | apply pw_below_drewN | apply below_drew1 | refine below_set ?_ GE381.out | refine below_set ?_ GE382.out) | exact HB.out)⟩⟩
                case rest =>
                  clear HC77
                  try clear c1
                  try clear c2
                  try clear p2
                  try clear c3
                  try clear c4
                  try clear c5
                  try clear c6
                  try clear c7
                  try clear c8
                  try clear c8b0
                  try clear c8b1
                  try clear c9
                  try clear c9b0
                  try clear c9b1
                  try clear c10
                  try clear c15
                  try clear c19
                  try clear c19b0
                  try clear c19b1
                  try clear c19b2
                  try clear c23
                  try clear c23b0
                  try clear c23b1
                  try clear c23b2
                  try clear c24
                  try clear c24b0
                  try clear c24b1
                  try clear c24b2
                  try clear c26
                  try clear c28
                  try clear c34
                  try clear c43
                  try clear c45
                  try clear c47
                  try clear c49
                  try clear c54
                  try clear c69
                  try clear c76
                  try clear c81
                  try clear hcz13_0
                  try clear hcz13_1
                  try clear hcz13_2
                  try clear hcz16_0
                  try clear hcz16_1
                  try clear hcz16_2
                  try clear hcz35_0
                  try clear hcz35_1
                  try clear hcz35_2
                  try clear hcz36_0
                  try clear hcz36_1
                  try clear hcz36_2
                  try clear hcz41_0
                  try clear hcz41_1
                  try clear hcz41_2
                  try clear hcz55_0
                  try clear hcz55_1
                  try clear hcz55_2
                  try clear hcz56_0
                  try clear hcz56_1
                  try clear hcz56_2
                  try clear hcz61_0
                  try clear hcz61_1
                  try clear hcz61_2
                  try clear hcz70_0
                  try clear hcz70_1
                  try clear hcz70_2
                  try clear hcz71_0
                  try clear hcz71_1
                  try clear hcz71_2
                  try clear hfz13_0
                  try clear hfz13_1
                  try clear hfz13_2
                  try clear hfz16_0
                  try clear hfz16_1
                  try clear hfz16_2
                  try clear hfz35_0
                  try clear hfz35_1
                  try clear hfz35_2
                  try clear hfz36_0
                  try clear hfz36_1
                  try clear hfz36_2
                  try clear hfz41_0
                  try clear hfz41_1
                  try clear hfz41_2
                  try clear hfz55_0
                  try clear hfz55_1
                  try clear hfz55_2
                  try clear hfz56_0
                  try clear hfz56_1
                  try clear hfz56_2
                  try clear hfz61_0
                  try clear hfz61_1
                  try clear hfz61_2
                  try clear hfz70_0
                  try clear hfz70_1
                  try clear hfz70_2
                  try clear hfz71_0
                  try clear hfz71_1
                  try clear hfz71_2
                  try clear p2
                  obtain ⟨kq, x81_76, rfl, HA, HJ76, BK381, BK382, HB⟩ := hcut
                  cases kq with
                  | zero => exact absurd HA.out (by simp [deadfalllaw08_PatternParts.j2])
                  | succ kj76 =>
                    have H := HA.out
                    clear HA
                    simp only [deadfalllaw08_PatternParts.j2] at H
                    by_cases c88 : x81_76 = true
                    · subst c88
                      have H1 : (some false) = some r := by rw [if_pos rfl] at H; exact H
                      clear H
                      have H := H1
                      clear H1
                      obtain rfl := Option.some.inj H
                      go_wp2
                      go_ret
                      exact ⟨by first | rfl | (simp [errW_none, errW_some] <;> rfl) | (simp [*, errW_none, errW_some] <;> rfl), by repeat (first | (with_reducible first | exact HB.out | apply below_alloc | apply pw_below_drewN | apply below_drew1 | refine below_set ?_ GE381.out | refine below_set ?_ GE382.out) | exact HB.out)⟩
                    · replace c88 := Bool.eq_false_iff.mpr c88
                      subst c88
                      have H1 : (deadfalllaw08_PatternParts.l0 kj76 a0 a1 (⟨#[]⟩ : ByteArray) (a0.size : Int) 0) = some r := by rw [if_neg (show ¬ (false = true) by decide)] at H; exact H
                      clear H
                      have H := H1
                      clear H1
                      have H' := Aside0.mk H
                      clear H
                      go_wp2
                      go_loopg [10, 84] kj76 (fun kq v10 v84 w' => ∃ (x10_4 : ByteArray) (x84_4 : Int), v10 = .string x10_4 ∧ v84 = .int .i64 x84_4 ∧ Aside0 (deadfalllaw08_PatternParts.l0 kq a0 a1 x10_4 (a0.size : Int) x84_4 = some r) ∧ Aside0 (kq ≤ kj76) ∧ Aside0 (w'.heap[gb381]? = some (.cells #[.string (⟨#[42]⟩ : ByteArray), .bool false, .bool false] 26 (0, 0))) ∧ Aside0 (w'.heap[gb382]? = some (.cells #[.string a1, .bool true, .bool false] 26 (0, 0))) ∧ Aside0 (Below w.heap.size w w'))
                      case atStart => exact ⟨((⟨#[]⟩ : ByteArray)), (0), (by first | rfl | (simp; done) | (simp [*]; done)), (by first | rfl | (simp; done) | (simp [*]; done)), H', ⟨Nat.le_refl _⟩, ⟨by (with_reducible repeat (first | refine blk_drewN ?_ _ | refine blk_drew ?_ | refine blk_alloc ?_ _)); exact BK381.out⟩, ⟨by (with_reducible repeat (first | refine blk_drewN ?_ _ | refine blk_drew ?_ | refine blk_alloc ?_ _)); exact BK382.out⟩, ⟨by repeat (first | (with_reducible first | exact HB.out | apply below_alloc | apply pw_below_drewN | apply below_drew1 | refine below_set ?_ GE381.out | refine below_set ?_ GE382.out) | exact HB.out)⟩⟩
                      case round =>
                        clear H'
                        try clear c1
                        try clear c2
                        try clear p2
                        try clear c3
                        try clear c4
                        try clear c5
                        try clear c6
                        try clear c7
                        try clear c8
                        try clear c8b0
                        try clear c8b1
                        try clear c9
                        try clear c9b0
                        try clear c9b1
                        try clear c10
                        try clear c15
                        try clear c19
                        try clear c19b0
                        try clear c19b1
                        try clear c19b2
                        try clear c23
                        try clear c23b0
                        try clear c23b1
                        try clear c23b2
                        try clear c24
                        try clear c24b0
                        try clear c24b1
                        try clear c24b2
                        try clear c26
                        try clear c28
                        try clear c34
                        try clear c43
                        try clear c45
                        try clear c47
                        try clear c49
                        try clear c54
                        try clear c69
                        try clear c76
                        try clear c81
                        try clear c88
                        try clear hcz13_0
                        try clear hcz13_1
                        try clear hcz13_2
                        try clear hcz16_0
                        try clear hcz16_1
                        try clear hcz16_2
                        try clear hcz35_0
                        try clear hcz35_1
                        try clear hcz35_2
                        try clear hcz36_0
                        try clear hcz36_1
                        try clear hcz36_2
                        try clear hcz41_0
                        try clear hcz41_1
                        try clear hcz41_2
                        try clear hcz55_0
                        try clear hcz55_1
                        try clear hcz55_2
                        try clear hcz56_0
                        try clear hcz56_1
                        try clear hcz56_2
                        try clear hcz61_0
                        try clear hcz61_1
                        try clear hcz61_2
                        try clear hcz70_0
                        try clear hcz70_1
                        try clear hcz70_2
                        try clear hcz71_0
                        try clear hcz71_1
                        try clear hcz71_2
                        try clear hfz13_0
                        try clear hfz13_1
                        try clear hfz13_2
                        try clear hfz16_0
                        try clear hfz16_1
                        try clear hfz16_2
                        try clear hfz35_0
                        try clear hfz35_1
                        try clear hfz35_2
                        try clear hfz36_0
                        try clear hfz36_1
                        try clear hfz36_2
                        try clear hfz41_0
                        try clear hfz41_1
                        try clear hfz41_2
                        try clear hfz55_0
                        try clear hfz55_1
                        try clear hfz55_2
                        try clear hfz56_0
                        try clear hfz56_1
                        try clear hfz56_2
                        try clear hfz61_0
                        try clear hfz61_1
                        try clear hfz61_2
                        try clear hfz70_0
                        try clear hfz70_1
                        try clear hfz70_2
                        try clear hfz71_0
                        try clear hfz71_1
                        try clear hfz71_2
                        try clear p2
                        obtain ⟨x10_4, x84_4, rfl, rfl, HA, HK4, BK381, BK382, HB⟩ := hrel
                        cases gk with
                        | zero => exact absurd HA.out (by simp [deadfalllaw08_PatternParts.l0])
                        | succ k4 =>
                          have H := HA.out
                          clear HA
                          simp only [deadfalllaw08_PatternParts.l0] at H
                          by_cases c89 : x84_4 < (a0.size : Int)
                          · rw [if_pos c89] at H
                            have c89b0 : decide (x84_4 < (a0.size : Int)) = true := decide_eq_true c89
                            clear c89
                            by_cases c90 : x10_4.size + 1 ≤ 9223372036854775807
                            · rw [if_pos c90] at H
                              have c90b0 := eq_true c90
                              have c90b1 : decide (x10_4.size + 1 ≤ 9223372036854775807) = true := decide_eq_true c90
                              try have c90b2 : (9223372036854775807 < x10_4.size + 1) = False := eq_false (Nat.not_lt.2 c90)
                              have H' := Aside0.mk H
                              clear H
                              go_wp2
                              go_roundg k4
                              case measure => have := HJ5.out; have := HJ10.out; have := HJ76.out; have := HK4.out; omega
                              case rel => exact ⟨(x10_4 ++ (⟨#[63]⟩ : ByteArray)), (wrap64 (x84_4 + 1)), (by first | rfl | (simp; done) | (simp [*]; done)), (by first | rfl | (simp; done) | (simp [*]; done)), H', ⟨by have := HJ5.out; have := HJ10.out; have := HJ76.out; have := HK4.out; omega⟩, ⟨by (with_reducible repeat (first | refine blk_drewN ?_ _ | refine blk_drew ?_ | refine blk_alloc ?_ _)); exact BK381.out⟩, ⟨by (with_reducible repeat (first | refine blk_drewN ?_ _ | refine blk_drew ?_ | refine blk_alloc ?_ _)); exact BK382.out⟩, ⟨by repeat (first | (with_reducible first | exact HB.out | apply below_alloc | apply pw_below_drewN | apply below_drew1 | refine below_set ?_ GE381.out | refine below_set ?_ GE382.out) | exact HB.out)⟩⟩
                            · rw [if_neg c90] at H
                              exact absurd H (by simp)
                          · rw [if_neg c89] at H
                            have c89b0 : decide (x84_4 < (a0.size : Int)) = false := decide_eq_false c89
                            clear c89
                            obtain ⟨y407, hy407⟩ : ∃ y_ : List (S26), y_ = (([(⟨x10_4, false, false⟩ : S26)] : List (S26))) := ⟨_, rfl⟩
                            replace H : ((pattern_Match.f y407 a1).bind fun t410 => (if (t410 == ((a0.size : Int) == (a1.size : Int))) = true then ((pattern_Literal.f a0).bind fun t411 => ((pattern_Plain.f t411).bind fun t414 => (some t414))) else (some false))) = some r := by first | (rw [hy407]; with_reducible exact H) | (have H2_ := (Option.bind_some _ _).symm.trans H; rw [hy407]; with_reducible exact H2_) | (have H2_ := (Option.bind_some _ _).symm.trans H; with_reducible exact H2_) | with_reducible exact H | (rw [hy407]; exact H) | exact H
                            have Ny407 := Aside0.mk hy407
                            clear hy407
                            replace H := Option.bind_eq_some_iff.mp H
                            obtain ⟨t410, A910, H⟩ := H
                            replace H : (if (t410 == ((a0.size : Int) == (a1.size : Int))) = true then ((pattern_Literal.f a0).bind fun t411 => ((pattern_Plain.f t411).bind fun t414 => (some t414))) else (some false)) = some r := H
                            have A91 := Aside0.mk A910
                            clear A910
                            by_cases c92 : (t410 == ((a0.size : Int) == (a1.size : Int))) = true
                            · rw [if_pos c92] at H
                              have c92b0 : (t410 == ((a0.size : Int) == (a1.size : Int))) = true := c92
                              (try (have c92b1 : decide (t410 = ((a0.size : Int) == (a1.size : Int))) = true := by simpa using c92))
                              (try (have c92b2 : (t410 == ((a0.size : Int) == (a1.size : Int))) = true := by simpa using c92))
                              clear c92
                              replace H := Option.bind_eq_some_iff.mp H
                              obtain ⟨t411, A930, H⟩ := H
                              replace H : ((pattern_Plain.f t411).bind fun t414 => (some t414)) = some r := H
                              have A93 := Aside0.mk A930
                              clear A930
                              replace H := Option.bind_eq_some_iff.mp H
                              obtain ⟨t414, A940, H⟩ := H
                              replace H : (some t414) = some r := H
                              have A94 := Aside0.mk A940
                              clear A940
                              obtain rfl := Option.some.inj H
                              go_wp2_with (first | ((with_reducible refine gate_dst (N := 91) rfl ?_); (try (refine gate_guard (by rfl) ?_; dsimp only)); refine Kd.R_lit k26 _ 26 ?hg (N := 91) ?hd (xs := ([(⟨x10_4, false, false⟩ : S26)] : List (S26))) (inner := [.string x10_4, .bool false, .bool false]) (ok := fun _ => True) (okp := fun _ => True) ?hr ?hp (fun _ hk => hk) trivial (Below.refl _ _) (Nat.le_refl _) (by simp) ?_; (case hd => rfl); (case hg => rfl); (case hr => first | (go_simp; done) | (go_simp; rfl)); (case hp => exact (Reps.c3 (show Kd.M k26 _ _ _ (⟨x10_4, false, false⟩ : S26) [.string x10_4, .bool false, .bool false] from (k26_mkM _ _ _ (⟨x10_4, false, false⟩ : S26) )) (Reps.none _ _))); intro v408 w95 ho96 hb hg_ hnew_; clear hg_ hnew_; (first | rw [← Ny407.out] at ho96 | (simp only [Int.reduceToNat] at ho96; rw [← Ny407.out] at ho96)); have n0_ := Aside0.mk (Kd.R_lower (Kd.R_newB (Kd.R_newB ho96 (g := gb381) (o := .cells #[.string (⟨#[42]⟩ : ByteArray), .bool false, .bool false] 26 (0, 0)) (by (with_reducible repeat (first | refine blk_drewN ?_ _ | refine blk_drew ?_ | refine blk_alloc ?_ _)); exact BK381.out)) (g := gb382) (o := .cells #[.string a1, .bool true, .bool false] 26 (0, 0)) (by (with_reducible repeat (first | refine blk_drewN ?_ _ | refine blk_drew ?_ | refine blk_alloc ?_ _)); exact BK382.out)) (below_size (by repeat (first | (with_reducible first | exact HB.out | apply below_alloc | apply pw_below_drewN | apply below_drew1 | refine below_set ?_ GE381.out | refine below_set ?_ GE382.out) | exact HB.out)))); have n1_ := Aside0.mk (blk_below (g := gb381) (o := .cells #[.string (⟨#[42]⟩ : ByteArray), .bool false, .bool false] 26 (0, 0)) (by (with_reducible repeat (first | refine blk_drewN ?_ _ | refine blk_drew ?_ | refine blk_alloc ?_ _)); exact BK381.out) hb); have n2_ := Aside0.mk (blk_below (g := gb382) (o := .cells #[.string a1, .bool true, .bool false] 26 (0, 0)) (by (with_reducible repeat (first | refine blk_drewN ?_ _ | refine blk_drew ?_ | refine blk_alloc ?_ _)); exact BK382.out) hb); have n3_ := Aside0.mk (below_step (by repeat (first | (with_reducible first | exact HB.out | apply below_alloc | apply pw_below_drewN | apply below_drew1 | refine below_set ?_ GE381.out | refine below_set ?_ GE382.out) | exact HB.out)) hb); clear BK381; clear BK382; clear HB; have HO409 := n0_; have BK381 := n1_; have BK382 := n2_; have HB := n3_; clear n0_ n1_ n2_ n3_; clear hb ho96; obtain ⟨Ao97, co97, eo97⟩ := Kd.R_slice HO409.out; subst eo97) | ((with_reducible refine gate_callee (f := 45) rfl ?_); refine goesL_ (some 93) rfl rfl Try.func45 (by kernel_rfl) rfl #[.slice Ao97 y407.length co97, .string a1] rfl (by (try simp only [List.map_toArray, List.map_cons, List.map_nil]); first | done | rfl | (simp only [List.length_drop, List.length_take]; rfl)) ?_; (with_reducible refine (pattern_Match.calls _ _ y407 a1 t410 _ ?side1 ?side2 A91.out).mono ?_); (case side1 => repeat (first | exact (Kd.R_reads' HO409.out).2.2 | (with_reducible refine Kd.C_alloc ?_ _) | (with_reducible refine Kd.C_drewN ?_ _) | (with_reducible refine Kd.C_drew ?_))); (case side2 => exact (Kd.R_reads' HO409.out).2.1); rintro e w98 ⟨rfl, hb⟩; refine ⟨_, rfl, ?_⟩; have n0_ := Aside0.mk (Kd.R_below (by (with_reducible repeat (first | apply Kd.R_alloc | apply Kd.R_drewN | apply Kd.R_drew)); exact HO409.out) hb); have n1_ := Aside0.mk (blk_below (g := gb381) (o := .cells #[.string (⟨#[42]⟩ : ByteArray), .bool false, .bool false] 26 (0, 0)) (by (with_reducible repeat (first | refine blk_drewN ?_ _ | refine blk_drew ?_ | refine blk_alloc ?_ _)); exact BK381.out) hb); have n2_ := Aside0.mk (blk_below (g := gb382) (o := .cells #[.string a1, .bool true, .bool false] 26 (0, 0)) (by (with_reducible repeat (first | refine blk_drewN ?_ _ | refine blk_drew ?_ | refine blk_alloc ?_ _)); exact BK382.out) hb); have n3_ := Aside0.mk (below_step (by repeat (first | (with_reducible first | exact HB.out | apply below_alloc | apply pw_below_drewN | apply below_drew1 | refine below_set ?_ GE381.out | refine below_set ?_ GE382.out) | exact HB.out)) hb); clear HO409; clear BK381; clear BK382; clear HB; have HO409 := n0_; have BK381 := n1_; have BK382 := n2_; have HB := n3_; clear n0_ n1_ n2_ n3_; (try clear hb); (try clear hb2); (try clear hk); (try clear hi)) | (go_at_call 49; (with_reducible refine (pattern_Literal.calls a0 t411 _ A93.out).mono ?_); rintro e w99 ⟨v412, rfl, ho0, hb⟩; have n0_ := Aside0.mk (Kd.R_elder' (by (with_reducible repeat (first | apply Kd.R_alloc | apply Kd.R_drewN | apply Kd.R_drew)); exact HO409.out) (Kd.R_base ho0) hb); have n1_ := Aside0.mk (Kd.R_lower (Kd.R_newB (Kd.R_newB (Kd.R_new' ho0 (Kd.R_lt (by (with_reducible repeat (first | apply Kd.R_alloc | apply Kd.R_drewN | apply Kd.R_drew)); exact HO409.out))) (g := gb381) (o := .cells #[.string (⟨#[42]⟩ : ByteArray), .bool false, .bool false] 26 (0, 0)) (by (with_reducible repeat (first | refine blk_drewN ?_ _ | refine blk_drew ?_ | refine blk_alloc ?_ _)); exact BK381.out)) (g := gb382) (o := .cells #[.string a1, .bool true, .bool false] 26 (0, 0)) (by (with_reducible repeat (first | refine blk_drewN ?_ _ | refine blk_drew ?_ | refine blk_alloc ?_ _)); exact BK382.out)) (below_size (by repeat (first | (with_reducible first | exact HB.out | apply below_alloc | apply pw_below_drewN | apply below_drew1 | refine below_set ?_ GE381.out | refine below_set ?_ GE382.out) | exact HB.out)))); have n2_ := Aside0.mk (blk_below (g := gb381) (o := .cells #[.string (⟨#[42]⟩ : ByteArray), .bool false, .bool false] 26 (0, 0)) (by (with_reducible repeat (first | refine blk_drewN ?_ _ | refine blk_drew ?_ | refine blk_alloc ?_ _)); exact BK381.out) hb); have n3_ := Aside0.mk (blk_below (g := gb382) (o := .cells #[.string a1, .bool true, .bool false] 26 (0, 0)) (by (with_reducible repeat (first | refine blk_drewN ?_ _ | refine blk_drew ?_ | refine blk_alloc ?_ _)); exact BK382.out) hb); have n4_ := Aside0.mk (below_step (by repeat (first | (with_reducible first | exact HB.out | apply below_alloc | apply pw_below_drewN | apply below_drew1 | refine below_set ?_ GE381.out | refine below_set ?_ GE382.out) | exact HB.out)) hb); clear HO409; clear BK381; clear BK382; clear HB; have HO409 := n0_; have HO413 := n1_; have BK381 := n2_; have BK382 := n3_; have HB := n4_; clear n0_ n1_ n2_ n3_ n4_; (try clear hb); (try clear hb2); (try clear hk); (try clear hi); (try clear ho0); obtain ⟨Ao100, co100, eo100⟩ := Kd.R_slice HO413.out; subst eo100) | (go_at_call 47; (with_reducible refine (pattern_Plain.calls _ _ t411 t414 _ ?side1 ?side2 A94.out).mono ?_); (case side1 => repeat (first | exact (Kd.R_reads' HO413.out).2.2 | (with_reducible refine Kd.C_alloc ?_ _) | (with_reducible refine Kd.C_drewN ?_ _) | (with_reducible refine Kd.C_drew ?_))); (case side2 => exact (Kd.R_reads' HO413.out).2.1); rintro e w101 ⟨rfl, hb⟩; have n0_ := Aside0.mk (Kd.R_below (by (with_reducible repeat (first | apply Kd.R_alloc | apply Kd.R_drewN | apply Kd.R_drew)); exact HO409.out) hb); have n1_ := Aside0.mk (Kd.R_below (by (with_reducible repeat (first | apply Kd.R_alloc | apply Kd.R_drewN | apply Kd.R_drew)); exact HO413.out) hb); have n2_ := Aside0.mk (blk_below (g := gb381) (o := .cells #[.string (⟨#[42]⟩ : ByteArray), .bool false, .bool false] 26 (0, 0)) (by (with_reducible repeat (first | refine blk_drewN ?_ _ | refine blk_drew ?_ | refine blk_alloc ?_ _)); exact BK381.out) hb); have n3_ := Aside0.mk (blk_below (g := gb382) (o := .cells #[.string a1, .bool true, .bool false] 26 (0, 0)) (by (with_reducible repeat (first | refine blk_drewN ?_ _ | refine blk_drew ?_ | refine blk_alloc ?_ _)); exact BK382.out) hb); have n4_ := Aside0.mk (below_step (by repeat (first | (with_reducible first | exact HB.out | apply below_alloc | apply pw_below_drewN | apply below_drew1 | refine below_set ?_ GE381.out | refine below_set ?_ GE382.out) | exact HB.out)) hb); clear HO409; clear HO413; clear BK381; clear BK382; clear HB; have HO409 := n0_; have HO413 := n1_; have BK381 := n2_; have BK382 := n3_; have HB := n4_; clear n0_ n1_ n2_ n3_ n4_; (try clear hb); (try clear hb2); (try clear hk); (try clear hi)))
                              go_ret
                              exact ⟨by first | rfl | (simp [errW_none, errW_some] <;> rfl) | (simp [*, errW_none, errW_some] <;> rfl), by repeat (first | (with_reducible first | exact HB.out | apply below_alloc | apply pw_below_drewN | apply below_drew1 | refine below_set ?_ GE381.out | refine below_set ?_ GE382.out) | exact HB.out)⟩
                            · rw [if_neg c92] at H
                              have c92b0 : (t410 == ((a0.size : Int) == (a1.size : Int))) = false := by simpa using c92
                              (try (have c92b1 : decide (t410 = ((a0.size : Int) == (a1.size : Int))) = false := by simpa using c92))
                              (try (have c92b2 : (t410 == ((a0.size : Int) == (a1.size : Int))) = false := by simpa using c92))
                              (try (have c92b3 : ¬ (t410 = ((a0.size : Int) == (a1.size : Int))) := by simpa using c92))
                              clear c92
                              obtain rfl := Option.some.inj H
                              go_wp2_with (first | ((with_reducible refine gate_dst (N := 91) rfl ?_); (try (refine gate_guard (by rfl) ?_; dsimp only)); refine Kd.R_lit k26 _ 26 ?hg (N := 91) ?hd (xs := ([(⟨x10_4, false, false⟩ : S26)] : List (S26))) (inner := [.string x10_4, .bool false, .bool false]) (ok := fun _ => True) (okp := fun _ => True) ?hr ?hp (fun _ hk => hk) trivial (Below.refl _ _) (Nat.le_refl _) (by simp) ?_; (case hd => rfl); (case hg => rfl); (case hr => first | (go_simp; done) | (go_simp; rfl)); (case hp => exact (Reps.c3 (show Kd.M k26 _ _ _ (⟨x10_4, false, false⟩ : S26) [.string x10_4, .bool false, .bool false] from (k26_mkM _ _ _ (⟨x10_4, false, false⟩ : S26) )) (Reps.none _ _))); intro v408 w102 ho103 hb hg_ hnew_; clear hg_ hnew_; (first | rw [← Ny407.out] at ho103 | (simp only [Int.reduceToNat] at ho103; rw [← Ny407.out] at ho103)); have n0_ := Aside0.mk (Kd.R_lower (Kd.R_newB (Kd.R_newB ho103 (g := gb381) (o := .cells #[.string (⟨#[42]⟩ : ByteArray), .bool false, .bool false] 26 (0, 0)) (by (with_reducible repeat (first | refine blk_drewN ?_ _ | refine blk_drew ?_ | refine blk_alloc ?_ _)); exact BK381.out)) (g := gb382) (o := .cells #[.string a1, .bool true, .bool false] 26 (0, 0)) (by (with_reducible repeat (first | refine blk_drewN ?_ _ | refine blk_drew ?_ | refine blk_alloc ?_ _)); exact BK382.out)) (below_size (by repeat (first | (with_reducible first | exact HB.out | apply below_alloc | apply pw_below_drewN | apply below_drew1 | refine below_set ?_ GE381.out | refine below_set ?_ GE382.out) | exact HB.out)))); have n1_ := Aside0.mk (blk_below (g := gb381) (o := .cells #[.string (⟨#[42]⟩ : ByteArray), .bool false, .bool false] 26 (0, 0)) (by (with_reducible repeat (first | refine blk_drewN ?_ _ | refine blk_drew ?_ | refine blk_alloc ?_ _)); exact BK381.out) hb); have n2_ := Aside0.mk (blk_below (g := gb382) (o := .cells #[.string a1, .bool true, .bool false] 26 (0, 0)) (by (with_reducible repeat (first | refine blk_drewN ?_ _ | refine blk_drew ?_ | refine blk_alloc ?_ _)); exact BK382.out) hb); have n3_ := Aside0.mk (below_step (by repeat (first | (with_reducible first | exact HB.out | apply below_alloc | apply pw_below_drewN | apply below_drew1 | refine below_set ?_ GE381.out | refine below_set ?_ GE382.out) | exact HB.out)) hb); clear BK381; clear BK382; clear HB; have HO409 := n0_; have BK381 := n1_; have BK382 := n2_; have HB := n3_; clear n0_ n1_ n2_ n3_; clear hb ho103; obtain ⟨Ao104, co104, eo104⟩ := Kd.R_slice HO409.out; subst eo104) | ((with_reducible refine gate_callee (f := 45) rfl ?_); refine goesL_ (some 93) rfl rfl Try.func45 (by kernel_rfl) rfl #[.slice Ao104 y407.length co104, .string a1] rfl (by (try simp only [List.map_toArray, List.map_cons, List.map_nil]); first | done | rfl | (simp only [List.length_drop, List.length_take]; rfl)) ?_; (with_reducible refine (pattern_Match.calls _ _ y407 a1 t410 _ ?side1 ?side2 A91.out).mono ?_); (case side1 => repeat (first | exact (Kd.R_reads' HO409.out).2.2 | (with_reducible refine Kd.C_alloc ?_ _) | (with_reducible refine Kd.C_drewN ?_ _) | (with_reducible refine Kd.C_drew ?_))); (case side2 => exact (Kd.R_reads' HO409.out).2.1); rintro e w105 ⟨rfl, hb⟩; refine ⟨_, rfl, ?_⟩; have n0_ := Aside0.mk (Kd.R_below (by (with_reducible repeat (first | apply Kd.R_alloc | apply Kd.R_drewN | apply Kd.R_drew)); exact HO409.out) hb); have n1_ := Aside0.mk (blk_below (g := gb381) (o := .cells #[.string (⟨#[42]⟩ : ByteArray), .bool false, .bool false] 26 (0, 0)) (by (with_reducible repeat (first | refine blk_drewN ?_ _ | refine blk_drew ?_ | refine blk_alloc ?_ _)); exact BK381.out) hb); have n2_ := Aside0.mk (blk_below (g := gb382) (o := .cells #[.string a1, .bool true, .bool false] 26 (0, 0)) (by (with_reducible repeat (first | refine blk_drewN ?_ _ | refine blk_drew ?_ | refine blk_alloc ?_ _)); exact BK382.out) hb); have n3_ := Aside0.mk (below_step (by repeat (first | (with_reducible first | exact HB.out | apply below_alloc | apply pw_below_drewN | apply below_drew1 | refine below_set ?_ GE381.out | refine below_set ?_ GE382.out) | exact HB.out)) hb); clear HO409; clear BK381; clear BK382; clear HB; have HO409 := n0_; have BK381 := n1_; have BK382 := n2_; have HB := n3_; clear n0_ n1_ n2_ n3_; (try clear hb); (try clear hb2); (try clear hk); (try clear hi)))
                              go_ret
                              exact ⟨by first | rfl | (simp [errW_none, errW_some] <;> rfl) | (simp [*, errW_none, errW_some] <;> rfl), by repeat (first | (with_reducible first | exact HB.out | apply below_alloc | apply pw_below_drewN | apply below_drew1 | refine below_set ?_ GE381.out | refine below_set ?_ GE382.out) | exact HB.out)⟩
  · replace c5 := Bool.eq_false_iff.mpr c5
    subst c5
    have H1 : (some false) = some r := by rw [if_neg (show ¬ (false = true) by decide)] at H; exact H
    clear H
    have H := H1
    clear H1
    obtain rfl := Option.some.inj H
    go_enter Try.func10, Try.ntmps10
    go_wp2_with (first | ((with_reducible refine gate_callee (f := 43) rfl ?_); refine goesL_ (some 11) rfl rfl Try.func43 (by kernel_rfl) rfl #[] rfl (by (try simp only [List.map_toArray, List.map_cons, List.map_nil]); first | done | rfl | (simp only [List.length_drop, List.length_take]; rfl)) ?_; (with_reducible refine (deadfalllaw08_patternAlive.calls  false _ A4.out).mono ?_); rintro e w106 ⟨rfl, hb⟩; refine ⟨_, rfl, ?_⟩; have n0_ := Aside0.mk (below_step (by repeat (first | (with_reducible first | exact HB.out | apply below_alloc | apply pw_below_drewN | apply below_drew1) | exact HB.out)) hb); clear HB; have HB := n0_; clear n0_; (try clear hb); (try clear hb2); (try clear hk); (try clear hi)))
    go_ret
    exact ⟨by first | rfl | (simp [errW_none, errW_some] <;> rfl) | (simp [*, errW_none, errW_some] <;> rfl), by repeat (first | (with_reducible first | exact HB.out | apply below_alloc | apply pw_below_drewN | apply below_drew1) | exact HB.out)⟩

/-- THE ONE PURE STATEMENT of deadfalllaw08_PatternParts: yours. -/
def deadfalllaw08_PatternParts.Pure : Prop := ∀ (a0 : ByteArray) (a1 : ByteArray) (a2 : ByteArray), a0.size ≤ 140737488351232 → a1.size ≤ 140737488351232 → a2.size ≤ 140737488351232 → ∃ k, deadfalllaw08_PatternParts.f k a0 a1 a2 = some true
theorem deadfalllaw08_PatternParts.walk (P : deadfalllaw08_PatternParts.Pure) (a0 : ByteArray) (a1 : ByteArray) (a2 : ByteArray) (w : World) (w0 : a0.size ≤ 140737488351232) (w1 : a1.size ≤ 140737488351232) (w2 : a2.size ≤ 140737488351232) :
    Calls Try.prog 10 #[.string a0, .string a1, .string a2] w fun e w' => e = .returned (.bool true) ∧ Below w.heap.size w w' := by
  obtain ⟨k, h⟩ := P a0 a1 a2 w0 w1 w2
  refine (deadfalllaw08_PatternParts.calls k a0 a1 a2 true w h).mono ?_
  rintro e w' ⟨rfl, hd⟩
  exact ⟨rfl, hd⟩

end Go.Proofs.Ytkepmbkghmkodaa.P
