-- printed by a program of this session (wip/pp): a Lean function and a proof for each Go function
import Derived.Test.YtkepmbkghmkodaaQ0
import Derived.Test.YtkepmbkghmkodaaQ1
import Derived.Test.YtkepmbkghmkodaaQ2
namespace Go.Proofs.Ytkepmbkghmkodaa.Q
open Go.RowKit Go.Proofs.YtkepmbkghmkodaaW.PrintWords Go.Proofs.YtkepmbkghmkodaaW.PrintLast Go.Proofs.YtkepmbkghmkodaaW.PrintMore
attribute [local go_sem] max2_int min2_int max_two min_two max_three min_three max_four min_four   -- for this text's walks alone
set_option linter.unusedVariables false
set_option linter.unusedSimpArgs false

/-! ### deadfallref05_Weight: function 24 -/
mutual
def deadfallref05_Weight.j0 : Nat → Int → Bool → Int → ByteArray → Bool → List (S114) → List (List (S154)) → List (S52) → List Bool → List (S116) → Option (Int)
  | 0, _, _, _, _, _, _, _, _, _, _ => none
  | k + 1, x1, x39, x129000, x129001, x129002, x129003, x129004, x129005, x129006, x129007 => if x39 = true then (some 100000) else (deadfallref05_Weight.l0 k x1 (wrap64 ((wrap64 (1 + (x129001.size : Int))) + (x129006.length : Int))) x129004 (x129004.length : Int) 0 x129000 x129001 x129002 x129003 x129004 x129005 x129006 x129007)
def deadfallref05_Weight.l0 : Nat → Int → Int → List (List (S154)) → Int → Int → Int → ByteArray → Bool → List (S114) → List (List (S154)) → List (S52) → List Bool → List (S116) → Option (Int)
  | 0, _, _, _, _, _, _, _, _, _, _, _, _, _ => none
  | k + 1, x1, x5, x49, x50, x51, x129000, x129001, x129002, x129003, x129004, x129005, x129006, x129007 => if x51 < x50 then (if 0 ≤ x51 then (if x51 < (x49.length : Int) then ((deadfallref03_Weight.f k (rd_L4 x49 x51) 0).bind fun t130 => (deadfallref05_Weight.l0 k x1 (wrap64 (x5 + (wrap64 (1 + t130)))) x49 x50 (wrap64 (x51 + 1)) x129000 x129001 x129002 x129003 x129004 x129005 x129006 x129007)) else (none)) else (none)) else (deadfallref05_Weight.l1 k x1 x5 x129003 (x129003.length : Int) 0 x129000 x129001 x129002 x129003 x129004 x129005 x129006 x129007)
def deadfallref05_Weight.l1 : Nat → Int → Int → List (S114) → Int → Int → Int → ByteArray → Bool → List (S114) → List (List (S154)) → List (S52) → List Bool → List (S116) → Option (Int)
  | 0, _, _, _, _, _, _, _, _, _, _, _, _, _ => none
  | k + 1, x1, x5, x62, x63, x64, x129000, x129001, x129002, x129003, x129004, x129005, x129006, x129007 => if x64 < x63 then (if 0 ≤ x64 then (if x64 < (x62.length : Int) then ((deadfallref03_Weight.f k ((rd_T114 x62 x64).f1) 0).bind fun t133 => (deadfallref05_Weight.l1 k x1 (wrap64 (x5 + (wrap64 ((wrap64 (1 + (((rd_T114 x62 x64).f0).size : Int))) + t133)))) x62 x63 (wrap64 (x64 + 1)) x129000 x129001 x129002 x129003 x129004 x129005 x129006 x129007)) else (none)) else (none)) else (deadfallref05_Weight.l2 k x1 x5 x129007 (x129007.length : Int) 0 x129000 x129001 x129002 x129003 x129004 x129005 x129006 x129007)
def deadfallref05_Weight.l2 : Nat → Int → Int → List (S116) → Int → Int → Int → ByteArray → Bool → List (S114) → List (List (S154)) → List (S52) → List Bool → List (S116) → Option (Int)
  | 0, _, _, _, _, _, _, _, _, _, _, _, _, _ => none
  | k + 1, x1, x5, x80, x81, x82, x129000, x129001, x129002, x129003, x129004, x129005, x129006, x129007 => if x82 < x81 then (if 0 ≤ x82 then (if x82 < (x80.length : Int) then (deadfallref05_Weight.l3 k x1 (wrap64 (x5 + (wrap64 (1 + (((rd_T116 x80 x82).f1).length : Int))))) x80 x81 x82 ((rd_T116 x80 x82).f0) (((rd_T116 x80 x82).f0).length : Int) 0 x129000 x129001 x129002 x129003 x129004 x129005 x129006 x129007) else (none)) else (none)) else (if x5 > 20000 then (some 100000) else ((deadfallref05_Within.f k x129000 x129001 x129002 x129003 x129004 x129005 x129006 x129007).bind fun t138 => (deadfallref05_Weight.l4 k x1 x5 t138 (t138.length : Int) 0)))
def deadfallref05_Weight.l3 : Nat → Int → Int → List (S116) → Int → Int → List (List (S154)) → Int → Int → Int → ByteArray → Bool → List (S114) → List (List (S154)) → List (S52) → List Bool → List (S116) → Option (Int)
  | 0, _, _, _, _, _, _, _, _, _, _, _, _, _, _, _, _ => none
  | k + 1, x1, x5, x80, x81, x82, x93, x94, x95, x129000, x129001, x129002, x129003, x129004, x129005, x129006, x129007 => if x95 < x94 then (if 0 ≤ x95 then (if x95 < (x93.length : Int) then ((deadfallref03_Weight.f k (rd_L4 x93 x95) 0).bind fun t137 => (if (wrap64 (x5 + (wrap64 (1 + t137)))) > 20000 then (some 100000) else (deadfallref05_Weight.l3 k x1 (wrap64 (x5 + (wrap64 (1 + t137)))) x80 x81 x82 x93 x94 (wrap64 (x95 + 1)) x129000 x129001 x129002 x129003 x129004 x129005 x129006 x129007))) else (none)) else (none)) else (deadfallref05_Weight.l2 k x1 x5 x80 x81 (wrap64 (x82 + 1)) x129000 x129001 x129002 x129003 x129004 x129005 x129006 x129007)
def deadfallref05_Weight.l4 : Nat → Int → Int → List (S52) → Int → Int → Option (Int)
  | 0, _, _, _, _, _ => none
  | k + 1, x1, x5, x111, x112, x113 => if x113 < x112 then (if 0 ≤ x113 then (if x113 < (x111.length : Int) then ((deadfallref05_Weight.f k ((rd_T52 x111 x113).f0) ((rd_T52 x111 x113).f1) ((rd_T52 x111 x113).f2) ((rd_T52 x111 x113).f3) ((rd_T52 x111 x113).f4) ((rd_T52 x111 x113).f5) ((rd_T52 x111 x113).f6) ((rd_T52 x111 x113).f7) (wrap64 (x1 + 1))).bind fun t143 => (if (wrap64 (x5 + t143)) > 20000 then (some 100000) else (deadfallref05_Weight.l4 k x1 (wrap64 (x5 + t143)) x111 x112 (wrap64 (x113 + 1))))) else (none)) else (none)) else (some x5)
def deadfallref05_Weight.f : Nat → Int → ByteArray → Bool → List (S114) → List (List (S154)) → List (S52) → List Bool → List (S116) → Int → Option (Int)
  | 0, _, _, _, _, _, _, _, _, _ => none
  | k + 1, a0_0, a0_1, a0_2, l0_3, l0_4, l0_5, l0_6, l0_7, a1 => if a1 > 900 then (deadfallref05_Weight.j0 k a1 true a0_0 a0_1 a0_2 l0_3 l0_4 l0_5 l0_6 l0_7) else (deadfallref05_Weight.j0 k a1 (decide ((wrap64 ((wrap64 ((wrap64 ((wrap64 ((l0_5.length : Int) + (l0_7.length : Int))) + (l0_4.length : Int))) + (l0_3.length : Int))) + (l0_6.length : Int))) > 5000)) a0_0 a0_1 a0_2 l0_3 l0_4 l0_5 l0_6 l0_7)
end
theorem deadfallref05_Weight.mono_l : ∀ k, (∀ y0 y1 y2 y3 y4 y5 y6 y7 y8, LeO (deadfallref05_Weight.f k y0 y1 y2 y3 y4 y5 y6 y7 y8) (deadfallref05_Weight.f (k + 1) y0 y1 y2 y3 y4 y5 y6 y7 y8)) ∧ (∀ y0 y1 y2 y3 y4 y5 y6 y7 y8 y9, LeO (deadfallref05_Weight.j0 k y0 y1 y2 y3 y4 y5 y6 y7 y8 y9) (deadfallref05_Weight.j0 (k + 1) y0 y1 y2 y3 y4 y5 y6 y7 y8 y9)) ∧ (∀ y0 y1 y2 y3 y4 y5 y6 y7 y8 y9 y10 y11 y12, LeO (deadfallref05_Weight.l0 k y0 y1 y2 y3 y4 y5 y6 y7 y8 y9 y10 y11 y12) (deadfallref05_Weight.l0 (k + 1) y0 y1 y2 y3 y4 y5 y6 y7 y8 y9 y10 y11 y12)) ∧ (∀ y0 y1 y2 y3 y4 y5 y6 y7 y8 y9 y10 y11 y12, LeO (deadfallref05_Weight.l1 k y0 y1 y2 y3 y4 y5 y6 y7 y8 y9 y10 y11 y12) (deadfallref05_Weight.l1 (k + 1) y0 y1 y2 y3 y4 y5 y6 y7 y8 y9 y10 y11 y12)) ∧ (∀ y0 y1 y2 y3 y4 y5 y6 y7 y8 y9 y10 y11 y12, LeO (deadfallref05_Weight.l2 k y0 y1 y2 y3 y4 y5 y6 y7 y8 y9 y10 y11 y12) (deadfallref05_Weight.l2 (k + 1) y0 y1 y2 y3 y4 y5 y6 y7 y8 y9 y10 y11 y12)) ∧ (∀ y0 y1 y2 y3 y4 y5 y6 y7 y8 y9 y10 y11 y12 y13 y14 y15, LeO (deadfallref05_Weight.l3 k y0 y1 y2 y3 y4 y5 y6 y7 y8 y9 y10 y11 y12 y13 y14 y15) (deadfallref05_Weight.l3 (k + 1) y0 y1 y2 y3 y4 y5 y6 y7 y8 y9 y10 y11 y12 y13 y14 y15)) ∧ (∀ y0 y1 y2 y3 y4, LeO (deadfallref05_Weight.l4 k y0 y1 y2 y3 y4) (deadfallref05_Weight.l4 (k + 1) y0 y1 y2 y3 y4))
  | 0 => ⟨fun _ _ _ _ _ _ _ _ _ r h => by simp [deadfallref05_Weight.f] at h, fun _ _ _ _ _ _ _ _ _ _ r h => by simp [deadfallref05_Weight.j0] at h, fun _ _ _ _ _ _ _ _ _ _ _ _ _ r h => by simp [deadfallref05_Weight.l0] at h, fun _ _ _ _ _ _ _ _ _ _ _ _ _ r h => by simp [deadfallref05_Weight.l1] at h, fun _ _ _ _ _ _ _ _ _ _ _ _ _ r h => by simp [deadfallref05_Weight.l2] at h, fun _ _ _ _ _ _ _ _ _ _ _ _ _ _ _ _ r h => by simp [deadfallref05_Weight.l3] at h, fun _ _ _ _ _ r h => by simp [deadfallref05_Weight.l4] at h⟩
  | k + 1 => by
    obtain ⟨ih0, ih1, ih2, ih3, ih4, ih5, ih6⟩ := deadfallref05_Weight.mono_l k
    refine ⟨?_, ?_, ?_, ?_, ?_, ?_, ?_⟩
    · intro y0 y1 y2 y3 y4 y5 y6 y7 y8
      unfold deadfallref05_Weight.f
      repeat' first
      | (with_reducible exact ih0 _ _ _ _ _ _ _ _ _)
      | (with_reducible exact ih1 _ _ _ _ _ _ _ _ _ _)
      | (with_reducible exact ih2 _ _ _ _ _ _ _ _ _ _ _ _ _)
      | (with_reducible exact ih3 _ _ _ _ _ _ _ _ _ _ _ _ _)
      | (with_reducible exact ih4 _ _ _ _ _ _ _ _ _ _ _ _ _)
      | (with_reducible exact ih5 _ _ _ _ _ _ _ _ _ _ _ _ _ _ _ _)
      | (with_reducible exact ih6 _ _ _ _ _)
      | (with_reducible exact deadfallref03_Weight.mono _ _ _)
      | (with_reducible exact deadfallref05_Within.mono _ _ _ _ _ _ _ _ _)
      | (with_reducible exact LeO.refl _)
      | (with_reducible exact LeO.none _)
      | (with_reducible refine LeO.ite ?_ ?_)
      | (with_reducible refine LeO.bind ?_ (fun _ => ?_))
      | exact ih0 _ _ _ _ _ _ _ _ _
      | exact ih1 _ _ _ _ _ _ _ _ _ _
      | exact ih2 _ _ _ _ _ _ _ _ _ _ _ _ _
      | exact ih3 _ _ _ _ _ _ _ _ _ _ _ _ _
      | exact ih4 _ _ _ _ _ _ _ _ _ _ _ _ _
      | exact ih5 _ _ _ _ _ _ _ _ _ _ _ _ _ _ _ _
      | exact ih6 _ _ _ _ _
      | exact deadfallref03_Weight.mono _ _ _
      | exact deadfallref05_Within.mono _ _ _ _ _ _ _ _ _
      | exact LeO.none _
      | refine LeO.ite ?_ ?_
      | refine LeO.bind ?_ (fun _ => ?_)
    · intro y0 y1 y2 y3 y4 y5 y6 y7 y8 y9
      unfold deadfallref05_Weight.j0
      repeat' first
      | (with_reducible exact ih0 _ _ _ _ _ _ _ _ _)
      | (with_reducible exact ih1 _ _ _ _ _ _ _ _ _ _)
      | (with_reducible exact ih2 _ _ _ _ _ _ _ _ _ _ _ _ _)
      | (with_reducible exact ih3 _ _ _ _ _ _ _ _ _ _ _ _ _)
      | (with_reducible exact ih4 _ _ _ _ _ _ _ _ _ _ _ _ _)
      | (with_reducible exact ih5 _ _ _ _ _ _ _ _ _ _ _ _ _ _ _ _)
      | (with_reducible exact ih6 _ _ _ _ _)
      | (with_reducible exact deadfallref03_Weight.mono _ _ _)
      | (with_reducible exact deadfallref05_Within.mono _ _ _ _ _ _ _ _ _)
      | (with_reducible exact LeO.refl _)
      | (with_reducible exact LeO.none _)
      | (with_reducible refine LeO.ite ?_ ?_)
      | (with_reducible refine LeO.bind ?_ (fun _ => ?_))
      | exact ih0 _ _ _ _ _ _ _ _ _
      | exact ih1 _ _ _ _ _ _ _ _ _ _
      | exact ih2 _ _ _ _ _ _ _ _ _ _ _ _ _
      | exact ih3 _ _ _ _ _ _ _ _ _ _ _ _ _
      | exact ih4 _ _ _ _ _ _ _ _ _ _ _ _ _
      | exact ih5 _ _ _ _ _ _ _ _ _ _ _ _ _ _ _ _
      | exact ih6 _ _ _ _ _
      | exact deadfallref03_Weight.mono _ _ _
      | exact deadfallref05_Within.mono _ _ _ _ _ _ _ _ _
      | exact LeO.none _
      | refine LeO.ite ?_ ?_
      | refine LeO.bind ?_ (fun _ => ?_)
    · intro y0 y1 y2 y3 y4 y5 y6 y7 y8 y9 y10 y11 y12
      unfold deadfallref05_Weight.l0
      repeat' first
      | (with_reducible exact ih0 _ _ _ _ _ _ _ _ _)
      | (with_reducible exact ih1 _ _ _ _ _ _ _ _ _ _)
      | (with_reducible exact ih2 _ _ _ _ _ _ _ _ _ _ _ _ _)
      | (with_reducible exact ih3 _ _ _ _ _ _ _ _ _ _ _ _ _)
      | (with_reducible exact ih4 _ _ _ _ _ _ _ _ _ _ _ _ _)
      | (with_reducible exact ih5 _ _ _ _ _ _ _ _ _ _ _ _ _ _ _ _)
      | (with_reducible exact ih6 _ _ _ _ _)
      | (with_reducible exact deadfallref03_Weight.mono _ _ _)
      | (with_reducible exact deadfallref05_Within.mono _ _ _ _ _ _ _ _ _)
      | (with_reducible exact LeO.refl _)
      | (with_reducible exact LeO.none _)
      | (with_reducible refine LeO.ite ?_ ?_)
      | (with_reducible refine LeO.bind ?_ (fun _ => ?_))
      | exact ih0 _ _ _ _ _ _ _ _ _
      | exact ih1 _ _ _ _ _ _ _ _ _ _
      | exact ih2 _ _ _ _ _ _ _ _ _ _ _ _ _
      | exact ih3 _ _ _ _ _ _ _ _ _ _ _ _ _
      | exact ih4 _ _ _ _ _ _ _ _ _ _ _ _ _
      | exact ih5 _ _ _ _ _ _ _ _ _ _ _ _ _ _ _ _
      | exact ih6 _ _ _ _ _
      | exact deadfallref03_Weight.mono _ _ _
      | exact deadfallref05_Within.mono _ _ _ _ _ _ _ _ _
      | exact LeO.none _
      | refine LeO.ite ?_ ?_
      | refine LeO.bind ?_ (fun _ => ?_)
    · intro y0 y1 y2 y3 y4 y5 y6 y7 y8 y9 y10 y11 y12
      unfold deadfallref05_Weight.l1
      repeat' first
      | (with_reducible exact ih0 _ _ _ _ _ _ _ _ _)
      | (with_reducible exact ih1 _ _ _ _ _ _ _ _ _ _)
      | (with_reducible exact ih2 _ _ _ _ _ _ _ _ _ _ _ _ _)
      | (with_reducible exact ih3 _ _ _ _ _ _ _ _ _ _ _ _ _)
      | (with_reducible exact ih4 _ _ _ _ _ _ _ _ _ _ _ _ _)
      | (with_reducible exact ih5 _ _ _ _ _ _ _ _ _ _ _ _ _ _ _ _)
      | (with_reducible exact ih6 _ _ _ _ _)
      | (with_reducible exact deadfallref03_Weight.mono _ _ _)
      | (with_reducible exact deadfallref05_Within.mono _ _ _ _ _ _ _ _ _)
      | (with_reducible exact LeO.refl _)
      | (with_reducible exact LeO.none _)
      | (with_reducible refine LeO.ite ?_ ?_)
      | (with_reducible refine LeO.bind ?_ (fun _ => ?_))
      | exact ih0 _ _ _ _ _ _ _ _ _
      | exact ih1 _ _ _ _ _ _ _ _ _ _
      | exact ih2 _ _ _ _ _ _ _ _ _ _ _ _ _
      | exact ih3 _ _ _ _ _ _ _ _ _ _ _ _ _
      | exact ih4 _ _ _ _ _ _ _ _ _ _ _ _ _
      | exact ih5 _ _ _ _ _ _ _ _ _ _ _ _ _ _ _ _
      | exact ih6 _ _ _ _ _
      | exact deadfallref03_Weight.mono _ _ _
      | exact deadfallref05_Within.mono _ _ _ _ _ _ _ _ _
      | exact LeO.none _
      | refine LeO.ite ?_ ?_
      | refine LeO.bind ?_ (fun _ => ?_)
    · intro y0 y1 y2 y3 y4 y5 y6 y7 y8 y9 y10 y11 y12
      unfold deadfallref05_Weight.l2
      repeat' first
      | (with_reducible exact ih0 _ _ _ _ _ _ _ _ _)
      | (with_reducible exact ih1 _ _ _ _ _ _ _ _ _ _)
      | (with_reducible exact ih2 _ _ _ _ _ _ _ _ _ _ _ _ _)
      | (with_reducible exact ih3 _ _ _ _ _ _ _ _ _ _ _ _ _)
      | (with_reducible exact ih4 _ _ _ _ _ _ _ _ _ _ _ _ _)
      | (with_reducible exact ih5 _ _ _ _ _ _ _ _ _ _ _ _ _ _ _ _)
      | (with_reducible exact ih6 _ _ _ _ _)
      | (with_reducible exact deadfallref03_Weight.mono _ _ _)
      | (with_reducible exact deadfallref05_Within.mono _ _ _ _ _ _ _ _ _)
      | (with_reducible exact LeO.refl _)
      | (with_reducible exact LeO.none _)
      | (with_reducible refine LeO.ite ?_ ?_)
      | (with_reducible refine LeO.bind ?_ (fun _ => ?_))
      | exact ih0 _ _ _ _ _ _ _ _ _
      | exact ih1 _ _ _ _ _ _ _ _ _ _
      | exact ih2 _ _ _ _ _ _ _ _ _ _ _ _ _
      | exact ih3 _ _ _ _ _ _ _ _ _ _ _ _ _
      | exact ih4 _ _ _ _ _ _ _ _ _ _ _ _ _
      | exact ih5 _ _ _ _ _ _ _ _ _ _ _ _ _ _ _ _
      | exact ih6 _ _ _ _ _
      | exact deadfallref03_Weight.mono _ _ _
      | exact deadfallref05_Within.mono _ _ _ _ _ _ _ _ _
      | exact LeO.none _
      | refine LeO.ite ?_ ?_
      | refine LeO.bind ?_ (fun _ => ?_)
    · intro y0 y1 y2 y3 y4 y5 y6 y7 y8 y9 y10 y11 y12 y13 y14 y15
      unfold deadfallref05_Weight.l3
      repeat' first
      | (with_reducible exact ih0 _ _ _ _ _ _ _ _ _)
      | (with_reducible exact ih1 _ _ _ _ _ _ _ _ _ _)
      | (with_reducible exact ih2 _ _ _ _ _ _ _ _ _ _ _ _ _)
      | (with_reducible exact ih3 _ _ _ _ _ _ _ _ _ _ _ _ _)
      | (with_reducible exact ih4 _ _ _ _ _ _ _ _ _ _ _ _ _)
      | (with_reducible exact ih5 _ _ _ _ _ _ _ _ _ _ _ _ _ _ _ _)
      | (with_reducible exact ih6 _ _ _ _ _)
      | (with_reducible exact deadfallref03_Weight.mono _ _ _)
      | (with_reducible exact deadfallref05_Within.mono _ _ _ _ _ _ _ _ _)
      | (with_reducible exact LeO.refl _)
      | (with_reducible exact LeO.none _)
      | (with_reducible refine LeO.ite ?_ ?_)
      | (with_reducible refine LeO.bind ?_ (fun _ => ?_))
      | exact ih0 _ _ _ _ _ _ _ _ _
      | exact ih1 _ _ _ _ _ _ _ _ _ _
      | exact ih2 _ _ _ _ _ _ _ _ _ _ _ _ _
      | exact ih3 _ _ _ _ _ _ _ _ _ _ _ _ _
      | exact ih4 _ _ _ _ _ _ _ _ _ _ _ _ _
      | exact ih5 _ _ _ _ _ _ _ _ _ _ _ _ _ _ _ _
      | exact ih6 _ _ _ _ _
      | exact deadfallref03_Weight.mono _ _ _
      | exact deadfallref05_Within.mono _ _ _ _ _ _ _ _ _
      | exact LeO.none _
      | refine LeO.ite ?_ ?_
      | refine LeO.bind ?_ (fun _ => ?_)
    · intro y0 y1 y2 y3 y4
      unfold deadfallref05_Weight.l4
      repeat' first
      | (with_reducible exact ih0 _ _ _ _ _ _ _ _ _)
      | (with_reducible exact ih1 _ _ _ _ _ _ _ _ _ _)
      | (with_reducible exact ih2 _ _ _ _ _ _ _ _ _ _ _ _ _)
      | (with_reducible exact ih3 _ _ _ _ _ _ _ _ _ _ _ _ _)
      | (with_reducible exact ih4 _ _ _ _ _ _ _ _ _ _ _ _ _)
      | (with_reducible exact ih5 _ _ _ _ _ _ _ _ _ _ _ _ _ _ _ _)
      | (with_reducible exact ih6 _ _ _ _ _)
      | (with_reducible exact deadfallref03_Weight.mono _ _ _)
      | (with_reducible exact deadfallref05_Within.mono _ _ _ _ _ _ _ _ _)
      | (with_reducible exact LeO.refl _)
      | (with_reducible exact LeO.none _)
      | (with_reducible refine LeO.ite ?_ ?_)
      | (with_reducible refine LeO.bind ?_ (fun _ => ?_))
      | exact ih0 _ _ _ _ _ _ _ _ _
      | exact ih1 _ _ _ _ _ _ _ _ _ _
      | exact ih2 _ _ _ _ _ _ _ _ _ _ _ _ _
      | exact ih3 _ _ _ _ _ _ _ _ _ _ _ _ _
      | exact ih4 _ _ _ _ _ _ _ _ _ _ _ _ _
      | exact ih5 _ _ _ _ _ _ _ _ _ _ _ _ _ _ _ _
      | exact ih6 _ _ _ _ _
      | exact deadfallref03_Weight.mono _ _ _
      | exact deadfallref05_Within.mono _ _ _ _ _ _ _ _ _
      | exact LeO.none _
      | refine LeO.ite ?_ ?_
      | refine LeO.bind ?_ (fun _ => ?_)
theorem deadfallref05_Weight.mono : ∀ a0 a1 a2 a3 a4 a5 a6 a7 a8 k, LeO (deadfallref05_Weight.f k a0 a1 a2 a3 a4 a5 a6 a7 a8) (deadfallref05_Weight.f (k + 1) a0 a1 a2 a3 a4 a5 a6 a7 a8) := by
  intro a0 a1 a2 a3 a4 a5 a6 a7 a8 k
  obtain ⟨ih0, ih1, ih2, ih3, ih4, ih5, ih6⟩ := deadfallref05_Weight.mono_l k
  exact ih0 a0 a1 a2 a3 a4 a5 a6 a7 a8
def deadfallref05_Weight.T12 : Bool × List (List Nat × List Nat) := (true, [([], []), ([], []), ([1], [1]), ([2], [2]), ([3], [3]), ([], []), ([5], [5]), ([6], [6]), ([4, 7], [4, 7]), ([0, 8], [0, 8]), ([9, 7, 0, 1, 2, 3, 4, 5, 6, 7, 8, 9], [0, 9])])
def deadfallref05_Weight.B12 : List Nat := [0, 0, 2, 6, 14, 0, 32, 96, 254, 511, 1023]
theorem deadfallref05_Weight.tab12 : rtab .any (opsOf Try.f24 12) = deadfallref05_Weight.T12 := by kernel_rfl
theorem deadfallref05_Weight.bits12 : waitsOk deadfallref05_Weight.T12.2 deadfallref05_Weight.B12 = true := by kernel_rfl
set_option maxHeartbeats 8000000 in
set_option maxRecDepth 100000 in
theorem deadfallref05_Weight.calls (k : Nat) : ∀ (a0_0 : Int) (a0_1 : ByteArray) (a0_2 : Bool) (A0_3 : Option Addr) (c0_3 : Nat) (l0_3 : List (S114)) (A0_4 : Option Addr) (c0_4 : Nat) (l0_4 : List (List (S154))) (A0_5 : Option Addr) (c0_5 : Nat) (l0_5 : List (S52)) (A0_6 : Option Addr) (c0_6 : Nat) (l0_6 : List Bool) (A0_7 : Option Addr) (c0_7 : Nat) (l0_7 : List (S116)) (a1 : Int) (r : Int) (w : World) (hr0_3 : Kd.C k114 w A0_3 l0_3.length l0_3) (hc0_3 : l0_3.length ≤ c0_3) (hr0_4 : Kd.C (Kd.slice 154 k154) w A0_4 l0_4.length l0_4) (hc0_4 : l0_4.length ≤ c0_4) (hr0_5 : Kd.C k52 w A0_5 l0_5.length l0_5) (hc0_5 : l0_5.length ≤ c0_5) (hr0_6 : Kd.C Kd.bool w A0_6 l0_6.length l0_6) (hc0_6 : l0_6.length ≤ c0_6) (hr0_7 : Kd.C k116 w A0_7 l0_7.length l0_7) (hc0_7 : l0_7.length ≤ c0_7) (h : deadfallref05_Weight.f k a0_0 a0_1 a0_2 l0_3 l0_4 l0_5 l0_6 l0_7 a1 = some r),
    Calls Try.prog 24 #[.agg #[.int .i64 a0_0, .string a0_1, .bool a0_2, .slice A0_3 l0_3.length c0_3, .slice A0_4 l0_4.length c0_4, .slice A0_5 l0_5.length c0_5, .slice A0_6 l0_6.length c0_6, .slice A0_7 l0_7.length c0_7], .int .i64 a1] w fun e w' => e = .returned (.int .i64 r) ∧ Below w.heap.size w w' := by
  induction k using Nat.strongRecOn with
  | _ k ih =>
  intro a0_0 a0_1 a0_2 A0_3 c0_3 l0_3 A0_4 c0_4 l0_4 A0_5 c0_5 l0_5 A0_6 c0_6 l0_6 A0_7 c0_7 l0_7 a1 r w hr0_3 hc0_3 hr0_4 hc0_4 hr0_5 hc0_5 hr0_6 hc0_6 hr0_7 hc0_7 h
  cases k with
  | zero => exact absurd h (by simp [deadfallref05_Weight.f])
  | succ k =>
  simp only [deadfallref05_Weight.f] at h
  have hu52 := Try.underlying52
  have hu114 := Try.underlying114
  have hu116 := Try.underlying116
  have HR0_3 := Aside0.mk hr0_3
  have HC0_3 := Aside0.mk hc0_3
  clear hr0_3 hc0_3
  have HR0_4 := Aside0.mk hr0_4
  have HC0_4 := Aside0.mk hc0_4
  clear hr0_4 hc0_4
  have HR0_5 := Aside0.mk hr0_5
  have HC0_5 := Aside0.mk hc0_5
  clear hr0_5 hc0_5
  have HR0_6 := Aside0.mk hr0_6
  have HC0_6 := Aside0.mk hc0_6
  clear hr0_6 hc0_6
  have HR0_7 := Aside0.mk hr0_7
  have HC0_7 := Aside0.mk hc0_7
  clear hr0_7 hc0_7
  have HB := Aside0.mk (Below.refl w.heap.size w)
  have H : (if a1 > 900 then (deadfallref05_Weight.j0 k a1 true a0_0 a0_1 a0_2 l0_3 l0_4 l0_5 l0_6 l0_7) else (deadfallref05_Weight.j0 k a1 (decide ((wrap64 ((wrap64 ((wrap64 ((wrap64 ((l0_5.length : Int) + (l0_7.length : Int))) + (l0_4.length : Int))) + (l0_3.length : Int))) + (l0_6.length : Int))) > 5000)) a0_0 a0_1 a0_2 l0_3 l0_4 l0_5 l0_6 l0_7)) = some r := h
  clear h
  have HC3 := Aside0.mk H
  clear H
  go_enter Try.func24, Try.ntmps24
  go_upto_region 1 with (first | ((with_reducible refine gate_dst (N := 2) rfl ?_); (try (refine gate_guard (by rfl) ?_; dsimp only)); refine box_event ?hg (N := 2) ?hd (cs := #[.int .i64 a0_0, .string a0_1, .bool a0_2, .slice A0_3 l0_3.length c0_3, .slice A0_4 l0_4.length c0_4, .slice A0_5 l0_5.length c0_5, .slice A0_6 l0_6.length c0_6, .slice A0_7 l0_7.length c0_7]) (t := 52) ?hr ?_; (case hd => rfl); (case hg => rfl); (case hr => first | (go_simp; done) | (go_simp; rfl)); intro gb128 hg w4 hbox hb; have n0_ := Aside0.mk (below_step (by repeat (first | (with_reducible first | exact HB.out | apply below_alloc | apply pw_below_drewN | apply below_drew1) | exact HB.out)) hb); have n1_ := Aside0.mk (hbox); have n2_ := Aside0.mk ((by rw [hg]; exact (below_size (by repeat (first | (with_reducible first | exact HB.out | apply below_alloc | apply pw_below_drewN | apply below_drew1) | exact HB.out))) : w.heap.size ≤ gb128)); have n3_ := Aside0.mk ((by rw [hg]; exact (below_size (by repeat (first | (with_reducible first | exact HB.out | apply below_alloc | apply pw_below_drewN | apply below_drew1) | exact HB.out))) : w.heap.size ≤ gb128)); clear HB; have HB := n0_; have BK128 := n1_; have GW128 := n2_; have GE128 := n3_; clear n0_ n1_ n2_ n3_; clear hb hbox hg))
  (try simp only [Act.put, List.setIfInBounds_toArray, List.set_cons_zero, List.set_cons_succ])
  go_cut [39] (fun v39 wc => ∃ (kq : Nat) (x39_2 : Bool), v39 = .bool x39_2 ∧ Aside0 (deadfallref05_Weight.j0 kq a1 x39_2 a0_0 a0_1 a0_2 l0_3 l0_4 l0_5 l0_6 l0_7 = some r) ∧ Aside0 (kq ≤ k) ∧ Aside0 (wc.heap[gb128]? = some (.cells #[.int .i64 a0_0, .string a0_1, .bool a0_2, (.slice A0_3 l0_3.length c0_3), (.slice A0_4 l0_4.length c0_4), (.slice A0_5 l0_5.length c0_5), (.slice A0_6 l0_6.length c0_6), (.slice A0_7 l0_7.length c0_7)] 52 (0, 0))) ∧ Aside0 (Below w.heap.size w wc))
  case first =>
    have H := HC3.out
    clear HC3
    by_cases c5 : a1 > 900
    · rw [if_pos c5] at H
      have c5b0 : decide (900 < a1) = true := decide_eq_true c5
      clear c5
      (first | rw [c5b0] | (simp only [i64_w, i32_w]; rw [c5b0]) | skip)
      have H' := Aside0.mk H
      clear H
      go_wp2
      go_meet
      case rel => exact ⟨_, (true), (by first | rfl | (simp; done) | (simp [*]; done)), H', ⟨by first | omega | exact Nat.le_refl _⟩, ⟨by (with_reducible repeat (first | refine blk_drewN ?_ _ | refine blk_drew ?_ | refine blk_alloc ?_ _)); exact BK128.out⟩, ⟨by repeat (first | (with_reducible first | exact HB.out | apply below_alloc | apply pw_below_drewN | apply below_drew1 | refine below_set ?_ GE128.out) | exact HB.out)⟩⟩
    · rw [if_neg c5] at H
      have c5b0 : decide (900 < a1) = false := decide_eq_false c5
      clear c5
      (first | rw [c5b0] | (simp only [i64_w, i32_w]; rw [c5b0]) | skip)
      have H' := Aside0.mk H
      clear H
      have hcz6_0 : w4.cell? ⟨gb128, 0, none⟩ = some (.int .i64 a0_0) := (blk_cell BK128.out 0).trans rfl
      have hcz6_1 : w4.cell? ⟨gb128, 1, none⟩ = some (.string a0_1) := (blk_cell BK128.out 1).trans rfl
      have hcz6_2 : w4.cell? ⟨gb128, 2, none⟩ = some (.bool a0_2) := (blk_cell BK128.out 2).trans rfl
      have hcz6_3 : w4.cell? ⟨gb128, 3, none⟩ = some (.slice A0_3 l0_3.length c0_3) := (blk_cell BK128.out 3).trans rfl
      have hcz6_4 : w4.cell? ⟨gb128, 4, none⟩ = some (.slice A0_4 l0_4.length c0_4) := (blk_cell BK128.out 4).trans rfl
      have hcz6_5 : w4.cell? ⟨gb128, 5, none⟩ = some (.slice A0_5 l0_5.length c0_5) := (blk_cell BK128.out 5).trans rfl
      have hcz6_6 : w4.cell? ⟨gb128, 6, none⟩ = some (.slice A0_6 l0_6.length c0_6) := (blk_cell BK128.out 6).trans rfl
      have hcz6_7 : w4.cell? ⟨gb128, 7, none⟩ = some (.slice A0_7 l0_7.length c0_7) := (blk_cell BK128.out 7).trans rfl
      have hfz6_0 := blk_frozen BK128.out 0
      have hfz6_1 := blk_frozen BK128.out 1
      have hfz6_2 := blk_frozen BK128.out 2
      have hfz6_3 := blk_frozen BK128.out 3
      have hfz6_4 := blk_frozen BK128.out 4
      have hfz6_5 := blk_frozen BK128.out 5
      have hfz6_6 := blk_frozen BK128.out 6
      have hfz6_7 := blk_frozen BK128.out 7
      go_wp2
      go_meet
      case rel => exact ⟨_, (decide ((wrap64 ((wrap64 ((wrap64 ((wrap64 ((l0_5.length : Int) + (l0_7.length : Int))) + (l0_4.length : Int))) + (l0_3.length : Int))) + (l0_6.length : Int))) > 5000)), (by first | rfl | (simp; done) | (simp [*]; done)), H', ⟨by first | omega | exact Nat.le_refl _⟩, ⟨by (with_reducible repeat (first | refine blk_drewN ?_ _ | refine blk_drew ?_ | refine blk_alloc ?_ _)); exact BK128.out⟩, ⟨by repeat (first | (with_reducible first | exact HB.out | apply below_alloc | apply pw_below_drewN | apply below_drew1 | refine below_set ?_ GE128.out) | exact HB.out)⟩⟩
  case rest =>
    clear HC3
    try clear c2
    try clear p2
    try clear c5
    try clear c5b0
    try clear p6
    try clear hcz6_0
    try clear hcz6_1
    try clear hcz6_2
    try clear hcz6_3
    try clear hcz6_4
    try clear hcz6_5
    try clear hcz6_6
    try clear hcz6_7
    try clear hfz6_0
    try clear hfz6_1
    try clear hfz6_2
    try clear hfz6_3
    try clear hfz6_4
    try clear hfz6_5
    try clear hfz6_6
    try clear hfz6_7
    obtain ⟨kq, x39_2, rfl, HA, HJ2, BK128, HB⟩ := hcut
    cases kq with
    | zero => exact absurd HA.out (by simp [deadfallref05_Weight.j0])
    | succ kj2 =>
      have H := HA.out
      clear HA
      simp only [deadfallref05_Weight.j0] at H
      by_cases c7 : x39_2 = true
      · subst c7
        have H1 : (some 100000) = some r := by rw [if_pos rfl] at H; exact H
        clear H
        have H := H1
        clear H1
        obtain rfl := Option.some.inj H
        go_wp2
        go_ret
        exact ⟨by first | rfl | (simp [errW_none, errW_some] <;> rfl) | (simp [*, errW_none, errW_some] <;> rfl), by repeat (first | (with_reducible first | exact HB.out | apply below_alloc | apply pw_below_drewN | apply below_drew1 | refine below_set ?_ GE128.out) | exact HB.out)⟩
      · replace c7 := Bool.eq_false_iff.mpr c7
        subst c7
        have H1 : (deadfallref05_Weight.l0 kj2 a1 (wrap64 ((wrap64 (1 + (a0_1.size : Int))) + (l0_6.length : Int))) l0_4 (l0_4.length : Int) 0 a0_0 a0_1 a0_2 l0_3 l0_4 l0_5 l0_6 l0_7) = some r := by rw [if_neg (show ¬ (false = true) by decide)] at H; exact H
        clear H
        have H := H1
        clear H1
        have H' := Aside0.mk H
        clear H
        have hcz8_0 : wc.cell? ⟨gb128, 0, none⟩ = some (.int .i64 a0_0) := (blk_cell BK128.out 0).trans rfl
        have hcz8_1 : wc.cell? ⟨gb128, 1, none⟩ = some (.string a0_1) := (blk_cell BK128.out 1).trans rfl
        have hcz8_2 : wc.cell? ⟨gb128, 2, none⟩ = some (.bool a0_2) := (blk_cell BK128.out 2).trans rfl
        have hcz8_3 : wc.cell? ⟨gb128, 3, none⟩ = some (.slice A0_3 l0_3.length c0_3) := (blk_cell BK128.out 3).trans rfl
        have hcz8_4 : wc.cell? ⟨gb128, 4, none⟩ = some (.slice A0_4 l0_4.length c0_4) := (blk_cell BK128.out 4).trans rfl
        have hcz8_5 : wc.cell? ⟨gb128, 5, none⟩ = some (.slice A0_5 l0_5.length c0_5) := (blk_cell BK128.out 5).trans rfl
        have hcz8_6 : wc.cell? ⟨gb128, 6, none⟩ = some (.slice A0_6 l0_6.length c0_6) := (blk_cell BK128.out 6).trans rfl
        have hcz8_7 : wc.cell? ⟨gb128, 7, none⟩ = some (.slice A0_7 l0_7.length c0_7) := (blk_cell BK128.out 7).trans rfl
        have hfz8_0 := blk_frozen BK128.out 0
        have hfz8_1 := blk_frozen BK128.out 1
        have hfz8_2 := blk_frozen BK128.out 2
        have hfz8_3 := blk_frozen BK128.out 3
        have hfz8_4 := blk_frozen BK128.out 4
        have hfz8_5 := blk_frozen BK128.out 5
        have hfz8_6 := blk_frozen BK128.out 6
        have hfz8_7 := blk_frozen BK128.out 7
        go_wp2
        go_loopg [5, 51] kj2 (fun kq v5 v51 w' => ∃ (x5_2 : Int) (x51_2 : Int), v5 = .int .i64 x5_2 ∧ v51 = .int .i64 x51_2 ∧ Aside0 (deadfallref05_Weight.l0 kq a1 x5_2 l0_4 (l0_4.length : Int) x51_2 a0_0 a0_1 a0_2 l0_3 l0_4 l0_5 l0_6 l0_7 = some r) ∧ Aside0 (kq ≤ kj2) ∧ Aside0 (w'.heap[gb128]? = some (.cells #[.int .i64 a0_0, .string a0_1, .bool a0_2, (.slice A0_3 l0_3.length c0_3), (.slice A0_4 l0_4.length c0_4), (.slice A0_5 l0_5.length c0_5), (.slice A0_6 l0_6.length c0_6), (.slice A0_7 l0_7.length c0_7)] 52 (0, 0))) ∧ Aside0 (Below w.heap.size w w'))
        case atStart => exact ⟨(wrap64 ((wrap64 (1 + (a0_1.size : Int))) + (l0_6.length : Int))), (0), (by first | rfl | (simp; done) | (simp [*]; done)), (by first | rfl | (simp; done) | (simp [*]; done)), H', ⟨Nat.le_refl _⟩, ⟨by (with_reducible repeat (first | refine blk_drewN ?_ _ | refine blk_drew ?_ | refine blk_alloc ?_ _)); exact BK128.out⟩, ⟨by repeat (first | (with_reducible first | exact HB.out | apply below_alloc | apply pw_below_drewN | apply below_drew1 | refine below_set ?_ GE128.out) | exact HB.out)⟩⟩
        case round =>
          clear H'
          try clear c2
          try clear p2
          try clear c5
          try clear c5b0
          try clear p6
          try clear c7
          try clear hcz6_0
          try clear hcz6_1
          try clear hcz6_2
          try clear hcz6_3
          try clear hcz6_4
          try clear hcz6_5
          try clear hcz6_6
          try clear hcz6_7
          try clear hcz8_0
          try clear hcz8_1
          try clear hcz8_2
          try clear hcz8_3
          try clear hcz8_4
          try clear hcz8_5
          try clear hcz8_6
          try clear hcz8_7
          try clear hfz6_0
          try clear hfz6_1
          try clear hfz6_2
          try clear hfz6_3
          try clear hfz6_4
          try clear hfz6_5
          try clear hfz6_6
          try clear hfz6_7
          try clear hfz8_0
          try clear hfz8_1
          try clear hfz8_2
          try clear hfz8_3
          try clear hfz8_4
          try clear hfz8_5
          try clear hfz8_6
          try clear hfz8_7
          try clear p2
          try clear p6
          obtain ⟨x5_2, x51_2, rfl, rfl, HA, HK2, BK128, HB⟩ := hrel
          cases gk with
          | zero => exact absurd HA.out (by simp [deadfallref05_Weight.l0])
          | succ k2 =>
            have H := HA.out
            clear HA
            simp only [deadfallref05_Weight.l0] at H
            by_cases c9 : x51_2 < (l0_4.length : Int)
            · rw [if_pos c9] at H
              have c9b0 : decide (x51_2 < (l0_4.length : Int)) = true := decide_eq_true c9
              clear c9
              by_cases c10 : 0 ≤ x51_2
              · rw [if_pos c10] at H
                have c10b0 : decide (0 ≤ x51_2) = true := decide_eq_true c10
                clear c10
                by_cases c11 : x51_2 < (l0_4.length : Int)
                · rw [if_pos c11] at H
                  have c11b0 : decide (x51_2 < (l0_4.length : Int)) = true := decide_eq_true c11
                  clear c11
                  replace H := Option.bind_eq_some_iff.mp H
                  obtain ⟨t130, A120, H⟩ := H
                  replace H : (deadfallref05_Weight.l0 k2 a1 (wrap64 (x5_2 + (wrap64 (1 + t130)))) l0_4 (l0_4.length : Int) (wrap64 (x51_2 + 1)) a0_0 a0_1 a0_2 l0_3 l0_4 l0_5 l0_6 l0_7) = some r := H
                  have A12 := Aside0.mk A120
                  clear A120
                  have H' := Aside0.mk H
                  clear H
                  have p129 : 0 ≤ (x51_2 : Int) := of_decide_eq_true (by first | (with_reducible assumption) | assumption)
                  have q129 : x51_2 < (l0_4.length : Int) := of_decide_eq_true (by first | (with_reducible assumption) | assumption)
                  obtain ⟨ad129, A129_0, c129_0, e129, hx129_0, hl129_0, hi129_0⟩ := at_L4 HR0_4.out x51_2 p129 q129
                  cases e129
                  replace hx129_0 := (HB.out.cell (World.block_lt_of_cell? w _ hx129_0)).trans hx129_0
                  have HR129_0 := Aside0.mk hi129_0
                  have HC129_0 := Aside0.mk hl129_0
                  clear hi129_0 hl129_0
                  replace p129 := eq_true p129
                  replace q129 := eq_true q129
                  go_wp2_with (first | ((with_reducible refine gate_callee (f := 78) rfl ?_); refine goesL_ (some 57) rfl rfl Try.func78 (by kernel_rfl) rfl #[.slice A129_0 (rd_L4 l0_4 x51_2).length c129_0, .int .i64 0] rfl (by (try simp only [List.map_toArray, List.map_cons, List.map_nil]); first | done | rfl | (simp only [List.length_drop, List.length_take]; rfl)) ?_; (with_reducible refine (deadfallref03_Weight.calls k2 _ _ (rd_L4 l0_4 x51_2) 0 t130 _ ?side1 ?side2 A12.out).mono ?_); (case side1 => repeat (first | exact (Kd.C_below HR129_0.out HB.out) | (with_reducible refine Kd.C_alloc ?_ _) | (with_reducible refine Kd.C_drewN ?_ _) | (with_reducible refine Kd.C_drew ?_))); (case side2 => exact HC129_0.out); rintro e w13 ⟨rfl, hb⟩; refine ⟨_, rfl, ?_⟩; have n0_ := Aside0.mk (blk_below (g := gb128) (o := .cells #[.int .i64 a0_0, .string a0_1, .bool a0_2, .slice A0_3 l0_3.length c0_3, .slice (some ad129) l0_4.length c0_4, .slice A0_5 l0_5.length c0_5, .slice A0_6 l0_6.length c0_6, .slice A0_7 l0_7.length c0_7] 52 (0, 0)) (by (with_reducible repeat (first | refine blk_drewN ?_ _ | refine blk_drew ?_ | refine blk_alloc ?_ _)); exact BK128.out) hb); have n1_ := Aside0.mk (below_step (by repeat (first | (with_reducible first | exact HB.out | apply below_alloc | apply pw_below_drewN | apply below_drew1 | refine below_set ?_ GE128.out) | exact HB.out)) hb); clear BK128; clear HB; have BK128 := n0_; have HB := n1_; clear n0_ n1_; (try clear hb); (try clear hb2); (try clear hk); (try clear hi)))
                  go_roundg k2
                  case measure => have := HJ2.out; have := HK2.out; omega
                  case rel => exact ⟨(wrap64 (x5_2 + (wrap64 (1 + t130)))), (wrap64 (x51_2 + 1)), (by first | rfl | (simp; done) | (simp [*]; done)), (by first | rfl | (simp; done) | (simp [*]; done)), H', ⟨by have := HJ2.out; have := HK2.out; omega⟩, ⟨by (with_reducible repeat (first | refine blk_drewN ?_ _ | refine blk_drew ?_ | refine blk_alloc ?_ _)); exact BK128.out⟩, ⟨by repeat (first | (with_reducible first | exact HB.out | apply below_alloc | apply pw_below_drewN | apply below_drew1 | refine below_set ?_ GE128.out) | exact HB.out)⟩⟩
                · rw [if_neg c11] at H
                  exact absurd H (by simp)
              · rw [if_neg c10] at H
                exact absurd H (by simp)
            · rw [if_neg c9] at H
              have c9b0 : decide (x51_2 < (l0_4.length : Int)) = false := decide_eq_false c9
              clear c9
              have H' := Aside0.mk H
              clear H
              have hcz14_0 : wr.cell? ⟨gb128, 0, none⟩ = some (.int .i64 a0_0) := (blk_cell BK128.out 0).trans rfl
              have hcz14_1 : wr.cell? ⟨gb128, 1, none⟩ = some (.string a0_1) := (blk_cell BK128.out 1).trans rfl
              have hcz14_2 : wr.cell? ⟨gb128, 2, none⟩ = some (.bool a0_2) := (blk_cell BK128.out 2).trans rfl
              have hcz14_3 : wr.cell? ⟨gb128, 3, none⟩ = some (.slice A0_3 l0_3.length c0_3) := (blk_cell BK128.out 3).trans rfl
              have hcz14_4 : wr.cell? ⟨gb128, 4, none⟩ = some (.slice A0_4 l0_4.length c0_4) := (blk_cell BK128.out 4).trans rfl
              have hcz14_5 : wr.cell? ⟨gb128, 5, none⟩ = some (.slice A0_5 l0_5.length c0_5) := (blk_cell BK128.out 5).trans rfl
              have hcz14_6 : wr.cell? ⟨gb128, 6, none⟩ = some (.slice A0_6 l0_6.length c0_6) := (blk_cell BK128.out 6).trans rfl
              have hcz14_7 : wr.cell? ⟨gb128, 7, none⟩ = some (.slice A0_7 l0_7.length c0_7) := (blk_cell BK128.out 7).trans rfl
              have hfz14_0 := blk_frozen BK128.out 0
              have hfz14_1 := blk_frozen BK128.out 1
              have hfz14_2 := blk_frozen BK128.out 2
              have hfz14_3 := blk_frozen BK128.out 3
              have hfz14_4 := blk_frozen BK128.out 4
              have hfz14_5 := blk_frozen BK128.out 5
              have hfz14_6 := blk_frozen BK128.out 6
              have hfz14_7 := blk_frozen BK128.out 7
              go_wp2
              go_loopg [5, 64] k2 (fun kq v5 v64 w' => ∃ (x5_3 : Int) (x64_3 : Int), v5 = .int .i64 x5_3 ∧ v64 = .int .i64 x64_3 ∧ Aside0 (deadfallref05_Weight.l1 kq a1 x5_3 l0_3 (l0_3.length : Int) x64_3 a0_0 a0_1 a0_2 l0_3 l0_4 l0_5 l0_6 l0_7 = some r) ∧ Aside0 (kq ≤ k2) ∧ Aside0 (w'.heap[gb128]? = some (.cells #[.int .i64 a0_0, .string a0_1, .bool a0_2, (.slice A0_3 l0_3.length c0_3), (.slice A0_4 l0_4.length c0_4), (.slice A0_5 l0_5.length c0_5), (.slice A0_6 l0_6.length c0_6), (.slice A0_7 l0_7.length c0_7)] 52 (0, 0))) ∧ Aside0 (Below w.heap.size w w'))
              case atStart => exact ⟨(x5_2), (0), (by first | rfl | (simp; done) | (simp [*]; done)), (by first | rfl | (simp; done) | (simp [*]; done)), H', ⟨Nat.le_refl _⟩, ⟨by (with_reducible repeat (first | refine blk_drewN ?_ _ | refine blk_drew ?_ | refine blk_alloc ?_ _)); exact BK128.out⟩, ⟨by repeat (first | (with_reducible first | exact HB.out | apply below_alloc | apply pw_below_drewN | apply below_drew1 | refine below_set ?_ GE128.out) | exact HB.out)⟩⟩
              case round =>
                clear H'
                try clear c1
                try clear p1
                try clear q1
                try clear hx1
                try clear c2
                try clear p2
                try clear c5
                try clear c5b0
                try clear p6
                try clear c7
                try clear c9
                try clear c9b0
                try clear c10
                try clear c10b0
                try clear c11
                try clear c11b0
                try clear c12
                try clear p12
                try clear q12
                try clear hx12
                try clear hcz14_0
                try clear hcz14_1
                try clear hcz14_2
                try clear hcz14_3
                try clear hcz14_4
                try clear hcz14_5
                try clear hcz14_6
                try clear hcz14_7
                try clear hcz6_0
                try clear hcz6_1
                try clear hcz6_2
                try clear hcz6_3
                try clear hcz6_4
                try clear hcz6_5
                try clear hcz6_6
                try clear hcz6_7
                try clear hcz8_0
                try clear hcz8_1
                try clear hcz8_2
                try clear hcz8_3
                try clear hcz8_4
                try clear hcz8_5
                try clear hcz8_6
                try clear hcz8_7
                try clear hfz14_0
                try clear hfz14_1
                try clear hfz14_2
                try clear hfz14_3
                try clear hfz14_4
                try clear hfz14_5
                try clear hfz14_6
                try clear hfz14_7
                try clear hfz6_0
                try clear hfz6_1
                try clear hfz6_2
                try clear hfz6_3
                try clear hfz6_4
                try clear hfz6_5
                try clear hfz6_6
                try clear hfz6_7
                try clear hfz8_0
                try clear hfz8_1
                try clear hfz8_2
                try clear hfz8_3
                try clear hfz8_4
                try clear hfz8_5
                try clear hfz8_6
                try clear hfz8_7
                try clear hx129_0
                try clear p129
                try clear p2
                try clear p6
                try clear q129
                obtain ⟨x5_3, x64_3, rfl, rfl, HA, HK3, BK128, HB⟩ := hrel
                cases gk with
                | zero => exact absurd HA.out (by simp [deadfallref05_Weight.l1])
                | succ k3 =>
                  have H := HA.out
                  clear HA
                  simp only [deadfallref05_Weight.l1] at H
                  by_cases c15 : x64_3 < (l0_3.length : Int)
                  · rw [if_pos c15] at H
                    have c15b0 : decide (x64_3 < (l0_3.length : Int)) = true := decide_eq_true c15
                    clear c15
                    by_cases c16 : 0 ≤ x64_3
                    · rw [if_pos c16] at H
                      have c16b0 : decide (0 ≤ x64_3) = true := decide_eq_true c16
                      clear c16
                      by_cases c17 : x64_3 < (l0_3.length : Int)
                      · rw [if_pos c17] at H
                        have c17b0 : decide (x64_3 < (l0_3.length : Int)) = true := decide_eq_true c17
                        clear c17
                        replace H := Option.bind_eq_some_iff.mp H
                        obtain ⟨t133, A180, H⟩ := H
                        replace H : (deadfallref05_Weight.l1 k3 a1 (wrap64 (x5_3 + (wrap64 ((wrap64 (1 + (((rd_T114 l0_3 x64_3).f0).size : Int))) + t133)))) l0_3 (l0_3.length : Int) (wrap64 (x64_3 + 1)) a0_0 a0_1 a0_2 l0_3 l0_4 l0_5 l0_6 l0_7) = some r := H
                        have A18 := Aside0.mk A180
                        clear A180
                        have H' := Aside0.mk H
                        clear H
                        have p131 : 0 ≤ (x64_3 : Int) := of_decide_eq_true (by first | (with_reducible assumption) | assumption)
                        have q131 : x64_3 < (l0_3.length : Int) := of_decide_eq_true (by first | (with_reducible assumption) | assumption)
                        obtain ⟨ad131, A131_1, c131_1, e131, hx131_0, hx131_1, hl131_1, hi131_1⟩ := at_T114 HR0_3.out x64_3 p131 q131
                        cases e131
                        replace hx131_0 := (HB.out.cell (World.block_lt_of_cell? w _ hx131_0)).trans hx131_0
                        replace hx131_1 := (HB.out.cell (World.block_lt_of_cell? w _ hx131_1)).trans hx131_1
                        have HR131_1 := Aside0.mk hi131_1
                        have HC131_1 := Aside0.mk hl131_1
                        clear hi131_1 hl131_1
                        replace p131 := eq_true p131
                        replace q131 := eq_true q131
                        try go_wp2_with (first | ((with_reducible refine gate_dst (N := 9) rfl ?_); (try (refine gate_guard (by rfl) ?_; dsimp only)); refine box_event ?hg (N := 9) ?hd (cs := #[.string (⟨#[]⟩ : ByteArray), .slice none 0 0]) (t := 114) ?hr ?_; (case hd => rfl); (case hg => rfl); (case hr => first | (go_simp; done) | (go_simp; rfl)); intro gb132 hg w19 hbox hb; have n0_ := Aside0.mk (blk_below (g := gb128) (o := .cells #[.int .i64 a0_0, .string a0_1, .bool a0_2, .slice (some ad131) l0_3.length c0_3, .slice A0_4 l0_4.length c0_4, .slice A0_5 l0_5.length c0_5, .slice A0_6 l0_6.length c0_6, .slice A0_7 l0_7.length c0_7] 52 (0, 0)) (by (with_reducible repeat (first | refine blk_drewN ?_ _ | refine blk_drew ?_ | refine blk_alloc ?_ _)); exact BK128.out) hb); have n1_ := Aside0.mk (below_step (by repeat (first | (with_reducible first | exact HB.out | apply below_alloc | apply pw_below_drewN | apply below_drew1 | refine below_set ?_ GE128.out) | exact HB.out)) hb); have n2_ := Aside0.mk (hbox); have n3_ := Aside0.mk ((by rw [hg]; exact (below_size (by repeat (first | (with_reducible first | exact HB.out | apply below_alloc | apply pw_below_drewN | apply below_drew1 | refine below_set ?_ GE128.out) | exact HB.out))) : w.heap.size ≤ gb132)); have n4_ := Aside0.mk ((by rw [hg]; exact (below_size (by repeat (first | (with_reducible first | exact HB.out | apply below_alloc | apply pw_below_drewN | apply below_drew1 | refine below_set ?_ GE128.out) | exact HB.out))) : w.heap.size ≤ gb132)); have n5_ := Aside0.mk ((by rw [hg]; exact Nat.ne_of_lt (blk_lt (g := gb128) (o := .cells #[.int .i64 a0_0, .string a0_1, .bool a0_2, .slice (some ad131) l0_3.length c0_3, .slice A0_4 l0_4.length c0_4, .slice A0_5 l0_5.length c0_5, .slice A0_6 l0_6.length c0_6, .slice A0_7 l0_7.length c0_7] 52 (0, 0)) (by (with_reducible repeat (first | refine blk_drewN ?_ _ | refine blk_drew ?_ | refine blk_alloc ?_ _)); exact BK128.out)) : gb128 ≠ gb132)); have n6_ := Aside0.mk ((by rw [hg]; exact Nat.ne_of_gt (blk_lt (g := gb128) (o := .cells #[.int .i64 a0_0, .string a0_1, .bool a0_2, .slice (some ad131) l0_3.length c0_3, .slice A0_4 l0_4.length c0_4, .slice A0_5 l0_5.length c0_5, .slice A0_6 l0_6.length c0_6, .slice A0_7 l0_7.length c0_7] 52 (0, 0)) (by (with_reducible repeat (first | refine blk_drewN ?_ _ | refine blk_drew ?_ | refine blk_alloc ?_ _)); exact BK128.out)) : gb132 ≠ gb128)); clear BK128; clear HB; have BK128 := n0_; have HB := n1_; have BK132 := n2_; have GW132 := n3_; have GE132 := n4_; have NB128_132 := n5_; have NB132_128 := n6_; clear n0_ n1_ n2_ n3_ n4_ n5_ n6_; clear hb hbox hg; have hnb20 := NB132_128.out; have hnc20 := NB128_132.out; have hcz21_0 : w19.cell? ⟨gb132, 0, none⟩ = some (.string (⟨#[]⟩ : ByteArray)) := (blk_cell BK132.out 0).trans rfl; have hcz21_1 : w19.cell? ⟨gb132, 1, none⟩ = some (.slice none 0 0) := (blk_cell BK132.out 1).trans rfl; have hfz21_0 := blk_frozen BK132.out 0; have hfz21_1 := blk_frozen BK132.out 1))
                        have n0_ : Aside0 (((w19.setCell ⟨gb132, 0, none⟩ (.string ((rd_T114 l0_3 x64_3).f0))).setCell ⟨gb132, 1, none⟩ (.slice A131_1 ((rd_T114 l0_3 x64_3).f1).length c131_1)).heap[gb128]? = some (.cells #[.int .i64 a0_0, .string a0_1, .bool a0_2, .slice (some ad131) l0_3.length c0_3, .slice A0_4 l0_4.length c0_4, .slice A0_5 l0_5.length c0_5, .slice A0_6 l0_6.length c0_6, .slice A0_7 l0_7.length c0_7] 52 (0, 0))) := ⟨by (with_reducible repeat (first | refine blk_drewN ?_ _ | refine blk_drew ?_ | refine blk_alloc ?_ _)); refine blk_far ?_ NB128_132.out _; (with_reducible repeat (first | refine blk_drewN ?_ _ | refine blk_drew ?_ | refine blk_alloc ?_ _)); refine blk_far ?_ NB128_132.out _; (with_reducible repeat (first | refine blk_drewN ?_ _ | refine blk_drew ?_ | refine blk_alloc ?_ _)); exact BK128.out⟩
                        have n1_ : Aside0 (((w19.setCell ⟨gb132, 0, none⟩ (.string ((rd_T114 l0_3 x64_3).f0))).setCell ⟨gb132, 1, none⟩ (.slice A131_1 ((rd_T114 l0_3 x64_3).f1).length c131_1)).heap[gb132]? = some (.cells #[.string ((rd_T114 l0_3 x64_3).f0), .slice A131_1 ((rd_T114 l0_3 x64_3).f1).length c131_1] 114 (0, 0))) := ⟨by (with_reducible repeat (first | refine blk_drewN ?_ _ | refine blk_drew ?_ | refine blk_alloc ?_ _)); refine blk_put (cs := #[.string ((rd_T114 l0_3 x64_3).f0), .slice none 0 0]) ?_ 1 _ rfl; (with_reducible repeat (first | refine blk_drewN ?_ _ | refine blk_drew ?_ | refine blk_alloc ?_ _)); refine blk_put (cs := #[.string (⟨#[]⟩ : ByteArray), .slice none 0 0]) ?_ 0 _ rfl; (with_reducible repeat (first | refine blk_drewN ?_ _ | refine blk_drew ?_ | refine blk_alloc ?_ _)); exact BK132.out⟩
                        have n2_ : Aside0 (Below w.heap.size w ((w19.setCell ⟨gb132, 0, none⟩ (.string ((rd_T114 l0_3 x64_3).f0))).setCell ⟨gb132, 1, none⟩ (.slice A131_1 ((rd_T114 l0_3 x64_3).f1).length c131_1))) := ⟨by repeat (first | (with_reducible first | exact HB.out | apply below_alloc | apply pw_below_drewN | apply below_drew1 | refine below_set ?_ GE128.out | refine below_set ?_ GE132.out) | exact HB.out)⟩
                        (try clear BK128)
                        (try clear BK132)
                        (try clear HB)
                        generalize ((w19.setCell ⟨gb132, 0, none⟩ (.string ((rd_T114 l0_3 x64_3).f0))).setCell ⟨gb132, 1, none⟩ (.slice A131_1 ((rd_T114 l0_3 x64_3).f1).length c131_1)) = w22 at n0_ n1_ n2_ ⊢
                        have BK128 := n0_
                        have BK132 := n1_
                        have HB := n2_
                        clear n0_ n1_ n2_
                        have n0_ := Aside0.mk (blk_drew BK128.out)
                        have n1_ := Aside0.mk (blk_drew BK132.out)
                        have n2_ := Aside0.mk (below_drew1 HB.out)
                        clear BK128
                        clear BK132
                        clear HB
                        have BK128 := n0_
                        have BK132 := n1_
                        have HB := n2_
                        clear n0_ n1_ n2_
                        refine start_ (n := 11) (S := fun w' => w'.cell? ⟨gb132, 0, none⟩ = some (.string ((rd_T114 l0_3 x64_3).f0)) ∧ w'.cell? ⟨gb132, 1, none⟩ = some (.slice A131_1 ((rd_T114 l0_3 x64_3).f1).length c131_1)) (ds := []) #[false, false, false, false, false, false, false, false, false, false, false] (by kernel_rfl) rfl rfl ⟨(blk_cell BK132.out 0).trans rfl, (blk_cell BK132.out 1).trans rfl⟩ (fun hHeld => ?_); refine with_tabW deadfallref05_Weight.tab12 deadfallref05_Weight.bits12 (fun HT_ HW_ => ?_)
                        generalize w22.drew = w23 at BK128 BK132 HB hHeld ⊢
                        refine pure_ (i := 0) (N := some 68) (v := ?_) (a' := ?_) #[true, false, false, false, false, false, false, false, false, false, false] rfl rfl (any_of HT_.out (by kernel_rfl)) (fun _ _ _ h => h) (Or.inl ⟨by rfl, ?_⟩) ?_ ?_
                        rotate_left
                        · intro w'
                          go_simp
                          with_reducible rfl
                        rotate_left
                        · simp only [Act.put, List.setIfInBounds_toArray, List.set_cons_zero, List.set_cons_succ, i64_w, i32_w]
                          rfl
                        refine pure_ (i := 1) (N := some 69) (v := ?_) (a' := ?_) #[true, true, false, false, false, false, false, false, false, false, false] rfl rfl (any_of HT_.out (by kernel_rfl)) (fun _ _ _ h => h) (Or.inl ⟨by rfl, ?_⟩) ?_ ?_
                        rotate_left
                        · intro w'
                          go_simp
                          with_reducible rfl
                        rotate_left
                        · simp only [Act.put, List.setIfInBounds_toArray, List.set_cons_zero, List.set_cons_succ, i64_w, i32_w]
                          rfl
                        refine pure_ (i := 5) (N := some 73) (v := ?_) (a' := ?_) #[true, true, false, false, false, true, false, false, false, false, false] rfl rfl (any_of HT_.out (by kernel_rfl)) (fun _ _ _ h => h) (Or.inl ⟨by rfl, ?_⟩) ?_ ?_
                        rotate_left
                        · intro w'
                          go_simp
                          with_reducible rfl
                        rotate_left
                        · simp only [Act.put, List.setIfInBounds_toArray, List.set_cons_zero, List.set_cons_succ, i64_w, i32_w]
                          rfl
                        refine take_ (i := 2) (N := some 70) (v := ?_) (a' := ?_) #[true, true, true, false, false, true, false, false, false, false, false] rfl rfl (take_ofW HT_.out HW_.out (by kernel_rfl)) (fun _ _ _ h => h) (Or.inl ⟨by rfl, ?_⟩) hHeld ?_ ?_
                        rotate_left
                        · rintro w' ⟨s0, s1⟩
                          go_simp
                          with_reducible rfl
                        rotate_left
                        · simp only [Act.put, List.setIfInBounds_toArray, List.set_cons_zero, List.set_cons_succ, i64_w, i32_w]
                          rfl
                        refine pure_ (i := 3) (N := some 71) (v := ?_) (a' := ?_) #[true, true, true, true, false, true, false, false, false, false, false] rfl rfl (any_of HT_.out (by kernel_rfl)) (fun _ _ _ h => h) (Or.inl ⟨by rfl, ?_⟩) ?_ ?_
                        rotate_left
                        · intro w'
                          go_simp
                          with_reducible rfl
                        rotate_left
                        · simp only [Act.put, List.setIfInBounds_toArray, List.set_cons_zero, List.set_cons_succ, i64_w, i32_w]
                          rfl
                        refine pure_ (i := 4) (N := some 72) (v := ?_) (a' := ?_) #[true, true, true, true, true, true, false, false, false, false, false] rfl rfl (any_of HT_.out (by kernel_rfl)) (fun _ _ _ h => h) (Or.inl ⟨by rfl, ?_⟩) ?_ ?_
                        rotate_left
                        · intro w'
                          go_simp
                          with_reducible rfl
                        rotate_left
                        · simp only [Act.put, List.setIfInBounds_toArray, List.set_cons_zero, List.set_cons_succ, i64_w, i32_w]
                          rfl
                        refine take_ (i := 6) (N := some 74) (v := ?_) (a' := ?_) #[true, true, true, true, true, true, true, false, false, false, false] rfl rfl (take_ofW HT_.out HW_.out (by kernel_rfl)) (fun _ _ _ h => h) (Or.inl ⟨by rfl, ?_⟩) hHeld ?_ ?_
                        rotate_left
                        · rintro w' ⟨s0, s1⟩
                          go_simp
                          with_reducible rfl
                        rotate_left
                        · simp only [Act.put, List.setIfInBounds_toArray, List.set_cons_zero, List.set_cons_succ, i64_w, i32_w]
                          rfl
                        refine one_ (i := 7) (N := some 75) #[true, true, true, true, true, true, true, true, false, false, false] rfl rfl (one_of HT_.out (by kernel_rfl)) (by decide) (fun K hK => ?_)
                        refine goes_ Try.func78 (by kernel_rfl) rfl #[.slice A131_1 ((rd_T114 l0_3 x64_3).f1).length c131_1, .int .i64 0] (by rfl) rfl rfl (by (try simp only [List.map_toArray, List.map_cons, List.map_nil]); first | done | rfl | (simp only [List.length_drop, List.length_take]; rfl)) ?_
                        with_reducible refine (deadfallref03_Weight.calls k3 _ _ ((rd_T114 l0_3 x64_3).f1) 0 t133 _ ?side1 ?side2 A18.out).mono ?_
                        (case side1 => repeat (first | exact (Kd.C_below HR131_1.out HB.out) | (with_reducible refine Kd.C_alloc ?_ _) | (with_reducible refine Kd.C_drewN ?_ _) | (with_reducible refine Kd.C_drew ?_)))
                        (case side2 => exact HC131_1.out)
                        rintro e w24 ⟨rfl, hb⟩
                        refine ⟨_, rfl, ?_⟩
                        have n0_ := Aside0.mk (blk_below (g := gb128) (o := .cells #[.int .i64 a0_0, .string a0_1, .bool a0_2, .slice (some ad131) l0_3.length c0_3, .slice A0_4 l0_4.length c0_4, .slice A0_5 l0_5.length c0_5, .slice A0_6 l0_6.length c0_6, .slice A0_7 l0_7.length c0_7] 52 (0, 0)) (by (with_reducible repeat (first | refine blk_drewN ?_ _ | refine blk_drew ?_ | refine blk_alloc ?_ _)); exact BK128.out) hb)
                        have n1_ := Aside0.mk (blk_below (g := gb132) (o := .cells #[.string ((rd_T114 l0_3 x64_3).f0), .slice A131_1 ((rd_T114 l0_3 x64_3).f1).length c131_1] 114 (0, 0)) (by (with_reducible repeat (first | refine blk_drewN ?_ _ | refine blk_drew ?_ | refine blk_alloc ?_ _)); exact BK132.out) hb)
                        have n2_ := Aside0.mk (below_step (by repeat (first | (with_reducible first | exact HB.out | apply below_alloc | apply pw_below_drewN | apply below_drew1 | refine below_set ?_ GE128.out | refine below_set ?_ GE132.out) | exact HB.out)) hb)
                        clear BK128
                        clear BK132
                        clear HB
                        have BK128 := n0_
                        have BK132 := n1_
                        have HB := n2_
                        clear n0_ n1_ n2_
                        (try clear hb)
                        (try clear hb2)
                        (try clear hk)
                        (try clear hi)
                        refine hK.out _ _ ⟨(blk_cell BK132.out 0).trans rfl, (blk_cell BK132.out 1).trans rfl⟩ (fun hHeld => ?_)
                        clear hK K
                        refine norm_ (a' := ?_) ?_ ?_
                        rotate_left
                        · show Act.put _ (some 75) _ = _
                          simp only [Act.put, List.setIfInBounds_toArray, List.set_cons_zero, List.set_cons_succ, i64_w, i32_w]
                          rfl
                        refine pure_ (i := 8) (N := some 76) (v := ?_) (a' := ?_) #[true, true, true, true, true, true, true, true, true, false, false] rfl rfl (any_of HT_.out (by kernel_rfl)) (fun _ _ _ h => h) (Or.inl ⟨by rfl, ?_⟩) ?_ ?_
                        rotate_left
                        · intro w'
                          go_simp
                          with_reducible rfl
                        rotate_left
                        · simp only [Act.put, List.setIfInBounds_toArray, List.set_cons_zero, List.set_cons_succ, i64_w, i32_w]
                          rfl
                        refine pure_ (i := 9) (N := some 77) (v := ?_) (a' := ?_) #[true, true, true, true, true, true, true, true, true, true, false] rfl rfl (any_of HT_.out (by kernel_rfl)) (fun _ _ _ h => h) (Or.inl ⟨by rfl, ?_⟩) ?_ ?_
                        rotate_left
                        · intro w'
                          go_simp
                          with_reducible rfl
                        rotate_left
                        · simp only [Act.put, List.setIfInBounds_toArray, List.set_cons_zero, List.set_cons_succ, i64_w, i32_w]
                          rfl
                        refine pure_ (i := 10) (N := some 5) (v := ?_) (a' := ?_) #[true, true, true, true, true, true, true, true, true, true, true] rfl rfl (any_of HT_.out (by kernel_rfl)) (fun _ _ _ h => h) (Or.inl ⟨by rfl, ?_⟩) ?_ ?_
                        rotate_left
                        · intro w'
                          go_simp
                          with_reducible rfl
                        rotate_left
                        · simp only [Act.put, List.setIfInBounds_toArray, List.set_cons_zero, List.set_cons_succ, i64_w, i32_w]
                          rfl
                        refine done_ (done_of HT_.out (by kernel_rfl)) ?_
                        try go_wp2
                        go_roundg k3
                        case measure => have := HJ2.out; have := HK2.out; have := HK3.out; omega
                        case rel => exact ⟨(wrap64 (x5_3 + (wrap64 ((wrap64 (1 + (((rd_T114 l0_3 x64_3).f0).size : Int))) + t133)))), (wrap64 (x64_3 + 1)), (by first | rfl | (simp; done) | (simp [*]; done)), (by first | rfl | (simp; done) | (simp [*]; done)), H', ⟨by have := HJ2.out; have := HK2.out; have := HK3.out; omega⟩, ⟨by (with_reducible repeat (first | refine blk_drewN ?_ _ | refine blk_drew ?_ | refine blk_alloc ?_ _)); exact BK128.out⟩, ⟨by repeat (first | (with_reducible first | exact HB.out | apply below_alloc | apply pw_below_drewN | apply below_drew1 | refine below_set ?_ GE128.out | refine below_set ?_ GE132.out) | exact HB.out)⟩⟩
                      · rw [if_neg c17] at H
                        exact absurd H (by simp)
                    · rw [if_neg c16] at H
                      exact absurd H (by simp)
                  · rw [if_neg c15] at H
                    have c15b0 : decide (x64_3 < (l0_3.length : Int)) = false := decide_eq_false c15
                    clear c15
                    have H' := Aside0.mk H
                    clear H
                    have hcz25_0 : wr.cell? ⟨gb128, 0, none⟩ = some (.int .i64 a0_0) := (blk_cell BK128.out 0).trans rfl
                    have hcz25_1 : wr.cell? ⟨gb128, 1, none⟩ = some (.string a0_1) := (blk_cell BK128.out 1).trans rfl
                    have hcz25_2 : wr.cell? ⟨gb128, 2, none⟩ = some (.bool a0_2) := (blk_cell BK128.out 2).trans rfl
                    have hcz25_3 : wr.cell? ⟨gb128, 3, none⟩ = some (.slice A0_3 l0_3.length c0_3) := (blk_cell BK128.out 3).trans rfl
                    have hcz25_4 : wr.cell? ⟨gb128, 4, none⟩ = some (.slice A0_4 l0_4.length c0_4) := (blk_cell BK128.out 4).trans rfl
                    have hcz25_5 : wr.cell? ⟨gb128, 5, none⟩ = some (.slice A0_5 l0_5.length c0_5) := (blk_cell BK128.out 5).trans rfl
                    have hcz25_6 : wr.cell? ⟨gb128, 6, none⟩ = some (.slice A0_6 l0_6.length c0_6) := (blk_cell BK128.out 6).trans rfl
                    have hcz25_7 : wr.cell? ⟨gb128, 7, none⟩ = some (.slice A0_7 l0_7.length c0_7) := (blk_cell BK128.out 7).trans rfl
                    have hfz25_0 := blk_frozen BK128.out 0
                    have hfz25_1 := blk_frozen BK128.out 1
                    have hfz25_2 := blk_frozen BK128.out 2
                    have hfz25_3 := blk_frozen BK128.out 3
                    have hfz25_4 := blk_frozen BK128.out 4
                    have hfz25_5 := blk_frozen BK128.out 5
                    have hfz25_6 := blk_frozen BK128.out 6
                    have hfz25_7 := blk_frozen BK128.out 7
                    go_wp2
                    go_loopg [5, 82] k3 (fun kq v5 v82 w' => ∃ (x5_4 : Int) (x82_4 : Int), v5 = .int .i64 x5_4 ∧ v82 = .int .i64 x82_4 ∧ Aside0 (deadfallref05_Weight.l2 kq a1 x5_4 l0_7 (l0_7.length : Int) x82_4 a0_0 a0_1 a0_2 l0_3 l0_4 l0_5 l0_6 l0_7 = some r) ∧ Aside0 (kq ≤ k3) ∧ Aside0 (w'.heap[gb128]? = some (.cells #[.int .i64 a0_0, .string a0_1, .bool a0_2, (.slice A0_3 l0_3.length c0_3), (.slice A0_4 l0_4.length c0_4), (.slice A0_5 l0_5.length c0_5), (.slice A0_6 l0_6.length c0_6), (.slice A0_7 l0_7.length c0_7)] 52 (0, 0))) ∧ Aside0 (Below w.heap.size w w'))
                    case atStart => exact ⟨(x5_3), (0), (by first | rfl | (simp; done) | (simp [*]; done)), (by first | rfl | (simp; done) | (simp [*]; done)), H', ⟨Nat.le_refl _⟩, ⟨by (with_reducible repeat (first | refine blk_drewN ?_ _ | refine blk_drew ?_ | refine blk_alloc ?_ _)); exact BK128.out⟩, ⟨by repeat (first | (with_reducible first | exact HB.out | apply below_alloc | apply pw_below_drewN | apply below_drew1 | refine below_set ?_ GE128.out) | exact HB.out)⟩⟩
                    case round =>
                      clear H'
                      try clear c1
                      try clear p1
                      try clear q1
                      try clear hx1
                      try clear c2
                      try clear p2
                      try clear c5
                      try clear c5b0
                      try clear p6
                      try clear c7
                      try clear c9
                      try clear c9b0
                      try clear c10
                      try clear c10b0
                      try clear c11
                      try clear c11b0
                      try clear c12
                      try clear p12
                      try clear q12
                      try clear hx12
                      try clear c13
                      try clear p13
                      try clear q13
                      try clear hx13
                      try clear c15
                      try clear c15b0
                      try clear c16
                      try clear c16b0
                      try clear c17
                      try clear c17b0
                      try clear c20
                      try clear c24
                      try clear hcz14_0
                      try clear hcz14_1
                      try clear hcz14_2
                      try clear hcz14_3
                      try clear hcz14_4
                      try clear hcz14_5
                      try clear hcz14_6
                      try clear hcz14_7
                      try clear hcz21_0
                      try clear hcz21_1
                      try clear hcz25_0
                      try clear hcz25_1
                      try clear hcz25_2
                      try clear hcz25_3
                      try clear hcz25_4
                      try clear hcz25_5
                      try clear hcz25_6
                      try clear hcz25_7
                      try clear hcz6_0
                      try clear hcz6_1
                      try clear hcz6_2
                      try clear hcz6_3
                      try clear hcz6_4
                      try clear hcz6_5
                      try clear hcz6_6
                      try clear hcz6_7
                      try clear hcz8_0
                      try clear hcz8_1
                      try clear hcz8_2
                      try clear hcz8_3
                      try clear hcz8_4
                      try clear hcz8_5
                      try clear hcz8_6
                      try clear hcz8_7
                      try clear hfz14_0
                      try clear hfz14_1
                      try clear hfz14_2
                      try clear hfz14_3
                      try clear hfz14_4
                      try clear hfz14_5
                      try clear hfz14_6
                      try clear hfz14_7
                      try clear hfz21_0
                      try clear hfz21_1
                      try clear hfz25_0
                      try clear hfz25_1
                      try clear hfz25_2
                      try clear hfz25_3
                      try clear hfz25_4
                      try clear hfz25_5
                      try clear hfz25_6
                      try clear hfz25_7
                      try clear hfz6_0
                      try clear hfz6_1
                      try clear hfz6_2
                      try clear hfz6_3
                      try clear hfz6_4
                      try clear hfz6_5
                      try clear hfz6_6
                      try clear hfz6_7
                      try clear hfz8_0
                      try clear hfz8_1
                      try clear hfz8_2
                      try clear hfz8_3
                      try clear hfz8_4
                      try clear hfz8_5
                      try clear hfz8_6
                      try clear hfz8_7
                      try clear hx129_0
                      try clear hx131_0
                      try clear hx131_1
                      try clear p1
                      try clear p12
                      try clear p129
                      try clear p131
                      try clear p2
                      try clear p6
                      try clear q1
                      try clear q12
                      try clear q129
                      try clear q131
                      obtain ⟨x5_4, x82_4, rfl, rfl, HA, HK4, BK128, HB⟩ := hrel
                      cases gk with
                      | zero => exact absurd HA.out (by simp [deadfallref05_Weight.l2])
                      | succ k4 =>
                        have H := HA.out
                        clear HA
                        simp only [deadfallref05_Weight.l2] at H
                        by_cases c26 : x82_4 < (l0_7.length : Int)
                        · rw [if_pos c26] at H
                          have c26b0 : decide (x82_4 < (l0_7.length : Int)) = true := decide_eq_true c26
                          clear c26
                          by_cases c27 : 0 ≤ x82_4
                          · rw [if_pos c27] at H
                            have c27b0 : decide (0 ≤ x82_4) = true := decide_eq_true c27
                            clear c27
                            by_cases c28 : x82_4 < (l0_7.length : Int)
                            · rw [if_pos c28] at H
                              have c28b0 : decide (x82_4 < (l0_7.length : Int)) = true := decide_eq_true c28
                              clear c28
                              have H' := Aside0.mk H
                              clear H
                              have p134 : 0 ≤ (x82_4 : Int) := of_decide_eq_true (by first | (with_reducible assumption) | assumption)
                              have q134 : x82_4 < (l0_7.length : Int) := of_decide_eq_true (by first | (with_reducible assumption) | assumption)
                              obtain ⟨ad134, A134_0, c134_0, A134_1, c134_1, e134, hx134_0, hx134_1, hl134_0, hi134_0, hl134_1, hi134_1⟩ := at_T116 HR0_7.out x82_4 p134 q134
                              cases e134
                              replace hx134_0 := (HB.out.cell (World.block_lt_of_cell? w _ hx134_0)).trans hx134_0
                              replace hx134_1 := (HB.out.cell (World.block_lt_of_cell? w _ hx134_1)).trans hx134_1
                              have HR134_0 := Aside0.mk hi134_0
                              have HC134_0 := Aside0.mk hl134_0
                              clear hi134_0 hl134_0
                              have HR134_1 := Aside0.mk hi134_1
                              have HC134_1 := Aside0.mk hl134_1
                              clear hi134_1 hl134_1
                              replace p134 := eq_true p134
                              replace q134 := eq_true q134
                              go_wp2_with (first | ((with_reducible refine gate_dst (N := 11) rfl ?_); (try (refine gate_guard (by rfl) ?_; dsimp only)); refine box_event ?hg (N := 11) ?hd (cs := #[.slice none 0 0, .slice none 0 0]) (t := 116) ?hr ?_; (case hd => rfl); (case hg => rfl); (case hr => first | (go_simp; done) | (go_simp; rfl)); intro gb135 hg w29 hbox hb; have n0_ := Aside0.mk (blk_below (g := gb128) (o := .cells #[.int .i64 a0_0, .string a0_1, .bool a0_2, .slice A0_3 l0_3.length c0_3, .slice A0_4 l0_4.length c0_4, .slice A0_5 l0_5.length c0_5, .slice A0_6 l0_6.length c0_6, .slice (some ad134) l0_7.length c0_7] 52 (0, 0)) (by (with_reducible repeat (first | refine blk_drewN ?_ _ | refine blk_drew ?_ | refine blk_alloc ?_ _)); exact BK128.out) hb); have n1_ := Aside0.mk (below_step (by repeat (first | (with_reducible first | exact HB.out | apply below_alloc | apply pw_below_drewN | apply below_drew1 | refine below_set ?_ GE128.out) | exact HB.out)) hb); have n2_ := Aside0.mk (hbox); have n3_ := Aside0.mk ((by rw [hg]; exact (below_size (by repeat (first | (with_reducible first | exact HB.out | apply below_alloc | apply pw_below_drewN | apply below_drew1 | refine below_set ?_ GE128.out) | exact HB.out))) : w.heap.size ≤ gb135)); have n4_ := Aside0.mk ((by rw [hg]; exact (below_size (by repeat (first | (with_reducible first | exact HB.out | apply below_alloc | apply pw_below_drewN | apply below_drew1 | refine below_set ?_ GE128.out) | exact HB.out))) : w.heap.size ≤ gb135)); have n5_ := Aside0.mk ((by rw [hg]; exact Nat.ne_of_lt (blk_lt (g := gb128) (o := .cells #[.int .i64 a0_0, .string a0_1, .bool a0_2, .slice A0_3 l0_3.length c0_3, .slice A0_4 l0_4.length c0_4, .slice A0_5 l0_5.length c0_5, .slice A0_6 l0_6.length c0_6, .slice (some ad134) l0_7.length c0_7] 52 (0, 0)) (by (with_reducible repeat (first | refine blk_drewN ?_ _ | refine blk_drew ?_ | refine blk_alloc ?_ _)); exact BK128.out)) : gb128 ≠ gb135)); have n6_ := Aside0.mk ((by rw [hg]; exact Nat.ne_of_gt (blk_lt (g := gb128) (o := .cells #[.int .i64 a0_0, .string a0_1, .bool a0_2, .slice A0_3 l0_3.length c0_3, .slice A0_4 l0_4.length c0_4, .slice A0_5 l0_5.length c0_5, .slice A0_6 l0_6.length c0_6, .slice (some ad134) l0_7.length c0_7] 52 (0, 0)) (by (with_reducible repeat (first | refine blk_drewN ?_ _ | refine blk_drew ?_ | refine blk_alloc ?_ _)); exact BK128.out)) : gb135 ≠ gb128)); clear BK128; clear HB; have BK128 := n0_; have HB := n1_; have BK135 := n2_; have GW135 := n3_; have GE135 := n4_; have NB128_135 := n5_; have NB135_128 := n6_; clear n0_ n1_ n2_ n3_ n4_ n5_ n6_; clear hb hbox hg; have hnb30 := NB135_128.out; have hnc30 := NB128_135.out; have hcz31_0 : w29.cell? ⟨gb135, 0, none⟩ = some (.slice none 0 0) := (blk_cell BK135.out 0).trans rfl; have hcz31_1 : w29.cell? ⟨gb135, 1, none⟩ = some (.slice none 0 0) := (blk_cell BK135.out 1).trans rfl; have hfz31_0 := blk_frozen BK135.out 0; have hfz31_1 := blk_frozen BK135.out 1))
                              go_loopg [5, 95] k4 (fun kq v5 v95 w' => ∃ (x5_5 : Int) (x95_5 : Int), v5 = .int .i64 x5_5 ∧ v95 = .int .i64 x95_5 ∧ Aside0 (deadfallref05_Weight.l3 kq a1 x5_5 l0_7 (l0_7.length : Int) x82_4 ((rd_T116 l0_7 x82_4).f0) (((rd_T116 l0_7 x82_4).f0).length : Int) x95_5 a0_0 a0_1 a0_2 l0_3 l0_4 l0_5 l0_6 l0_7 = some r) ∧ Aside0 (kq ≤ k4) ∧ Aside0 (w'.heap[gb128]? = some (.cells #[.int .i64 a0_0, .string a0_1, .bool a0_2, (.slice A0_3 l0_3.length c0_3), (.slice A0_4 l0_4.length c0_4), (.slice A0_5 l0_5.length c0_5), (.slice A0_6 l0_6.length c0_6), (.slice (some ad134) l0_7.length c0_7)] 52 (0, 0))) ∧ Aside0 (w'.heap[gb135]? = some (.cells #[(.slice A134_0 ((rd_T116 l0_7 x82_4).f0).length c134_0), (.slice A134_1 ((rd_T116 l0_7 x82_4).f1).length c134_1)] 116 (0, 0))) ∧ Aside0 (Below w.heap.size w w'))
                              case atStart => exact ⟨(wrap64 (x5_4 + (wrap64 (1 + (((rd_T116 l0_7 x82_4).f1).length : Int))))), (0), (by first | rfl | (simp; done) | (simp [*]; done)), (by first | rfl | (simp; done) | (simp [*]; done)), H', ⟨Nat.le_refl _⟩, ⟨by (with_reducible repeat (first | refine blk_drewN ?_ _ | refine blk_drew ?_ | refine blk_alloc ?_ _)); refine blk_far ?_ NB128_135.out _; (with_reducible repeat (first | refine blk_drewN ?_ _ | refine blk_drew ?_ | refine blk_alloc ?_ _)); refine blk_far ?_ NB128_135.out _; (with_reducible repeat (first | refine blk_drewN ?_ _ | refine blk_drew ?_ | refine blk_alloc ?_ _)); exact BK128.out⟩, ⟨by (with_reducible repeat (first | refine blk_drewN ?_ _ | refine blk_drew ?_ | refine blk_alloc ?_ _)); refine blk_put (cs := #[.slice A134_0 ((rd_T116 l0_7 x82_4).f0).length c134_0, .slice none 0 0]) ?_ 1 _ rfl; (with_reducible repeat (first | refine blk_drewN ?_ _ | refine blk_drew ?_ | refine blk_alloc ?_ _)); refine blk_put (cs := #[.slice none 0 0, .slice none 0 0]) ?_ 0 _ rfl; (with_reducible repeat (first | refine blk_drewN ?_ _ | refine blk_drew ?_ | refine blk_alloc ?_ _)); exact BK135.out⟩, ⟨by repeat (first | (with_reducible first | exact HB.out | apply below_alloc | apply pw_below_drewN | apply below_drew1 | refine below_set ?_ GE128.out | refine below_set ?_ GE135.out) | exact HB.out)⟩⟩
                              case round =>
                                clear H'
                                try clear c1
                                try clear p1
                                try clear q1
                                try clear hx1
                                try clear c2
                                try clear p2
                                try clear c3
                                try clear c5
                                try clear c5b0
                                try clear p6
                                try clear c7
                                try clear c9
                                try clear c9b0
                                try clear c10
                                try clear c10b0
                                try clear c11
                                try clear c11b0
                                try clear c12
                                try clear p12
                                try clear q12
                                try clear hx12
                                try clear c13
                                try clear p13
                                try clear q13
                                try clear hx13
                                try clear c15
                                try clear c15b0
                                try clear c16
                                try clear c16b0
                                try clear c17
                                try clear c17b0
                                try clear c20
                                try clear c24
                                try clear c26
                                try clear c26b0
                                try clear c27
                                try clear c27b0
                                try clear c28
                                try clear c28b0
                                try clear c30
                                try clear hcz14_0
                                try clear hcz14_1
                                try clear hcz14_2
                                try clear hcz14_3
                                try clear hcz14_4
                                try clear hcz14_5
                                try clear hcz14_6
                                try clear hcz14_7
                                try clear hcz21_0
                                try clear hcz21_1
                                try clear hcz25_0
                                try clear hcz25_1
                                try clear hcz25_2
                                try clear hcz25_3
                                try clear hcz25_4
                                try clear hcz25_5
                                try clear hcz25_6
                                try clear hcz25_7
                                try clear hcz31_0
                                try clear hcz31_1
                                try clear hcz6_0
                                try clear hcz6_1
                                try clear hcz6_2
                                try clear hcz6_3
                                try clear hcz6_4
                                try clear hcz6_5
                                try clear hcz6_6
                                try clear hcz6_7
                                try clear hcz8_0
                                try clear hcz8_1
                                try clear hcz8_2
                                try clear hcz8_3
                                try clear hcz8_4
                                try clear hcz8_5
                                try clear hcz8_6
                                try clear hcz8_7
                                try clear hfz14_0
                                try clear hfz14_1
                                try clear hfz14_2
                                try clear hfz14_3
                                try clear hfz14_4
                                try clear hfz14_5
                                try clear hfz14_6
                                try clear hfz14_7
                                try clear hfz21_0
                                try clear hfz21_1
                                try clear hfz25_0
                                try clear hfz25_1
                                try clear hfz25_2
                                try clear hfz25_3
                                try clear hfz25_4
                                try clear hfz25_5
                                try clear hfz25_6
                                try clear hfz25_7
                                try clear hfz31_0
                                try clear hfz31_1
                                try clear hfz6_0
                                try clear hfz6_1
                                try clear hfz6_2
                                try clear hfz6_3
                                try clear hfz6_4
                                try clear hfz6_5
                                try clear hfz6_6
                                try clear hfz6_7
                                try clear hfz8_0
                                try clear hfz8_1
                                try clear hfz8_2
                                try clear hfz8_3
                                try clear hfz8_4
                                try clear hfz8_5
                                try clear hfz8_6
                                try clear hfz8_7
                                try clear hx129_0
                                try clear hx131_0
                                try clear hx131_1
                                try clear hx134_0
                                try clear hx134_1
                                try clear p1
                                try clear p12
                                try clear p129
                                try clear p13
                                try clear p131
                                try clear p134
                                try clear p2
                                try clear p6
                                try clear q1
                                try clear q12
                                try clear q129
                                try clear q13
                                try clear q131
                                try clear q134
                                obtain ⟨x5_5, x95_5, rfl, rfl, HA, HK5, BK128, BK135, HB⟩ := hrel
                                cases gk with
                                | zero => exact absurd HA.out (by simp [deadfallref05_Weight.l3])
                                | succ k5 =>
                                  have H := HA.out
                                  clear HA
                                  simp only [deadfallref05_Weight.l3] at H
                                  by_cases c32 : x95_5 < (((rd_T116 l0_7 x82_4).f0).length : Int)
                                  · rw [if_pos c32] at H
                                    have c32b0 : decide (x95_5 < (((rd_T116 l0_7 x82_4).f0).length : Int)) = true := decide_eq_true c32
                                    clear c32
                                    by_cases c33 : 0 ≤ x95_5
                                    · rw [if_pos c33] at H
                                      have c33b0 : decide (0 ≤ x95_5) = true := decide_eq_true c33
                                      clear c33
                                      by_cases c34 : x95_5 < (((rd_T116 l0_7 x82_4).f0).length : Int)
                                      · rw [if_pos c34] at H
                                        have c34b0 : decide (x95_5 < (((rd_T116 l0_7 x82_4).f0).length : Int)) = true := decide_eq_true c34
                                        clear c34
                                        replace H := Option.bind_eq_some_iff.mp H
                                        obtain ⟨t137, A350, H⟩ := H
                                        replace H : (if (wrap64 (x5_5 + (wrap64 (1 + t137)))) > 20000 then (some 100000) else (deadfallref05_Weight.l3 k5 a1 (wrap64 (x5_5 + (wrap64 (1 + t137)))) l0_7 (l0_7.length : Int) x82_4 ((rd_T116 l0_7 x82_4).f0) (((rd_T116 l0_7 x82_4).f0).length : Int) (wrap64 (x95_5 + 1)) a0_0 a0_1 a0_2 l0_3 l0_4 l0_5 l0_6 l0_7)) = some r := H
                                        have A35 := Aside0.mk A350
                                        clear A350
                                        by_cases c36 : (wrap64 (x5_5 + (wrap64 (1 + t137)))) > 20000
                                        · rw [if_pos c36] at H
                                          have c36b0 : decide (20000 < (wrap64 (x5_5 + (wrap64 (1 + t137))))) = true := decide_eq_true c36
                                          clear c36
                                          obtain rfl := Option.some.inj H
                                          have p136 : 0 ≤ (x95_5 : Int) := of_decide_eq_true (by first | (with_reducible assumption) | assumption)
                                          have q136 : x95_5 < (((rd_T116 l0_7 x82_4).f0).length : Int) := of_decide_eq_true (by first | (with_reducible assumption) | assumption)
                                          obtain ⟨ad136, A136_0, c136_0, e136, hx136_0, hl136_0, hi136_0⟩ := at_L4 HR134_0.out x95_5 p136 q136
                                          cases e136
                                          replace hx136_0 := (HB.out.cell (World.block_lt_of_cell? w _ hx136_0)).trans hx136_0
                                          have HR136_0 := Aside0.mk hi136_0
                                          have HC136_0 := Aside0.mk hl136_0
                                          clear hi136_0 hl136_0
                                          replace p136 := eq_true p136
                                          replace q136 := eq_true q136
                                          go_wp2_with (first | ((with_reducible refine gate_callee (f := 78) rfl ?_); refine goesL_ (some 101) rfl rfl Try.func78 (by kernel_rfl) rfl #[.slice A136_0 (rd_L4 ((rd_T116 l0_7 x82_4).f0) x95_5).length c136_0, .int .i64 0] rfl (by (try simp only [List.map_toArray, List.map_cons, List.map_nil]); first | done | rfl | (simp only [List.length_drop, List.length_take]; rfl)) ?_; (with_reducible refine (deadfallref03_Weight.calls k5 _ _ (rd_L4 ((rd_T116 l0_7 x82_4).f0) x95_5) 0 t137 _ ?side1 ?side2 A35.out).mono ?_); (case side1 => repeat (first | exact (Kd.C_below HR136_0.out HB.out) | (with_reducible refine Kd.C_alloc ?_ _) | (with_reducible refine Kd.C_drewN ?_ _) | (with_reducible refine Kd.C_drew ?_))); (case side2 => exact HC136_0.out); rintro e w37 ⟨rfl, hb⟩; refine ⟨_, rfl, ?_⟩; have n0_ := Aside0.mk (blk_below (g := gb128) (o := .cells #[.int .i64 a0_0, .string a0_1, .bool a0_2, .slice A0_3 l0_3.length c0_3, .slice A0_4 l0_4.length c0_4, .slice A0_5 l0_5.length c0_5, .slice A0_6 l0_6.length c0_6, .slice (some ad134) l0_7.length c0_7] 52 (0, 0)) (by (with_reducible repeat (first | refine blk_drewN ?_ _ | refine blk_drew ?_ | refine blk_alloc ?_ _)); exact BK128.out) hb); have n1_ := Aside0.mk (blk_below (g := gb135) (o := .cells #[.slice (some ad136) ((rd_T116 l0_7 x82_4).f0).length c134_0, .slice A134_1 ((rd_T116 l0_7 x82_4).f1).length c134_1] 116 (0, 0)) (by (with_reducible repeat (first | refine blk_drewN ?_ _ | refine blk_drew ?_ | refine blk_alloc ?_ _)); exact BK135.out) hb); have n2_ := Aside0.mk (below_step (by repeat (first | (with_reducible first | exact HB.out | apply below_alloc | apply pw_below_drewN | apply below_drew1 | refine below_set ?_ GE128.out | refine below_set ?_ GE135.out) | exact HB.out)) hb); clear BK128; clear BK135; clear HB; have BK128 := n0_; have BK135 := n1_; have HB := n2_; clear n0_ n1_ n2_; (try clear hb); (try clear hb2); (try clear hk); (try clear hi)))
                                          go_ret
                                          exact ⟨by first | rfl | (simp [errW_none, errW_some] <;> rfl) | (simp [*, errW_none, errW_some] <;> rfl), by repeat (first | (with_reducible first | exact HB.out | apply below_alloc | apply pw_below_drewN | apply below_drew1 | refine below_set ?_ GE128.out | refine below_set ?_ GE135.out) | exact HB.out)⟩
                                        · rw [if_neg c36] at H
                                          have c36b0 : decide (20000 < (wrap64 (x5_5 + (wrap64 (1 + t137))))) = false := decide_eq_false c36
                                          clear c36
                                          have H' := Aside0.mk H
                                          clear H
                                          have p136 : 0 ≤ (x95_5 : Int) := of_decide_eq_true (by first | (with_reducible assumption) | assumption)
                                          have q136 : x95_5 < (((rd_T116 l0_7 x82_4).f0).length : Int) := of_decide_eq_true (by first | (with_reducible assumption) | assumption)
                                          obtain ⟨ad136, A136_0, c136_0, e136, hx136_0, hl136_0, hi136_0⟩ := at_L4 HR134_0.out x95_5 p136 q136
                                          cases e136
                                          replace hx136_0 := (HB.out.cell (World.block_lt_of_cell? w _ hx136_0)).trans hx136_0
                                          have HR136_0 := Aside0.mk hi136_0
                                          have HC136_0 := Aside0.mk hl136_0
                                          clear hi136_0 hl136_0
                                          replace p136 := eq_true p136
                                          replace q136 := eq_true q136
                                          go_wp2_with (first | ((with_reducible refine gate_callee (f := 78) rfl ?_); refine goesL_ (some 101) rfl rfl Try.func78 (by kernel_rfl) rfl #[.slice A136_0 (rd_L4 ((rd_T116 l0_7 x82_4).f0) x95_5).length c136_0, .int .i64 0] rfl (by (try simp only [List.map_toArray, List.map_cons, List.map_nil]); first | done | rfl | (simp only [List.length_drop, List.length_take]; rfl)) ?_; (with_reducible refine (deadfallref03_Weight.calls k5 _ _ (rd_L4 ((rd_T116 l0_7 x82_4).f0) x95_5) 0 t137 _ ?side1 ?side2 A35.out).mono ?_); (case side1 => repeat (first | exact (Kd.C_below HR136_0.out HB.out) | (with_reducible refine Kd.C_alloc ?_ _) | (with_reducible refine Kd.C_drewN ?_ _) | (with_reducible refine Kd.C_drew ?_))); (case side2 => exact HC136_0.out); rintro e w38 ⟨rfl, hb⟩; refine ⟨_, rfl, ?_⟩; have n0_ := Aside0.mk (blk_below (g := gb128) (o := .cells #[.int .i64 a0_0, .string a0_1, .bool a0_2, .slice A0_3 l0_3.length c0_3, .slice A0_4 l0_4.length c0_4, .slice A0_5 l0_5.length c0_5, .slice A0_6 l0_6.length c0_6, .slice (some ad134) l0_7.length c0_7] 52 (0, 0)) (by (with_reducible repeat (first | refine blk_drewN ?_ _ | refine blk_drew ?_ | refine blk_alloc ?_ _)); exact BK128.out) hb); have n1_ := Aside0.mk (blk_below (g := gb135) (o := .cells #[.slice (some ad136) ((rd_T116 l0_7 x82_4).f0).length c134_0, .slice A134_1 ((rd_T116 l0_7 x82_4).f1).length c134_1] 116 (0, 0)) (by (with_reducible repeat (first | refine blk_drewN ?_ _ | refine blk_drew ?_ | refine blk_alloc ?_ _)); exact BK135.out) hb); have n2_ := Aside0.mk (below_step (by repeat (first | (with_reducible first | exact HB.out | apply below_alloc | apply pw_below_drewN | apply below_drew1 | refine below_set ?_ GE128.out | refine below_set ?_ GE135.out) | exact HB.out)) hb); clear BK128; clear BK135; clear HB; have BK128 := n0_; have BK135 := n1_; have HB := n2_; clear n0_ n1_ n2_; (try clear hb); (try clear hb2); (try clear hk); (try clear hi)))
                                          go_roundg k5
                                          case measure => have := HJ2.out; have := HK2.out; have := HK3.out; have := HK4.out; have := HK5.out; omega
                                          case rel => exact ⟨(wrap64 (x5_5 + (wrap64 (1 + t137)))), (wrap64 (x95_5 + 1)), (by first | rfl | (simp; done) | (simp [*]; done)), (by first | rfl | (simp; done) | (simp [*]; done)), H', ⟨by have := HJ2.out; have := HK2.out; have := HK3.out; have := HK4.out; have := HK5.out; omega⟩, ⟨by (with_reducible repeat (first | refine blk_drewN ?_ _ | refine blk_drew ?_ | refine blk_alloc ?_ _)); exact BK128.out⟩, ⟨by (with_reducible repeat (first | refine blk_drewN ?_ _ | refine blk_drew ?_ | refine blk_alloc ?_ _)); exact BK135.out⟩, ⟨by repeat (first | (with_reducible first | exact HB.out | apply below_alloc | apply pw_below_drewN | apply below_drew1 | refine below_set ?_ GE128.out | refine below_set ?_ GE135.out) | exact HB.out)⟩⟩
                                      · rw [if_neg c34] at H
                                        exact absurd H (by simp)
                                    · rw [if_neg c33] at H
                                      exact absurd H (by simp)
                                  · rw [if_neg c32] at H
                                    have c32b0 : decide (x95_5 < (((rd_T116 l0_7 x82_4).f0).length : Int)) = false := decide_eq_false c32
                                    clear c32
                                    have H' := Aside0.mk H
                                    clear H
                                    go_wp2
                                    go_roundg k5
                                    case measure => have := HJ2.out; have := HK2.out; have := HK3.out; have := HK4.out; have := HK5.out; omega
                                    case rel => exact ⟨(x5_5), (wrap64 (x82_4 + 1)), (by first | rfl | (simp; done) | (simp [*]; done)), (by first | rfl | (simp; done) | (simp [*]; done)), H', ⟨by have := HJ2.out; have := HK2.out; have := HK3.out; have := HK4.out; have := HK5.out; omega⟩, ⟨by (with_reducible repeat (first | refine blk_drewN ?_ _ | refine blk_drew ?_ | refine blk_alloc ?_ _)); exact BK128.out⟩, ⟨by repeat (first | (with_reducible first | exact HB.out | apply below_alloc | apply pw_below_drewN | apply below_drew1 | refine below_set ?_ GE128.out | refine below_set ?_ GE135.out) | exact HB.out)⟩⟩
                            · rw [if_neg c28] at H
                              exact absurd H (by simp)
                          · rw [if_neg c27] at H
                            exact absurd H (by simp)
                        · rw [if_neg c26] at H
                          have c26b0 : decide (x82_4 < (l0_7.length : Int)) = false := decide_eq_false c26
                          clear c26
                          by_cases c39 : x5_4 > 20000
                          · rw [if_pos c39] at H
                            have c39b0 : decide (20000 < x5_4) = true := decide_eq_true c39
                            clear c39
                            obtain rfl := Option.some.inj H
                            go_wp2
                            go_ret
                            exact ⟨by first | rfl | (simp [errW_none, errW_some] <;> rfl) | (simp [*, errW_none, errW_some] <;> rfl), by repeat (first | (with_reducible first | exact HB.out | apply below_alloc | apply pw_below_drewN | apply below_drew1 | refine below_set ?_ GE128.out) | exact HB.out)⟩
                          · rw [if_neg c39] at H
                            have c39b0 : decide (20000 < x5_4) = false := decide_eq_false c39
                            clear c39
                            replace H := Option.bind_eq_some_iff.mp H
                            obtain ⟨t138, A400, H⟩ := H
                            replace H : (deadfallref05_Weight.l4 k4 a1 x5_4 t138 (t138.length : Int) 0) = some r := H
                            have A40 := Aside0.mk A400
                            clear A400
                            have H' := Aside0.mk H
                            clear H
                            have hcz41_0 : wr.cell? ⟨gb128, 0, none⟩ = some (.int .i64 a0_0) := (blk_cell BK128.out 0).trans rfl
                            have hcz41_1 : wr.cell? ⟨gb128, 1, none⟩ = some (.string a0_1) := (blk_cell BK128.out 1).trans rfl
                            have hcz41_2 : wr.cell? ⟨gb128, 2, none⟩ = some (.bool a0_2) := (blk_cell BK128.out 2).trans rfl
                            have hcz41_3 : wr.cell? ⟨gb128, 3, none⟩ = some (.slice A0_3 l0_3.length c0_3) := (blk_cell BK128.out 3).trans rfl
                            have hcz41_4 : wr.cell? ⟨gb128, 4, none⟩ = some (.slice A0_4 l0_4.length c0_4) := (blk_cell BK128.out 4).trans rfl
                            have hcz41_5 : wr.cell? ⟨gb128, 5, none⟩ = some (.slice A0_5 l0_5.length c0_5) := (blk_cell BK128.out 5).trans rfl
                            have hcz41_6 : wr.cell? ⟨gb128, 6, none⟩ = some (.slice A0_6 l0_6.length c0_6) := (blk_cell BK128.out 6).trans rfl
                            have hcz41_7 : wr.cell? ⟨gb128, 7, none⟩ = some (.slice A0_7 l0_7.length c0_7) := (blk_cell BK128.out 7).trans rfl
                            have hfz41_0 := blk_frozen BK128.out 0
                            have hfz41_1 := blk_frozen BK128.out 1
                            have hfz41_2 := blk_frozen BK128.out 2
                            have hfz41_3 := blk_frozen BK128.out 3
                            have hfz41_4 := blk_frozen BK128.out 4
                            have hfz41_5 := blk_frozen BK128.out 5
                            have hfz41_6 := blk_frozen BK128.out 6
                            have hfz41_7 := blk_frozen BK128.out 7
                            go_wp2_with (first | ((with_reducible refine gate_callee (f := 79) rfl ?_); refine goesL_ (some 111) rfl rfl Try.func79 (by kernel_rfl) rfl #[.agg #[.int .i64 a0_0, .string a0_1, .bool a0_2, .slice A0_3 l0_3.length c0_3, .slice A0_4 l0_4.length c0_4, .slice A0_5 l0_5.length c0_5, .slice A0_6 l0_6.length c0_6, .slice A0_7 l0_7.length c0_7]] rfl (by (try simp only [List.map_toArray, List.map_cons, List.map_nil]); first | done | rfl | (simp only [List.length_drop, List.length_take]; rfl)) ?_; (with_reducible refine (deadfallref05_Within.calls k4 a0_0 a0_1 a0_2 _ _ l0_3 _ _ l0_4 (fun k_ => k_ < w.heap.size) _ _ l0_5 _ _ l0_6 (fun k_ => k_ < w.heap.size) _ _ l0_7 t138 _ ?side1 ?side2 ?side3 ?side4 ?side5 ?side6 ?side7 ?side8 A40.out).mono ?_); (case side1 => repeat (first | exact (Kd.C_below HR0_3.out HB.out) | (with_reducible refine Kd.C_alloc ?_ _) | (with_reducible refine Kd.C_drewN ?_ _) | (with_reducible refine Kd.C_drew ?_))); (case side2 => exact HC0_3.out); (case side3 => repeat (first | exact (Kd.C_below HR0_4.out HB.out) | (with_reducible refine Kd.C_alloc ?_ _) | (with_reducible refine Kd.C_drewN ?_ _) | (with_reducible refine Kd.C_drew ?_))); (case side4 => exact HC0_4.out); (case side5 => exact Kd.V_mk HC0_5.out (Kd.F_below (Kd.C_F k52_heap HR0_5.out) (by repeat (first | (with_reducible first | exact HB.out | apply below_alloc | apply pw_below_drewN | apply below_drew1 | refine below_set ?_ GE128.out) | exact HB.out)))); (case side6 => repeat (first | exact (Kd.C_below HR0_6.out HB.out) | (with_reducible refine Kd.C_alloc ?_ _) | (with_reducible refine Kd.C_drewN ?_ _) | (with_reducible refine Kd.C_drew ?_))); (case side7 => exact HC0_6.out); (case side8 => exact Kd.V_mk HC0_7.out (Kd.F_below (Kd.C_F k116_heap HR0_7.out) (by repeat (first | (with_reducible first | exact HB.out | apply below_alloc | apply pw_below_drewN | apply below_drew1 | refine below_set ?_ GE128.out) | exact HB.out)))); rintro e w42 ⟨v139, rfl, ho0, hb⟩; refine ⟨_, rfl, ?_⟩; have n0_ := Aside0.mk (Kd.N_lower (Kd.N_mono (ok' := fun k_ => k_ ≠ gb128) ho0 (fun k_ hk_ => Or.elim hk_ (fun hs_ => Or.elim hs_ (fun hs_ => fun e_ => Nat.not_le.2 hs_ (by rw [e_]; exact GW128.out)) (fun hs_ => fun e_ => Nat.not_le.2 hs_ (by rw [e_]; exact GW128.out))) (fun hn_ => (Kd.freshB (g := gb128) (o := .cells #[.int .i64 a0_0, .string a0_1, .bool a0_2, .slice A0_3 l0_3.length c0_3, .slice A0_4 l0_4.length c0_4, .slice A0_5 l0_5.length c0_5, .slice A0_6 l0_6.length c0_6, .slice A0_7 l0_7.length c0_7] 52 (0, 0)) (by (with_reducible repeat (first | refine blk_drewN ?_ _ | refine blk_drew ?_ | refine blk_alloc ?_ _)); exact BK128.out) k_ hn_)))) (below_size (by repeat (first | (with_reducible first | exact HB.out | apply below_alloc | apply pw_below_drewN | apply below_drew1 | refine below_set ?_ GE128.out) | exact HB.out)))); have n1_ := Aside0.mk (blk_below (g := gb128) (o := .cells #[.int .i64 a0_0, .string a0_1, .bool a0_2, .slice A0_3 l0_3.length c0_3, .slice A0_4 l0_4.length c0_4, .slice A0_5 l0_5.length c0_5, .slice A0_6 l0_6.length c0_6, .slice A0_7 l0_7.length c0_7] 52 (0, 0)) (by (with_reducible repeat (first | refine blk_drewN ?_ _ | refine blk_drew ?_ | refine blk_alloc ?_ _)); exact BK128.out) hb); have n2_ := Aside0.mk (below_step (by repeat (first | (with_reducible first | exact HB.out | apply below_alloc | apply pw_below_drewN | apply below_drew1 | refine below_set ?_ GE128.out) | exact HB.out)) hb); clear BK128; clear HB; have HO140 := n0_; have BK128 := n1_; have HB := n2_; clear n0_ n1_ n2_; (try clear hb); (try clear hb2); (try clear hk); (try clear hi); (try clear ho0); obtain ⟨Ao43, co43, eo43⟩ := Kd.N_slice HO140.out; subst eo43))
                            go_loopg [5, 113] k4 (fun kq v5 v113 w' => ∃ (x5_5 : Int) (x113_5 : Int), v5 = .int .i64 x5_5 ∧ v113 = .int .i64 x113_5 ∧ Aside0 (deadfallref05_Weight.l4 kq a1 x5_5 t138 (t138.length : Int) x113_5 = some r) ∧ Aside0 (kq ≤ k4) ∧ Aside0 (Kd.N k52 52 w' w.heap.size (fun k_ => k_ ≠ gb128) (.slice Ao43 t138.length co43) t138) ∧ Aside0 (w'.heap[gb128]? = some (.cells #[.int .i64 a0_0, .string a0_1, .bool a0_2, (.slice A0_3 l0_3.length c0_3), (.slice A0_4 l0_4.length c0_4), (.slice A0_5 l0_5.length c0_5), (.slice A0_6 l0_6.length c0_6), (.slice A0_7 l0_7.length c0_7)] 52 (0, 0))) ∧ Aside0 (Below w.heap.size w w'))
                            case atStart => exact ⟨(x5_4), (0), (by first | rfl | (simp; done) | (simp [*]; done)), (by first | rfl | (simp; done) | (simp [*]; done)), H', ⟨Nat.le_refl _⟩, ⟨by (with_reducible repeat (first | apply Kd.N_alloc | apply Kd.N_drewN | apply Kd.N_drew)); exact HO140.out⟩, ⟨by (with_reducible repeat (first | refine blk_drewN ?_ _ | refine blk_drew ?_ | refine blk_alloc ?_ _)); exact BK128.out⟩, ⟨by repeat (first | (with_reducible first | exact HB.out | apply below_alloc | apply pw_below_drewN | apply below_drew1 | refine below_set ?_ GE128.out) | exact HB.out)⟩⟩
                            case round =>
                              clear H'
                              try clear c1
                              try clear p1
                              try clear q1
                              try clear hx1
                              try clear c2
                              try clear p2
                              try clear c3
                              try clear c5
                              try clear c5b0
                              try clear p6
                              try clear c7
                              try clear c9
                              try clear c9b0
                              try clear c10
                              try clear c10b0
                              try clear c11
                              try clear c11b0
                              try clear c12
                              try clear p12
                              try clear q12
                              try clear hx12
                              try clear c13
                              try clear p13
                              try clear q13
                              try clear hx13
                              try clear c15
                              try clear c15b0
                              try clear c16
                              try clear c16b0
                              try clear c17
                              try clear c17b0
                              try clear c20
                              try clear c24
                              try clear c26
                              try clear c26b0
                              try clear c27
                              try clear c27b0
                              try clear c28
                              try clear c28b0
                              try clear c30
                              try clear c32
                              try clear c32b0
                              try clear c33
                              try clear c33b0
                              try clear c34
                              try clear c34b0
                              try clear c36
                              try clear c36b0
                              try clear c39
                              try clear c39b0
                              try clear hcz14_0
                              try clear hcz14_1
                              try clear hcz14_2
                              try clear hcz14_3
                              try clear hcz14_4
                              try clear hcz14_5
                              try clear hcz14_6
                              try clear hcz14_7
                              try clear hcz21_0
                              try clear hcz21_1
                              try clear hcz25_0
                              try clear hcz25_1
                              try clear hcz25_2
                              try clear hcz25_3
                              try clear hcz25_4
                              try clear hcz25_5
                              try clear hcz25_6
                              try clear hcz25_7
                              try clear hcz31_0
                              try clear hcz31_1
                              try clear hcz41_0
                              try clear hcz41_1
                              try clear hcz41_2
                              try clear hcz41_3
                              try clear hcz41_4
                              try clear hcz41_5
                              try clear hcz41_6
                              try clear hcz41_7
                              try clear hcz6_0
                              try clear hcz6_1
                              try clear hcz6_2
                              try clear hcz6_3
                              try clear hcz6_4
                              try clear hcz6_5
                              try clear hcz6_6
                              try clear hcz6_7
                              try clear hcz8_0
                              try clear hcz8_1
                              try clear hcz8_2
                              try clear hcz8_3
                              try clear hcz8_4
                              try clear hcz8_5
                              try clear hcz8_6
                              try clear hcz8_7
                              try clear hfz14_0
                              try clear hfz14_1
                              try clear hfz14_2
                              try clear hfz14_3
                              try clear hfz14_4
                              try clear hfz14_5
                              try clear hfz14_6
                              try clear hfz14_7
                              try clear hfz21_0
                              try clear hfz21_1
                              try clear hfz25_0
                              try clear hfz25_1
                              try clear hfz25_2
                              try clear hfz25_3
                              try clear hfz25_4
                              try clear hfz25_5
                              try clear hfz25_6
                              try clear hfz25_7
                              try clear hfz31_0
                              try clear hfz31_1
                              try clear hfz41_0
                              try clear hfz41_1
                              try clear hfz41_2
                              try clear hfz41_3
                              try clear hfz41_4
                              try clear hfz41_5
                              try clear hfz41_6
                              try clear hfz41_7
                              try clear hfz6_0
                              try clear hfz6_1
                              try clear hfz6_2
                              try clear hfz6_3
                              try clear hfz6_4
                              try clear hfz6_5
                              try clear hfz6_6
                              try clear hfz6_7
                              try clear hfz8_0
                              try clear hfz8_1
                              try clear hfz8_2
                              try clear hfz8_3
                              try clear hfz8_4
                              try clear hfz8_5
                              try clear hfz8_6
                              try clear hfz8_7
                              try clear hx129_0
                              try clear hx131_0
                              try clear hx131_1
                              try clear hx134_0
                              try clear hx134_1
                              try clear hx136_0
                              try clear p1
                              try clear p12
                              try clear p129
                              try clear p13
                              try clear p131
                              try clear p134
                              try clear p136
                              try clear p2
                              try clear p6
                              try clear q1
                              try clear q12
                              try clear q129
                              try clear q13
                              try clear q131
                              try clear q134
                              try clear q136
                              obtain ⟨x5_5, x113_5, rfl, rfl, HA, HK5, HO_111, BK128, HB⟩ := hrel
                              cases gk with
                              | zero => exact absurd HA.out (by simp [deadfallref05_Weight.l4])
                              | succ k5 =>
                                have H := HA.out
                                clear HA
                                simp only [deadfallref05_Weight.l4] at H
                                by_cases c44 : x113_5 < (t138.length : Int)
                                · rw [if_pos c44] at H
                                  have c44b0 : decide (x113_5 < (t138.length : Int)) = true := decide_eq_true c44
                                  clear c44
                                  by_cases c45 : 0 ≤ x113_5
                                  · rw [if_pos c45] at H
                                    have c45b0 : decide (0 ≤ x113_5) = true := decide_eq_true c45
                                    clear c45
                                    by_cases c46 : x113_5 < (t138.length : Int)
                                    · rw [if_pos c46] at H
                                      have c46b0 : decide (x113_5 < (t138.length : Int)) = true := decide_eq_true c46
                                      clear c46
                                      replace H := Option.bind_eq_some_iff.mp H
                                      obtain ⟨t143, A470, H⟩ := H
                                      replace H : (if (wrap64 (x5_5 + t143)) > 20000 then (some 100000) else (deadfallref05_Weight.l4 k5 a1 (wrap64 (x5_5 + t143)) t138 (t138.length : Int) (wrap64 (x113_5 + 1)))) = some r := H
                                      have A47 := Aside0.mk A470
                                      clear A470
                                      by_cases c48 : (wrap64 (x5_5 + t143)) > 20000
                                      · rw [if_pos c48] at H
                                        have c48b0 : decide (20000 < (wrap64 (x5_5 + t143))) = true := decide_eq_true c48
                                        clear c48
                                        obtain rfl := Option.some.inj H
                                        have p141 : 0 ≤ (x113_5 : Int) := of_decide_eq_true (by first | (with_reducible assumption) | assumption)
                                        have q141 : x113_5 < (t138.length : Int) := of_decide_eq_true (by first | (with_reducible assumption) | assumption)
                                        obtain ⟨ad141, A141_3, c141_3, A141_4, c141_4, A141_5, c141_5, A141_6, c141_6, A141_7, c141_7, e141, hx141_0, hx141_1, hx141_2, hx141_3, hx141_4, hx141_5, hx141_6, hx141_7, hl141_3, hi141_3, hl141_4, hi141_4, hl141_5, hi141_5, hl141_6, hi141_6, hl141_7, hi141_7⟩ := at_T52 (Kd.N_reads' HO_111.out).2.2 x113_5 p141 q141
                                        cases e141
                                        obtain ⟨ce141, hce141, hMe141, hcc141⟩ := Kd.N_get HO_111.out z52 x113_5 p141 (by first | exact q141 | exact of_decide_eq_true (by first | (with_reducible assumption) | assumption) | (have e_ := (Kd.N_reads' HO_111.out).1; omega))
                                        obtain ⟨ua141_3, uc141_3, ua141_4, uc141_4, ua141_5, uc141_5, ua141_6, uc141_6, ua141_7, uc141_7, rfl, ul141_3, ge141_3, ul141_4, ge141_4, ul141_5, ge141_5, ul141_6, ge141_6, ul141_7, ge141_7⟩ := k52_openF hMe141
                                        have hv141_3 := hcc141 3 _ rfl
                                        rw [add_field _ _ 3 (by omega)] at hv141_3
                                        replace hv141_3 := Option.some.inj (hv141_3.symm.trans hx141_3)
                                        injection hv141_3 with hva_ hvn_ hvc_
                                        rw [hva_] at ge141_3
                                        rw [hvc_] at ul141_3
                                        have HL141_3 := Aside0.mk (show Kd.V k114 114 _ w.heap.size _ _ ((rd_T52 t138 x113_5).f3) from Kd.V_mk ul141_3 ge141_3)
                                        clear hva_ hvn_ hvc_ ge141_3 ul141_3
                                        have hv141_4 := hcc141 4 _ rfl
                                        rw [add_field _ _ 4 (by omega)] at hv141_4
                                        replace hv141_4 := Option.some.inj (hv141_4.symm.trans hx141_4)
                                        injection hv141_4 with hva_ hvn_ hvc_
                                        rw [hva_] at ge141_4
                                        rw [hvc_] at ul141_4
                                        have HL141_4 := Aside0.mk (show Kd.V (Kd.slice 154 k154) 111 _ w.heap.size _ _ ((rd_T52 t138 x113_5).f4) from Kd.V_mk ul141_4 ge141_4)
                                        clear hva_ hvn_ hvc_ ge141_4 ul141_4
                                        have hv141_5 := hcc141 5 _ rfl
                                        rw [add_field _ _ 5 (by omega)] at hv141_5
                                        replace hv141_5 := Option.some.inj (hv141_5.symm.trans hx141_5)
                                        injection hv141_5 with hva_ hvn_ hvc_
                                        rw [hva_] at ge141_5
                                        rw [hvc_] at ul141_5
                                        have HL141_5 := Aside0.mk (show Kd.V k52 52 _ w.heap.size _ _ ((rd_T52 t138 x113_5).f5) from Kd.V_mk ul141_5 ge141_5)
                                        clear hva_ hvn_ hvc_ ge141_5 ul141_5
                                        have hv141_6 := hcc141 6 _ rfl
                                        rw [add_field _ _ 6 (by omega)] at hv141_6
                                        replace hv141_6 := Option.some.inj (hv141_6.symm.trans hx141_6)
                                        injection hv141_6 with hva_ hvn_ hvc_
                                        rw [hva_] at ge141_6
                                        rw [hvc_] at ul141_6
                                        have HL141_6 := Aside0.mk (show Kd.V Kd.bool 4 _ w.heap.size _ _ ((rd_T52 t138 x113_5).f6) from Kd.V_mk ul141_6 ge141_6)
                                        clear hva_ hvn_ hvc_ ge141_6 ul141_6
                                        have hv141_7 := hcc141 7 _ rfl
                                        rw [add_field _ _ 7 (by omega)] at hv141_7
                                        replace hv141_7 := Option.some.inj (hv141_7.symm.trans hx141_7)
                                        injection hv141_7 with hva_ hvn_ hvc_
                                        rw [hva_] at ge141_7
                                        rw [hvc_] at ul141_7
                                        have HL141_7 := Aside0.mk (show Kd.V k116 116 _ w.heap.size _ _ ((rd_T52 t138 x113_5).f7) from Kd.V_mk ul141_7 ge141_7)
                                        clear hva_ hvn_ hvc_ ge141_7 ul141_7
                                        clear hcc141 hce141
                                        have HR141_3 := Aside0.mk hi141_3
                                        have HC141_3 := Aside0.mk hl141_3
                                        clear hi141_3 hl141_3
                                        have HR141_4 := Aside0.mk hi141_4
                                        have HC141_4 := Aside0.mk hl141_4
                                        clear hi141_4 hl141_4
                                        have HR141_5 := Aside0.mk hi141_5
                                        have HC141_5 := Aside0.mk hl141_5
                                        clear hi141_5 hl141_5
                                        have HR141_6 := Aside0.mk hi141_6
                                        have HC141_6 := Aside0.mk hl141_6
                                        clear hi141_6 hl141_6
                                        have HR141_7 := Aside0.mk hi141_7
                                        have HC141_7 := Aside0.mk hl141_7
                                        clear hi141_7 hl141_7
                                        replace p141 := eq_true p141
                                        replace q141 := eq_true q141
                                        go_wp2_with (first | ((with_reducible refine gate_dst (N := 15) rfl ?_); (try (refine gate_guard (by rfl) ?_; dsimp only)); refine box_event ?hg (N := 15) ?hd (cs := #[.int .i64 0, .string (⟨#[]⟩ : ByteArray), .bool false, .slice none 0 0, .slice none 0 0, .slice none 0 0, .slice none 0 0, .slice none 0 0]) (t := 52) ?hr ?_; (case hd => rfl); (case hg => rfl); (case hr => first | (go_simp; done) | (go_simp; rfl)); intro gb142 hg w49 hbox hb; have n0_ := Aside0.mk (Kd.N_below (Kd.N_elderB (by (with_reducible repeat (first | apply Kd.N_alloc | apply Kd.N_drewN | apply Kd.N_drew)); exact HO_111.out) gb142 (Nat.le_of_eq hg.symm)) hb); have n1_ := Aside0.mk (Kd.V_below (Kd.V_elderB (by (with_reducible repeat (first | apply Kd.V_alloc | apply Kd.V_drewN | apply Kd.V_drew)); exact HL141_3.out) gb142 (Nat.le_of_eq hg.symm)) hb); have n2_ := Aside0.mk (Kd.V_below (Kd.V_elderB (by (with_reducible repeat (first | apply Kd.V_alloc | apply Kd.V_drewN | apply Kd.V_drew)); exact HL141_4.out) gb142 (Nat.le_of_eq hg.symm)) hb); have n3_ := Aside0.mk (Kd.V_below (Kd.V_elderB (by (with_reducible repeat (first | apply Kd.V_alloc | apply Kd.V_drewN | apply Kd.V_drew)); exact HL141_5.out) gb142 (Nat.le_of_eq hg.symm)) hb); have n4_ := Aside0.mk (Kd.V_below (Kd.V_elderB (by (with_reducible repeat (first | apply Kd.V_alloc | apply Kd.V_drewN | apply Kd.V_drew)); exact HL141_6.out) gb142 (Nat.le_of_eq hg.symm)) hb); have n5_ := Aside0.mk (Kd.V_below (Kd.V_elderB (by (with_reducible repeat (first | apply Kd.V_alloc | apply Kd.V_drewN | apply Kd.V_drew)); exact HL141_7.out) gb142 (Nat.le_of_eq hg.symm)) hb); have n6_ := Aside0.mk (blk_below (g := gb128) (o := .cells #[.int .i64 a0_0, .string a0_1, .bool a0_2, .slice A0_3 l0_3.length c0_3, .slice A0_4 l0_4.length c0_4, .slice A0_5 l0_5.length c0_5, .slice A0_6 l0_6.length c0_6, .slice A0_7 l0_7.length c0_7] 52 (0, 0)) (by (with_reducible repeat (first | refine blk_drewN ?_ _ | refine blk_drew ?_ | refine blk_alloc ?_ _)); exact BK128.out) hb); have n7_ := Aside0.mk (Kd.C_below (by repeat (first | (with_reducible exact HR141_3.out) | (with_reducible refine Kd.C_alloc ?_ _) | (with_reducible refine Kd.C_drewN ?_ _) | (with_reducible refine Kd.C_drew ?_) | exact HR141_3.out)) hb); have n8_ := Aside0.mk (Kd.C_below (by repeat (first | (with_reducible exact HR141_4.out) | (with_reducible refine Kd.C_alloc ?_ _) | (with_reducible refine Kd.C_drewN ?_ _) | (with_reducible refine Kd.C_drew ?_) | exact HR141_4.out)) hb); have n9_ := Aside0.mk (Kd.C_below (by repeat (first | (with_reducible exact HR141_5.out) | (with_reducible refine Kd.C_alloc ?_ _) | (with_reducible refine Kd.C_drewN ?_ _) | (with_reducible refine Kd.C_drew ?_) | exact HR141_5.out)) hb); have n10_ := Aside0.mk (Kd.C_below (by repeat (first | (with_reducible exact HR141_6.out) | (with_reducible refine Kd.C_alloc ?_ _) | (with_reducible refine Kd.C_drewN ?_ _) | (with_reducible refine Kd.C_drew ?_) | exact HR141_6.out)) hb); have n11_ := Aside0.mk (Kd.C_below (by repeat (first | (with_reducible exact HR141_7.out) | (with_reducible refine Kd.C_alloc ?_ _) | (with_reducible refine Kd.C_drewN ?_ _) | (with_reducible refine Kd.C_drew ?_) | exact HR141_7.out)) hb); have n12_ := Aside0.mk (below_step (by repeat (first | (with_reducible first | exact HB.out | apply below_alloc | apply pw_below_drewN | apply below_drew1 | refine below_set ?_ GE128.out) | exact HB.out)) hb); have n13_ := Aside0.mk (hbox); have n14_ := Aside0.mk ((by rw [hg]; exact (below_size (by repeat (first | (with_reducible first | exact HB.out | apply below_alloc | apply pw_below_drewN | apply below_drew1 | refine below_set ?_ GE128.out) | exact HB.out))) : w.heap.size ≤ gb142)); have n15_ := Aside0.mk ((by rw [hg]; exact (below_size (by repeat (first | (with_reducible first | exact HB.out | apply below_alloc | apply pw_below_drewN | apply below_drew1 | refine below_set ?_ GE128.out) | exact HB.out))) : w.heap.size ≤ gb142)); have n16_ := Aside0.mk ((by rw [hg]; exact Nat.ne_of_lt (blk_lt (g := gb128) (o := .cells #[.int .i64 a0_0, .string a0_1, .bool a0_2, .slice A0_3 l0_3.length c0_3, .slice A0_4 l0_4.length c0_4, .slice A0_5 l0_5.length c0_5, .slice A0_6 l0_6.length c0_6, .slice A0_7 l0_7.length c0_7] 52 (0, 0)) (by (with_reducible repeat (first | refine blk_drewN ?_ _ | refine blk_drew ?_ | refine blk_alloc ?_ _)); exact BK128.out)) : gb128 ≠ gb142)); have n17_ := Aside0.mk ((by rw [hg]; exact Nat.ne_of_gt (blk_lt (g := gb128) (o := .cells #[.int .i64 a0_0, .string a0_1, .bool a0_2, .slice A0_3 l0_3.length c0_3, .slice A0_4 l0_4.length c0_4, .slice A0_5 l0_5.length c0_5, .slice A0_6 l0_6.length c0_6, .slice A0_7 l0_7.length c0_7] 52 (0, 0)) (by (with_reducible repeat (first | refine blk_drewN ?_ _ | refine blk_drew ?_ | refine blk_alloc ?_ _)); exact BK128.out)) : gb142 ≠ gb128)); clear HO_111; clear HL141_3; clear HL141_4; clear HL141_5; clear HL141_6; clear HL141_7; clear BK128; clear HR141_3; clear HR141_4; clear HR141_5; clear HR141_6; clear HR141_7; clear HB; have HO_111 := n0_; have HL141_3 := n1_; have HL141_4 := n2_; have HL141_5 := n3_; have HL141_6 := n4_; have HL141_7 := n5_; have BK128 := n6_; have HR141_3 := n7_; have HR141_4 := n8_; have HR141_5 := n9_; have HR141_6 := n10_; have HR141_7 := n11_; have HB := n12_; have BK142 := n13_; have GW142 := n14_; have GE142 := n15_; have NB128_142 := n16_; have NB142_128 := n17_; clear n0_ n1_ n2_ n3_ n4_ n5_ n6_ n7_ n8_ n9_ n10_ n11_ n12_ n13_ n14_ n15_ n16_ n17_; clear hb hbox hg; have hnb50 := NB142_128.out; have hnc50 := NB128_142.out; have hcz51_0 : w49.cell? ⟨gb142, 0, none⟩ = some (.int .i64 0) := (blk_cell BK142.out 0).trans rfl; have hcz51_1 : w49.cell? ⟨gb142, 1, none⟩ = some (.string (⟨#[]⟩ : ByteArray)) := (blk_cell BK142.out 1).trans rfl; have hcz51_2 : w49.cell? ⟨gb142, 2, none⟩ = some (.bool false) := (blk_cell BK142.out 2).trans rfl; have hcz51_3 : w49.cell? ⟨gb142, 3, none⟩ = some (.slice none 0 0) := (blk_cell BK142.out 3).trans rfl; have hcz51_4 : w49.cell? ⟨gb142, 4, none⟩ = some (.slice none 0 0) := (blk_cell BK142.out 4).trans rfl; have hcz51_5 : w49.cell? ⟨gb142, 5, none⟩ = some (.slice none 0 0) := (blk_cell BK142.out 5).trans rfl; have hcz51_6 : w49.cell? ⟨gb142, 6, none⟩ = some (.slice none 0 0) := (blk_cell BK142.out 6).trans rfl; have hcz51_7 : w49.cell? ⟨gb142, 7, none⟩ = some (.slice none 0 0) := (blk_cell BK142.out 7).trans rfl; have hfz51_0 := blk_frozen BK142.out 0; have hfz51_1 := blk_frozen BK142.out 1; have hfz51_2 := blk_frozen BK142.out 2; have hfz51_3 := blk_frozen BK142.out 3; have hfz51_4 := blk_frozen BK142.out 4; have hfz51_5 := blk_frozen BK142.out 5; have hfz51_6 := blk_frozen BK142.out 6; have hfz51_7 := blk_frozen BK142.out 7) | ((with_reducible refine gate_callee (f := 24) rfl ?_); refine goesL_ (some 121) rfl rfl Try.func24 (by kernel_rfl) rfl #[.agg #[.int .i64 ((rd_T52 t138 x113_5).f0), .string ((rd_T52 t138 x113_5).f1), .bool ((rd_T52 t138 x113_5).f2), .slice A141_3 ((rd_T52 t138 x113_5).f3).length c141_3, .slice A141_4 ((rd_T52 t138 x113_5).f4).length c141_4, .slice A141_5 ((rd_T52 t138 x113_5).f5).length c141_5, .slice A141_6 ((rd_T52 t138 x113_5).f6).length c141_6, .slice A141_7 ((rd_T52 t138 x113_5).f7).length c141_7], .int .i64 (wrap64 (a1 + 1))] rfl (by (try simp only [List.map_toArray, List.map_cons, List.map_nil]); first | done | rfl | (simp only [List.length_drop, List.length_take]; rfl)) ?_; (with_reducible refine (ih k5 (by have := HJ2.out; have := HK2.out; have := HK3.out; have := HK4.out; have := HK5.out; omega) ((rd_T52 t138 x113_5).f0) ((rd_T52 t138 x113_5).f1) ((rd_T52 t138 x113_5).f2) _ _ ((rd_T52 t138 x113_5).f3) _ _ ((rd_T52 t138 x113_5).f4) _ _ ((rd_T52 t138 x113_5).f5) _ _ ((rd_T52 t138 x113_5).f6) _ _ ((rd_T52 t138 x113_5).f7) (wrap64 (a1 + 1)) t143 _ ?side1 ?side2 ?side3 ?side4 ?side5 ?side6 ?side7 ?side8 ?side9 ?side10 A47.out).mono ?_); (case side1 => repeat (first | exact ((Kd.V_reads' (by (with_reducible repeat (first | apply Kd.V_alloc | apply Kd.V_drewN | apply Kd.V_drew)); exact (Kd.V_mono (Kd.V_far (p := ⟨gb142, 7, none⟩) (Kd.V_far (p := ⟨gb142, 6, none⟩) (Kd.V_far (p := ⟨gb142, 5, none⟩) (Kd.V_far (p := ⟨gb142, 4, none⟩) (Kd.V_far (p := ⟨gb142, 3, none⟩) (Kd.V_far (p := ⟨gb142, 2, none⟩) (Kd.V_far (p := ⟨gb142, 1, none⟩) (Kd.V_far (p := ⟨gb142, 0, none⟩) (Kd.V_mono HL141_3.out (fun k_ hk => (⟨hk, hk.2⟩ : _ ∧ k_ ≠ gb142))) (fun _ hk => hk.2) (.int .i64 ((rd_T52 t138 x113_5).f0))) (fun _ hk => hk.2) (.string ((rd_T52 t138 x113_5).f1))) (fun _ hk => hk.2) (.bool ((rd_T52 t138 x113_5).f2))) (fun _ hk => hk.2) (.slice A141_3 ((rd_T52 t138 x113_5).f3).length c141_3)) (fun _ hk => hk.2) (.slice A141_4 ((rd_T52 t138 x113_5).f4).length c141_4)) (fun _ hk => hk.2) (.slice A141_5 ((rd_T52 t138 x113_5).f5).length c141_5)) (fun _ hk => hk.2) (.slice A141_6 ((rd_T52 t138 x113_5).f6).length c141_6)) (fun _ hk => hk.2) (.slice A141_7 ((rd_T52 t138 x113_5).f7).length c141_7)) (fun _ h_ => h_.1)))).2.2) | (with_reducible refine Kd.C_alloc ?_ _) | (with_reducible refine Kd.C_drewN ?_ _) | (with_reducible refine Kd.C_drew ?_))); (case side2 => exact HC141_3.out); (case side3 => repeat (first | exact ((Kd.V_reads' (by (with_reducible repeat (first | apply Kd.V_alloc | apply Kd.V_drewN | apply Kd.V_drew)); exact (Kd.V_mono (Kd.V_far (p := ⟨gb142, 7, none⟩) (Kd.V_far (p := ⟨gb142, 6, none⟩) (Kd.V_far (p := ⟨gb142, 5, none⟩) (Kd.V_far (p := ⟨gb142, 4, none⟩) (Kd.V_far (p := ⟨gb142, 3, none⟩) (Kd.V_far (p := ⟨gb142, 2, none⟩) (Kd.V_far (p := ⟨gb142, 1, none⟩) (Kd.V_far (p := ⟨gb142, 0, none⟩) (Kd.V_mono HL141_4.out (fun k_ hk => (⟨hk, hk.2⟩ : _ ∧ k_ ≠ gb142))) (fun _ hk => hk.2) (.int .i64 ((rd_T52 t138 x113_5).f0))) (fun _ hk => hk.2) (.string ((rd_T52 t138 x113_5).f1))) (fun _ hk => hk.2) (.bool ((rd_T52 t138 x113_5).f2))) (fun _ hk => hk.2) (.slice A141_3 ((rd_T52 t138 x113_5).f3).length c141_3)) (fun _ hk => hk.2) (.slice A141_4 ((rd_T52 t138 x113_5).f4).length c141_4)) (fun _ hk => hk.2) (.slice A141_5 ((rd_T52 t138 x113_5).f5).length c141_5)) (fun _ hk => hk.2) (.slice A141_6 ((rd_T52 t138 x113_5).f6).length c141_6)) (fun _ hk => hk.2) (.slice A141_7 ((rd_T52 t138 x113_5).f7).length c141_7)) (fun _ h_ => h_.1)))).2.2) | (with_reducible refine Kd.C_alloc ?_ _) | (with_reducible refine Kd.C_drewN ?_ _) | (with_reducible refine Kd.C_drew ?_))); (case side4 => exact HC141_4.out); (case side5 => repeat (first | exact ((Kd.V_reads' (by (with_reducible repeat (first | apply Kd.V_alloc | apply Kd.V_drewN | apply Kd.V_drew)); exact (Kd.V_mono (Kd.V_far (p := ⟨gb142, 7, none⟩) (Kd.V_far (p := ⟨gb142, 6, none⟩) (Kd.V_far (p := ⟨gb142, 5, none⟩) (Kd.V_far (p := ⟨gb142, 4, none⟩) (Kd.V_far (p := ⟨gb142, 3, none⟩) (Kd.V_far (p := ⟨gb142, 2, none⟩) (Kd.V_far (p := ⟨gb142, 1, none⟩) (Kd.V_far (p := ⟨gb142, 0, none⟩) (Kd.V_mono HL141_5.out (fun k_ hk => (⟨hk, hk.2⟩ : _ ∧ k_ ≠ gb142))) (fun _ hk => hk.2) (.int .i64 ((rd_T52 t138 x113_5).f0))) (fun _ hk => hk.2) (.string ((rd_T52 t138 x113_5).f1))) (fun _ hk => hk.2) (.bool ((rd_T52 t138 x113_5).f2))) (fun _ hk => hk.2) (.slice A141_3 ((rd_T52 t138 x113_5).f3).length c141_3)) (fun _ hk => hk.2) (.slice A141_4 ((rd_T52 t138 x113_5).f4).length c141_4)) (fun _ hk => hk.2) (.slice A141_5 ((rd_T52 t138 x113_5).f5).length c141_5)) (fun _ hk => hk.2) (.slice A141_6 ((rd_T52 t138 x113_5).f6).length c141_6)) (fun _ hk => hk.2) (.slice A141_7 ((rd_T52 t138 x113_5).f7).length c141_7)) (fun _ h_ => h_.1)))).2.2) | (with_reducible refine Kd.C_alloc ?_ _) | (with_reducible refine Kd.C_drewN ?_ _) | (with_reducible refine Kd.C_drew ?_))); (case side6 => exact HC141_5.out); (case side7 => repeat (first | exact ((Kd.V_reads' (by (with_reducible repeat (first | apply Kd.V_alloc | apply Kd.V_drewN | apply Kd.V_drew)); exact (Kd.V_mono (Kd.V_far (p := ⟨gb142, 7, none⟩) (Kd.V_far (p := ⟨gb142, 6, none⟩) (Kd.V_far (p := ⟨gb142, 5, none⟩) (Kd.V_far (p := ⟨gb142, 4, none⟩) (Kd.V_far (p := ⟨gb142, 3, none⟩) (Kd.V_far (p := ⟨gb142, 2, none⟩) (Kd.V_far (p := ⟨gb142, 1, none⟩) (Kd.V_far (p := ⟨gb142, 0, none⟩) (Kd.V_mono HL141_6.out (fun k_ hk => (⟨hk, hk.2⟩ : _ ∧ k_ ≠ gb142))) (fun _ hk => hk.2) (.int .i64 ((rd_T52 t138 x113_5).f0))) (fun _ hk => hk.2) (.string ((rd_T52 t138 x113_5).f1))) (fun _ hk => hk.2) (.bool ((rd_T52 t138 x113_5).f2))) (fun _ hk => hk.2) (.slice A141_3 ((rd_T52 t138 x113_5).f3).length c141_3)) (fun _ hk => hk.2) (.slice A141_4 ((rd_T52 t138 x113_5).f4).length c141_4)) (fun _ hk => hk.2) (.slice A141_5 ((rd_T52 t138 x113_5).f5).length c141_5)) (fun _ hk => hk.2) (.slice A141_6 ((rd_T52 t138 x113_5).f6).length c141_6)) (fun _ hk => hk.2) (.slice A141_7 ((rd_T52 t138 x113_5).f7).length c141_7)) (fun _ h_ => h_.1)))).2.2) | (with_reducible refine Kd.C_alloc ?_ _) | (with_reducible refine Kd.C_drewN ?_ _) | (with_reducible refine Kd.C_drew ?_))); (case side8 => exact HC141_6.out); (case side9 => repeat (first | exact ((Kd.V_reads' (by (with_reducible repeat (first | apply Kd.V_alloc | apply Kd.V_drewN | apply Kd.V_drew)); exact (Kd.V_mono (Kd.V_far (p := ⟨gb142, 7, none⟩) (Kd.V_far (p := ⟨gb142, 6, none⟩) (Kd.V_far (p := ⟨gb142, 5, none⟩) (Kd.V_far (p := ⟨gb142, 4, none⟩) (Kd.V_far (p := ⟨gb142, 3, none⟩) (Kd.V_far (p := ⟨gb142, 2, none⟩) (Kd.V_far (p := ⟨gb142, 1, none⟩) (Kd.V_far (p := ⟨gb142, 0, none⟩) (Kd.V_mono HL141_7.out (fun k_ hk => (⟨hk, hk.2⟩ : _ ∧ k_ ≠ gb142))) (fun _ hk => hk.2) (.int .i64 ((rd_T52 t138 x113_5).f0))) (fun _ hk => hk.2) (.string ((rd_T52 t138 x113_5).f1))) (fun _ hk => hk.2) (.bool ((rd_T52 t138 x113_5).f2))) (fun _ hk => hk.2) (.slice A141_3 ((rd_T52 t138 x113_5).f3).length c141_3)) (fun _ hk => hk.2) (.slice A141_4 ((rd_T52 t138 x113_5).f4).length c141_4)) (fun _ hk => hk.2) (.slice A141_5 ((rd_T52 t138 x113_5).f5).length c141_5)) (fun _ hk => hk.2) (.slice A141_6 ((rd_T52 t138 x113_5).f6).length c141_6)) (fun _ hk => hk.2) (.slice A141_7 ((rd_T52 t138 x113_5).f7).length c141_7)) (fun _ h_ => h_.1)))).2.2) | (with_reducible refine Kd.C_alloc ?_ _) | (with_reducible refine Kd.C_drewN ?_ _) | (with_reducible refine Kd.C_drew ?_))); (case side10 => exact HC141_7.out); rintro e w52 ⟨rfl, hb⟩; refine ⟨_, rfl, ?_⟩; have n0_ := Aside0.mk (Kd.N_below (by (with_reducible repeat (first | apply Kd.N_alloc | apply Kd.N_drewN | apply Kd.N_drew)); exact (Kd.N_mono (Kd.N_far (p := ⟨gb142, 7, none⟩) (Kd.N_far (p := ⟨gb142, 6, none⟩) (Kd.N_far (p := ⟨gb142, 5, none⟩) (Kd.N_far (p := ⟨gb142, 4, none⟩) (Kd.N_far (p := ⟨gb142, 3, none⟩) (Kd.N_far (p := ⟨gb142, 2, none⟩) (Kd.N_far (p := ⟨gb142, 1, none⟩) (Kd.N_far (p := ⟨gb142, 0, none⟩) (Kd.N_mono HO_111.out (fun k_ hk => (⟨hk, hk.2⟩ : _ ∧ k_ ≠ gb142))) (fun _ hk => hk.2) (.int .i64 ((rd_T52 t138 x113_5).f0))) (fun _ hk => hk.2) (.string ((rd_T52 t138 x113_5).f1))) (fun _ hk => hk.2) (.bool ((rd_T52 t138 x113_5).f2))) (fun _ hk => hk.2) (.slice A141_3 ((rd_T52 t138 x113_5).f3).length c141_3)) (fun _ hk => hk.2) (.slice A141_4 ((rd_T52 t138 x113_5).f4).length c141_4)) (fun _ hk => hk.2) (.slice A141_5 ((rd_T52 t138 x113_5).f5).length c141_5)) (fun _ hk => hk.2) (.slice A141_6 ((rd_T52 t138 x113_5).f6).length c141_6)) (fun _ hk => hk.2) (.slice A141_7 ((rd_T52 t138 x113_5).f7).length c141_7)) (fun _ h_ => h_.1))) hb); have n1_ := Aside0.mk (Kd.V_below (by (with_reducible repeat (first | apply Kd.V_alloc | apply Kd.V_drewN | apply Kd.V_drew)); exact (Kd.V_mono (Kd.V_far (p := ⟨gb142, 7, none⟩) (Kd.V_far (p := ⟨gb142, 6, none⟩) (Kd.V_far (p := ⟨gb142, 5, none⟩) (Kd.V_far (p := ⟨gb142, 4, none⟩) (Kd.V_far (p := ⟨gb142, 3, none⟩) (Kd.V_far (p := ⟨gb142, 2, none⟩) (Kd.V_far (p := ⟨gb142, 1, none⟩) (Kd.V_far (p := ⟨gb142, 0, none⟩) (Kd.V_mono HL141_3.out (fun k_ hk => (⟨hk, hk.2⟩ : _ ∧ k_ ≠ gb142))) (fun _ hk => hk.2) (.int .i64 ((rd_T52 t138 x113_5).f0))) (fun _ hk => hk.2) (.string ((rd_T52 t138 x113_5).f1))) (fun _ hk => hk.2) (.bool ((rd_T52 t138 x113_5).f2))) (fun _ hk => hk.2) (.slice A141_3 ((rd_T52 t138 x113_5).f3).length c141_3)) (fun _ hk => hk.2) (.slice A141_4 ((rd_T52 t138 x113_5).f4).length c141_4)) (fun _ hk => hk.2) (.slice A141_5 ((rd_T52 t138 x113_5).f5).length c141_5)) (fun _ hk => hk.2) (.slice A141_6 ((rd_T52 t138 x113_5).f6).length c141_6)) (fun _ hk => hk.2) (.slice A141_7 ((rd_T52 t138 x113_5).f7).length c141_7)) (fun _ h_ => h_.1))) hb); have n2_ := Aside0.mk (Kd.V_below (by (with_reducible repeat (first | apply Kd.V_alloc | apply Kd.V_drewN | apply Kd.V_drew)); exact (Kd.V_mono (Kd.V_far (p := ⟨gb142, 7, none⟩) (Kd.V_far (p := ⟨gb142, 6, none⟩) (Kd.V_far (p := ⟨gb142, 5, none⟩) (Kd.V_far (p := ⟨gb142, 4, none⟩) (Kd.V_far (p := ⟨gb142, 3, none⟩) (Kd.V_far (p := ⟨gb142, 2, none⟩) (Kd.V_far (p := ⟨gb142, 1, none⟩) (Kd.V_far (p := ⟨gb142, 0, none⟩) (Kd.V_mono HL141_4.out (fun k_ hk => (⟨hk, hk.2⟩ : _ ∧ k_ ≠ gb142))) (fun _ hk => hk.2) (.int .i64 ((rd_T52 t138 x113_5).f0))) (fun _ hk => hk.2) (.string ((rd_T52 t138 x113_5).f1))) (fun _ hk => hk.2) (.bool ((rd_T52 t138 x113_5).f2))) (fun _ hk => hk.2) (.slice A141_3 ((rd_T52 t138 x113_5).f3).length c141_3)) (fun _ hk => hk.2) (.slice A141_4 ((rd_T52 t138 x113_5).f4).length c141_4)) (fun _ hk => hk.2) (.slice A141_5 ((rd_T52 t138 x113_5).f5).length c141_5)) (fun _ hk => hk.2) (.slice A141_6 ((rd_T52 t138 x113_5).f6).length c141_6)) (fun _ hk => hk.2) (.slice A141_7 ((rd_T52 t138 x113_5).f7).length c141_7)) (fun _ h_ => h_.1))) hb); have n3_ := Aside0.mk (Kd.V_below (by (with_reducible repeat (first | apply Kd.V_alloc | apply Kd.V_drewN | apply Kd.V_drew)); exact (Kd.V_mono (Kd.V_far (p := ⟨gb142, 7, none⟩) (Kd.V_far (p := ⟨gb142, 6, none⟩) (Kd.V_far (p := ⟨gb142, 5, none⟩) (Kd.V_far (p := ⟨gb142, 4, none⟩) (Kd.V_far (p := ⟨gb142, 3, none⟩) (Kd.V_far (p := ⟨gb142, 2, none⟩) (Kd.V_far (p := ⟨gb142, 1, none⟩) (Kd.V_far (p := ⟨gb142, 0, none⟩) (Kd.V_mono HL141_5.out (fun k_ hk => (⟨hk, hk.2⟩ : _ ∧ k_ ≠ gb142))) (fun _ hk => hk.2) (.int .i64 ((rd_T52 t138 x113_5).f0))) (fun _ hk => hk.2) (.string ((rd_T52 t138 x113_5).f1))) (fun _ hk => hk.2) (.bool ((rd_T52 t138 x113_5).f2))) (fun _ hk => hk.2) (.slice A141_3 ((rd_T52 t138 x113_5).f3).length c141_3)) (fun _ hk => hk.2) (.slice A141_4 ((rd_T52 t138 x113_5).f4).length c141_4)) (fun _ hk => hk.2) (.slice A141_5 ((rd_T52 t138 x113_5).f5).length c141_5)) (fun _ hk => hk.2) (.slice A141_6 ((rd_T52 t138 x113_5).f6).length c141_6)) (fun _ hk => hk.2) (.slice A141_7 ((rd_T52 t138 x113_5).f7).length c141_7)) (fun _ h_ => h_.1))) hb); have n4_ := Aside0.mk (Kd.V_below (by (with_reducible repeat (first | apply Kd.V_alloc | apply Kd.V_drewN | apply Kd.V_drew)); exact (Kd.V_mono (Kd.V_far (p := ⟨gb142, 7, none⟩) (Kd.V_far (p := ⟨gb142, 6, none⟩) (Kd.V_far (p := ⟨gb142, 5, none⟩) (Kd.V_far (p := ⟨gb142, 4, none⟩) (Kd.V_far (p := ⟨gb142, 3, none⟩) (Kd.V_far (p := ⟨gb142, 2, none⟩) (Kd.V_far (p := ⟨gb142, 1, none⟩) (Kd.V_far (p := ⟨gb142, 0, none⟩) (Kd.V_mono HL141_6.out (fun k_ hk => (⟨hk, hk.2⟩ : _ ∧ k_ ≠ gb142))) (fun _ hk => hk.2) (.int .i64 ((rd_T52 t138 x113_5).f0))) (fun _ hk => hk.2) (.string ((rd_T52 t138 x113_5).f1))) (fun _ hk => hk.2) (.bool ((rd_T52 t138 x113_5).f2))) (fun _ hk => hk.2) (.slice A141_3 ((rd_T52 t138 x113_5).f3).length c141_3)) (fun _ hk => hk.2) (.slice A141_4 ((rd_T52 t138 x113_5).f4).length c141_4)) (fun _ hk => hk.2) (.slice A141_5 ((rd_T52 t138 x113_5).f5).length c141_5)) (fun _ hk => hk.2) (.slice A141_6 ((rd_T52 t138 x113_5).f6).length c141_6)) (fun _ hk => hk.2) (.slice A141_7 ((rd_T52 t138 x113_5).f7).length c141_7)) (fun _ h_ => h_.1))) hb); have n5_ := Aside0.mk (Kd.V_below (by (with_reducible repeat (first | apply Kd.V_alloc | apply Kd.V_drewN | apply Kd.V_drew)); exact (Kd.V_mono (Kd.V_far (p := ⟨gb142, 7, none⟩) (Kd.V_far (p := ⟨gb142, 6, none⟩) (Kd.V_far (p := ⟨gb142, 5, none⟩) (Kd.V_far (p := ⟨gb142, 4, none⟩) (Kd.V_far (p := ⟨gb142, 3, none⟩) (Kd.V_far (p := ⟨gb142, 2, none⟩) (Kd.V_far (p := ⟨gb142, 1, none⟩) (Kd.V_far (p := ⟨gb142, 0, none⟩) (Kd.V_mono HL141_7.out (fun k_ hk => (⟨hk, hk.2⟩ : _ ∧ k_ ≠ gb142))) (fun _ hk => hk.2) (.int .i64 ((rd_T52 t138 x113_5).f0))) (fun _ hk => hk.2) (.string ((rd_T52 t138 x113_5).f1))) (fun _ hk => hk.2) (.bool ((rd_T52 t138 x113_5).f2))) (fun _ hk => hk.2) (.slice A141_3 ((rd_T52 t138 x113_5).f3).length c141_3)) (fun _ hk => hk.2) (.slice A141_4 ((rd_T52 t138 x113_5).f4).length c141_4)) (fun _ hk => hk.2) (.slice A141_5 ((rd_T52 t138 x113_5).f5).length c141_5)) (fun _ hk => hk.2) (.slice A141_6 ((rd_T52 t138 x113_5).f6).length c141_6)) (fun _ hk => hk.2) (.slice A141_7 ((rd_T52 t138 x113_5).f7).length c141_7)) (fun _ h_ => h_.1))) hb); have n6_ := Aside0.mk (blk_below (g := gb128) (o := .cells #[.int .i64 a0_0, .string a0_1, .bool a0_2, .slice A0_3 l0_3.length c0_3, .slice A0_4 l0_4.length c0_4, .slice A0_5 l0_5.length c0_5, .slice A0_6 l0_6.length c0_6, .slice A0_7 l0_7.length c0_7] 52 (0, 0)) (by (with_reducible repeat (first | refine blk_drewN ?_ _ | refine blk_drew ?_ | refine blk_alloc ?_ _)); refine blk_far ?_ NB128_142.out _; (with_reducible repeat (first | refine blk_drewN ?_ _ | refine blk_drew ?_ | refine blk_alloc ?_ _)); refine blk_far ?_ NB128_142.out _; (with_reducible repeat (first | refine blk_drewN ?_ _ | refine blk_drew ?_ | refine blk_alloc ?_ _)); refine blk_far ?_ NB128_142.out _; (with_reducible repeat (first | refine blk_drewN ?_ _ | refine blk_drew ?_ | refine blk_alloc ?_ _)); refine blk_far ?_ NB128_142.out _; (with_reducible repeat (first | refine blk_drewN ?_ _ | refine blk_drew ?_ | refine blk_alloc ?_ _)); refine blk_far ?_ NB128_142.out _; (with_reducible repeat (first | refine blk_drewN ?_ _ | refine blk_drew ?_ | refine blk_alloc ?_ _)); refine blk_far ?_ NB128_142.out _; (with_reducible repeat (first | refine blk_drewN ?_ _ | refine blk_drew ?_ | refine blk_alloc ?_ _)); refine blk_far ?_ NB128_142.out _; (with_reducible repeat (first | refine blk_drewN ?_ _ | refine blk_drew ?_ | refine blk_alloc ?_ _)); refine blk_far ?_ NB128_142.out _; (with_reducible repeat (first | refine blk_drewN ?_ _ | refine blk_drew ?_ | refine blk_alloc ?_ _)); exact BK128.out) hb); have n7_ := Aside0.mk (Kd.C_below ((Kd.V_reads' (by (with_reducible repeat (first | apply Kd.V_alloc | apply Kd.V_drewN | apply Kd.V_drew)); exact (Kd.V_mono (Kd.V_far (p := ⟨gb142, 7, none⟩) (Kd.V_far (p := ⟨gb142, 6, none⟩) (Kd.V_far (p := ⟨gb142, 5, none⟩) (Kd.V_far (p := ⟨gb142, 4, none⟩) (Kd.V_far (p := ⟨gb142, 3, none⟩) (Kd.V_far (p := ⟨gb142, 2, none⟩) (Kd.V_far (p := ⟨gb142, 1, none⟩) (Kd.V_far (p := ⟨gb142, 0, none⟩) (Kd.V_mono HL141_3.out (fun k_ hk => (⟨hk, hk.2⟩ : _ ∧ k_ ≠ gb142))) (fun _ hk => hk.2) (.int .i64 ((rd_T52 t138 x113_5).f0))) (fun _ hk => hk.2) (.string ((rd_T52 t138 x113_5).f1))) (fun _ hk => hk.2) (.bool ((rd_T52 t138 x113_5).f2))) (fun _ hk => hk.2) (.slice A141_3 ((rd_T52 t138 x113_5).f3).length c141_3)) (fun _ hk => hk.2) (.slice A141_4 ((rd_T52 t138 x113_5).f4).length c141_4)) (fun _ hk => hk.2) (.slice A141_5 ((rd_T52 t138 x113_5).f5).length c141_5)) (fun _ hk => hk.2) (.slice A141_6 ((rd_T52 t138 x113_5).f6).length c141_6)) (fun _ hk => hk.2) (.slice A141_7 ((rd_T52 t138 x113_5).f7).length c141_7)) (fun _ h_ => h_.1)))).2.2) hb); have n8_ := Aside0.mk (Kd.C_below ((Kd.V_reads' (by (with_reducible repeat (first | apply Kd.V_alloc | apply Kd.V_drewN | apply Kd.V_drew)); exact (Kd.V_mono (Kd.V_far (p := ⟨gb142, 7, none⟩) (Kd.V_far (p := ⟨gb142, 6, none⟩) (Kd.V_far (p := ⟨gb142, 5, none⟩) (Kd.V_far (p := ⟨gb142, 4, none⟩) (Kd.V_far (p := ⟨gb142, 3, none⟩) (Kd.V_far (p := ⟨gb142, 2, none⟩) (Kd.V_far (p := ⟨gb142, 1, none⟩) (Kd.V_far (p := ⟨gb142, 0, none⟩) (Kd.V_mono HL141_4.out (fun k_ hk => (⟨hk, hk.2⟩ : _ ∧ k_ ≠ gb142))) (fun _ hk => hk.2) (.int .i64 ((rd_T52 t138 x113_5).f0))) (fun _ hk => hk.2) (.string ((rd_T52 t138 x113_5).f1))) (fun _ hk => hk.2) (.bool ((rd_T52 t138 x113_5).f2))) (fun _ hk => hk.2) (.slice A141_3 ((rd_T52 t138 x113_5).f3).length c141_3)) (fun _ hk => hk.2) (.slice A141_4 ((rd_T52 t138 x113_5).f4).length c141_4)) (fun _ hk => hk.2) (.slice A141_5 ((rd_T52 t138 x113_5).f5).length c141_5)) (fun _ hk => hk.2) (.slice A141_6 ((rd_T52 t138 x113_5).f6).length c141_6)) (fun _ hk => hk.2) (.slice A141_7 ((rd_T52 t138 x113_5).f7).length c141_7)) (fun _ h_ => h_.1)))).2.2) hb); have n9_ := Aside0.mk (Kd.C_below ((Kd.V_reads' (by (with_reducible repeat (first | apply Kd.V_alloc | apply Kd.V_drewN | apply Kd.V_drew)); exact (Kd.V_mono (Kd.V_far (p := ⟨gb142, 7, none⟩) (Kd.V_far (p := ⟨gb142, 6, none⟩) (Kd.V_far (p := ⟨gb142, 5, none⟩) (Kd.V_far (p := ⟨gb142, 4, none⟩) (Kd.V_far (p := ⟨gb142, 3, none⟩) (Kd.V_far (p := ⟨gb142, 2, none⟩) (Kd.V_far (p := ⟨gb142, 1, none⟩) (Kd.V_far (p := ⟨gb142, 0, none⟩) (Kd.V_mono HL141_5.out (fun k_ hk => (⟨hk, hk.2⟩ : _ ∧ k_ ≠ gb142))) (fun _ hk => hk.2) (.int .i64 ((rd_T52 t138 x113_5).f0))) (fun _ hk => hk.2) (.string ((rd_T52 t138 x113_5).f1))) (fun _ hk => hk.2) (.bool ((rd_T52 t138 x113_5).f2))) (fun _ hk => hk.2) (.slice A141_3 ((rd_T52 t138 x113_5).f3).length c141_3)) (fun _ hk => hk.2) (.slice A141_4 ((rd_T52 t138 x113_5).f4).length c141_4)) (fun _ hk => hk.2) (.slice A141_5 ((rd_T52 t138 x113_5).f5).length c141_5)) (fun _ hk => hk.2) (.slice A141_6 ((rd_T52 t138 x113_5).f6).length c141_6)) (fun _ hk => hk.2) (.slice A141_7 ((rd_T52 t138 x113_5).f7).length c141_7)) (fun _ h_ => h_.1)))).2.2) hb); have n10_ := Aside0.mk (Kd.C_below ((Kd.V_reads' (by (with_reducible repeat (first | apply Kd.V_alloc | apply Kd.V_drewN | apply Kd.V_drew)); exact (Kd.V_mono (Kd.V_far (p := ⟨gb142, 7, none⟩) (Kd.V_far (p := ⟨gb142, 6, none⟩) (Kd.V_far (p := ⟨gb142, 5, none⟩) (Kd.V_far (p := ⟨gb142, 4, none⟩) (Kd.V_far (p := ⟨gb142, 3, none⟩) (Kd.V_far (p := ⟨gb142, 2, none⟩) (Kd.V_far (p := ⟨gb142, 1, none⟩) (Kd.V_far (p := ⟨gb142, 0, none⟩) (Kd.V_mono HL141_6.out (fun k_ hk => (⟨hk, hk.2⟩ : _ ∧ k_ ≠ gb142))) (fun _ hk => hk.2) (.int .i64 ((rd_T52 t138 x113_5).f0))) (fun _ hk => hk.2) (.string ((rd_T52 t138 x113_5).f1))) (fun _ hk => hk.2) (.bool ((rd_T52 t138 x113_5).f2))) (fun _ hk => hk.2) (.slice A141_3 ((rd_T52 t138 x113_5).f3).length c141_3)) (fun _ hk => hk.2) (.slice A141_4 ((rd_T52 t138 x113_5).f4).length c141_4)) (fun _ hk => hk.2) (.slice A141_5 ((rd_T52 t138 x113_5).f5).length c141_5)) (fun _ hk => hk.2) (.slice A141_6 ((rd_T52 t138 x113_5).f6).length c141_6)) (fun _ hk => hk.2) (.slice A141_7 ((rd_T52 t138 x113_5).f7).length c141_7)) (fun _ h_ => h_.1)))).2.2) hb); have n11_ := Aside0.mk (Kd.C_below ((Kd.V_reads' (by (with_reducible repeat (first | apply Kd.V_alloc | apply Kd.V_drewN | apply Kd.V_drew)); exact (Kd.V_mono (Kd.V_far (p := ⟨gb142, 7, none⟩) (Kd.V_far (p := ⟨gb142, 6, none⟩) (Kd.V_far (p := ⟨gb142, 5, none⟩) (Kd.V_far (p := ⟨gb142, 4, none⟩) (Kd.V_far (p := ⟨gb142, 3, none⟩) (Kd.V_far (p := ⟨gb142, 2, none⟩) (Kd.V_far (p := ⟨gb142, 1, none⟩) (Kd.V_far (p := ⟨gb142, 0, none⟩) (Kd.V_mono HL141_7.out (fun k_ hk => (⟨hk, hk.2⟩ : _ ∧ k_ ≠ gb142))) (fun _ hk => hk.2) (.int .i64 ((rd_T52 t138 x113_5).f0))) (fun _ hk => hk.2) (.string ((rd_T52 t138 x113_5).f1))) (fun _ hk => hk.2) (.bool ((rd_T52 t138 x113_5).f2))) (fun _ hk => hk.2) (.slice A141_3 ((rd_T52 t138 x113_5).f3).length c141_3)) (fun _ hk => hk.2) (.slice A141_4 ((rd_T52 t138 x113_5).f4).length c141_4)) (fun _ hk => hk.2) (.slice A141_5 ((rd_T52 t138 x113_5).f5).length c141_5)) (fun _ hk => hk.2) (.slice A141_6 ((rd_T52 t138 x113_5).f6).length c141_6)) (fun _ hk => hk.2) (.slice A141_7 ((rd_T52 t138 x113_5).f7).length c141_7)) (fun _ h_ => h_.1)))).2.2) hb); have n12_ := Aside0.mk (blk_below (g := gb142) (o := .cells #[.int .i64 ((rd_T52 t138 x113_5).f0), .string ((rd_T52 t138 x113_5).f1), .bool ((rd_T52 t138 x113_5).f2), .slice A141_3 ((rd_T52 t138 x113_5).f3).length c141_3, .slice A141_4 ((rd_T52 t138 x113_5).f4).length c141_4, .slice A141_5 ((rd_T52 t138 x113_5).f5).length c141_5, .slice A141_6 ((rd_T52 t138 x113_5).f6).length c141_6, .slice A141_7 ((rd_T52 t138 x113_5).f7).length c141_7] 52 (0, 0)) (by (with_reducible repeat (first | refine blk_drewN ?_ _ | refine blk_drew ?_ | refine blk_alloc ?_ _)); refine blk_put (cs := #[.int .i64 ((rd_T52 t138 x113_5).f0), .string ((rd_T52 t138 x113_5).f1), .bool ((rd_T52 t138 x113_5).f2), .slice A141_3 ((rd_T52 t138 x113_5).f3).length c141_3, .slice A141_4 ((rd_T52 t138 x113_5).f4).length c141_4, .slice A141_5 ((rd_T52 t138 x113_5).f5).length c141_5, .slice A141_6 ((rd_T52 t138 x113_5).f6).length c141_6, .slice none 0 0]) ?_ 7 _ rfl; (with_reducible repeat (first | refine blk_drewN ?_ _ | refine blk_drew ?_ | refine blk_alloc ?_ _)); refine blk_put (cs := #[.int .i64 ((rd_T52 t138 x113_5).f0), .string ((rd_T52 t138 x113_5).f1), .bool ((rd_T52 t138 x113_5).f2), .slice A141_3 ((rd_T52 t138 x113_5).f3).length c141_3, .slice A141_4 ((rd_T52 t138 x113_5).f4).length c141_4, .slice A141_5 ((rd_T52 t138 x113_5).f5).length c141_5, .slice none 0 0, .slice none 0 0]) ?_ 6 _ rfl; (with_reducible repeat (first | refine blk_drewN ?_ _ | refine blk_drew ?_ | refine blk_alloc ?_ _)); refine blk_put (cs := #[.int .i64 ((rd_T52 t138 x113_5).f0), .string ((rd_T52 t138 x113_5).f1), .bool ((rd_T52 t138 x113_5).f2), .slice A141_3 ((rd_T52 t138 x113_5).f3).length c141_3, .slice A141_4 ((rd_T52 t138 x113_5).f4).length c141_4, .slice none 0 0, .slice none 0 0, .slice none 0 0]) ?_ 5 _ rfl; (with_reducible repeat (first | refine blk_drewN ?_ _ | refine blk_drew ?_ | refine blk_alloc ?_ _)); refine blk_put (cs := #[.int .i64 ((rd_T52 t138 x113_5).f0), .string ((rd_T52 t138 x113_5).f1), .bool ((rd_T52 t138 x113_5).f2), .slice A141_3 ((rd_T52 t138 x113_5).f3).length c141_3, .slice none 0 0, .slice none 0 0, .slice none 0 0, .slice none 0 0]) ?_ 4 _ rfl; (with_reducible repeat (first | refine blk_drewN ?_ _ | refine blk_drew ?_ | refine blk_alloc ?_ _)); refine blk_put (cs := #[.int .i64 ((rd_T52 t138 x113_5).f0), .string ((rd_T52 t138 x113_5).f1), .bool ((rd_T52 t138 x113_5).f2), .slice none 0 0, .slice none 0 0, .slice none 0 0, .slice none 0 0, .slice none 0 0]) ?_ 3 _ rfl; (with_reducible repeat (first | refine blk_drewN ?_ _ | refine blk_drew ?_ | refine blk_alloc ?_ _)); refine blk_put (cs := #[.int .i64 ((rd_T52 t138 x113_5).f0), .string ((rd_T52 t138 x113_5).f1), .bool false, .slice none 0 0, .slice none 0 0, .slice none 0 0, .slice none 0 0, .slice none 0 0]) ?_ 2 _ rfl; (with_reducible repeat (first | refine blk_drewN ?_ _ | refine blk_drew ?_ | refine blk_alloc ?_ _)); refine blk_put (cs := #[.int .i64 ((rd_T52 t138 x113_5).f0), .string (⟨#[]⟩ : ByteArray), .bool false, .slice none 0 0, .slice none 0 0, .slice none 0 0, .slice none 0 0, .slice none 0 0]) ?_ 1 _ rfl; (with_reducible repeat (first | refine blk_drewN ?_ _ | refine blk_drew ?_ | refine blk_alloc ?_ _)); refine blk_put (cs := #[.int .i64 0, .string (⟨#[]⟩ : ByteArray), .bool false, .slice none 0 0, .slice none 0 0, .slice none 0 0, .slice none 0 0, .slice none 0 0]) ?_ 0 _ rfl; (with_reducible repeat (first | refine blk_drewN ?_ _ | refine blk_drew ?_ | refine blk_alloc ?_ _)); exact BK142.out) hb); have n13_ := Aside0.mk (below_step (by repeat (first | (with_reducible first | exact HB.out | apply below_alloc | apply pw_below_drewN | apply below_drew1 | refine below_set ?_ GE128.out | refine below_set ?_ GE142.out) | exact HB.out)) hb); clear HO_111; clear HL141_3; clear HL141_4; clear HL141_5; clear HL141_6; clear HL141_7; clear BK128; clear HR141_3; clear HR141_4; clear HR141_5; clear HR141_6; clear HR141_7; clear BK142; clear HB; have HO_111 := n0_; have HL141_3 := n1_; have HL141_4 := n2_; have HL141_5 := n3_; have HL141_6 := n4_; have HL141_7 := n5_; have BK128 := n6_; have HR141_3 := n7_; have HR141_4 := n8_; have HR141_5 := n9_; have HR141_6 := n10_; have HR141_7 := n11_; have BK142 := n12_; have HB := n13_; clear n0_ n1_ n2_ n3_ n4_ n5_ n6_ n7_ n8_ n9_ n10_ n11_ n12_ n13_; (try clear hb); (try clear hb2); (try clear hk); (try clear hi)))
                                        go_ret
                                        exact ⟨by first | rfl | (simp [errW_none, errW_some] <;> rfl) | (simp [*, errW_none, errW_some] <;> rfl), by repeat (first | (with_reducible first | exact HB.out | apply below_alloc | apply pw_below_drewN | apply below_drew1 | refine below_set ?_ GE128.out | refine below_set ?_ GE142.out) | exact HB.out)⟩
                                      · rw [if_neg c48] at H
                                        have c48b0 : decide (20000 < (wrap64 (x5_5 + t143))) = false := decide_eq_false c48
                                        clear c48
                                        have H' := Aside0.mk H
                                        clear H
                                        have p141 : 0 ≤ (x113_5 : Int) := of_decide_eq_true (by first | (with_reducible assumption) | assumption)
                                        have q141 : x113_5 < (t138.length : Int) := of_decide_eq_true (by first | (with_reducible assumption) | assumption)
                                        obtain ⟨ad141, A141_3, c141_3, A141_4, c141_4, A141_5, c141_5, A141_6, c141_6, A141_7, c141_7, e141, hx141_0, hx141_1, hx141_2, hx141_3, hx141_4, hx141_5, hx141_6, hx141_7, hl141_3, hi141_3, hl141_4, hi141_4, hl141_5, hi141_5, hl141_6, hi141_6, hl141_7, hi141_7⟩ := at_T52 (Kd.N_reads' HO_111.out).2.2 x113_5 p141 q141
                                        cases e141
                                        obtain ⟨ce141, hce141, hMe141, hcc141⟩ := Kd.N_get HO_111.out z52 x113_5 p141 (by first | exact q141 | exact of_decide_eq_true (by first | (with_reducible assumption) | assumption) | (have e_ := (Kd.N_reads' HO_111.out).1; omega))
                                        obtain ⟨ua141_3, uc141_3, ua141_4, uc141_4, ua141_5, uc141_5, ua141_6, uc141_6, ua141_7, uc141_7, rfl, ul141_3, ge141_3, ul141_4, ge141_4, ul141_5, ge141_5, ul141_6, ge141_6, ul141_7, ge141_7⟩ := k52_openF hMe141
                                        have hv141_3 := hcc141 3 _ rfl
                                        rw [add_field _ _ 3 (by omega)] at hv141_3
                                        replace hv141_3 := Option.some.inj (hv141_3.symm.trans hx141_3)
                                        injection hv141_3 with hva_ hvn_ hvc_
                                        rw [hva_] at ge141_3
                                        rw [hvc_] at ul141_3
                                        have HL141_3 := Aside0.mk (show Kd.V k114 114 _ w.heap.size _ _ ((rd_T52 t138 x113_5).f3) from Kd.V_mk ul141_3 ge141_3)
                                        clear hva_ hvn_ hvc_ ge141_3 ul141_3
                                        have hv141_4 := hcc141 4 _ rfl
                                        rw [add_field _ _ 4 (by omega)] at hv141_4
                                        replace hv141_4 := Option.some.inj (hv141_4.symm.trans hx141_4)
                                        injection hv141_4 with hva_ hvn_ hvc_
                                        rw [hva_] at ge141_4
                                        rw [hvc_] at ul141_4
                                        have HL141_4 := Aside0.mk (show Kd.V (Kd.slice 154 k154) 111 _ w.heap.size _ _ ((rd_T52 t138 x113_5).f4) from Kd.V_mk ul141_4 ge141_4)
                                        clear hva_ hvn_ hvc_ ge141_4 ul141_4
                                        have hv141_5 := hcc141 5 _ rfl
                                        rw [add_field _ _ 5 (by omega)] at hv141_5
                                        replace hv141_5 := Option.some.inj (hv141_5.symm.trans hx141_5)
                                        injection hv141_5 with hva_ hvn_ hvc_
                                        rw [hva_] at ge141_5
                                        rw [hvc_] at ul141_5
                                        have HL141_5 := Aside0.mk (show Kd.V k52 52 _ w.heap.size _ _ ((rd_T52 t138 x113_5).f5) from Kd.V_mk ul141_5 ge141_5)
                                        clear hva_ hvn_ hvc_ ge141_5 ul141_5
                                        have hv141_6 := hcc141 6 _ rfl
                                        rw [add_field _ _ 6 (by omega)] at hv141_6
                                        replace hv141_6 := Option.some.inj (hv141_6.symm.trans hx141_6)
                                        injection hv141_6 with hva_ hvn_ hvc_
                                        rw [hva_] at ge141_6
                                        rw [hvc_] at ul141_6
                                        have HL141_6 := Aside0.mk (show Kd.V Kd.bool 4 _ w.heap.size _ _ ((rd_T52 t138 x113_5).f6) from Kd.V_mk ul141_6 ge141_6)
                                        clear hva_ hvn_ hvc_ ge141_6 ul141_6
                                        have hv141_7 := hcc141 7 _ rfl
                                        rw [add_field _ _ 7 (by omega)] at hv141_7
                                        replace hv141_7 := Option.some.inj (hv141_7.symm.trans hx141_7)
                                        injection hv141_7 with hva_ hvn_ hvc_
                                        rw [hva_] at ge141_7
                                        rw [hvc_] at ul141_7
                                        have HL141_7 := Aside0.mk (show Kd.V k116 116 _ w.heap.size _ _ ((rd_T52 t138 x113_5).f7) from Kd.V_mk ul141_7 ge141_7)
                                        clear hva_ hvn_ hvc_ ge141_7 ul141_7
                                        clear hcc141 hce141
                                        have HR141_3 := Aside0.mk hi141_3
                                        have HC141_3 := Aside0.mk hl141_3
                                        clear hi141_3 hl141_3
                                        have HR141_4 := Aside0.mk hi141_4
                                        have HC141_4 := Aside0.mk hl141_4
                                        clear hi141_4 hl141_4
                                        have HR141_5 := Aside0.mk hi141_5
                                        have HC141_5 := Aside0.mk hl141_5
                                        clear hi141_5 hl141_5
                                        have HR141_6 := Aside0.mk hi141_6
                                        have HC141_6 := Aside0.mk hl141_6
                                        clear hi141_6 hl141_6
                                        have HR141_7 := Aside0.mk hi141_7
                                        have HC141_7 := Aside0.mk hl141_7
                                        clear hi141_7 hl141_7
                                        replace p141 := eq_true p141
                                        replace q141 := eq_true q141
                                        go_wp2_with (first | ((with_reducible refine gate_dst (N := 15) rfl ?_); (try (refine gate_guard (by rfl) ?_; dsimp only)); refine box_event ?hg (N := 15) ?hd (cs := #[.int .i64 0, .string (⟨#[]⟩ : ByteArray), .bool false, .slice none 0 0, .slice none 0 0, .slice none 0 0, .slice none 0 0, .slice none 0 0]) (t := 52) ?hr ?_; (case hd => rfl); (case hg => rfl); (case hr => first | (go_simp; done) | (go_simp; rfl)); intro gb142 hg w53 hbox hb; have n0_ := Aside0.mk (Kd.N_below (Kd.N_elderB (by (with_reducible repeat (first | apply Kd.N_alloc | apply Kd.N_drewN | apply Kd.N_drew)); exact HO_111.out) gb142 (Nat.le_of_eq hg.symm)) hb); have n1_ := Aside0.mk (Kd.V_below (Kd.V_elderB (by (with_reducible repeat (first | apply Kd.V_alloc | apply Kd.V_drewN | apply Kd.V_drew)); exact HL141_3.out) gb142 (Nat.le_of_eq hg.symm)) hb); have n2_ := Aside0.mk (Kd.V_below (Kd.V_elderB (by (with_reducible repeat (first | apply Kd.V_alloc | apply Kd.V_drewN | apply Kd.V_drew)); exact HL141_4.out) gb142 (Nat.le_of_eq hg.symm)) hb); have n3_ := Aside0.mk (Kd.V_below (Kd.V_elderB (by (with_reducible repeat (first | apply Kd.V_alloc | apply Kd.V_drewN | apply Kd.V_drew)); exact HL141_5.out) gb142 (Nat.le_of_eq hg.symm)) hb); have n4_ := Aside0.mk (Kd.V_below (Kd.V_elderB (by (with_reducible repeat (first | apply Kd.V_alloc | apply Kd.V_drewN | apply Kd.V_drew)); exact HL141_6.out) gb142 (Nat.le_of_eq hg.symm)) hb); have n5_ := Aside0.mk (Kd.V_below (Kd.V_elderB (by (with_reducible repeat (first | apply Kd.V_alloc | apply Kd.V_drewN | apply Kd.V_drew)); exact HL141_7.out) gb142 (Nat.le_of_eq hg.symm)) hb); have n6_ := Aside0.mk (blk_below (g := gb128) (o := .cells #[.int .i64 a0_0, .string a0_1, .bool a0_2, .slice A0_3 l0_3.length c0_3, .slice A0_4 l0_4.length c0_4, .slice A0_5 l0_5.length c0_5, .slice A0_6 l0_6.length c0_6, .slice A0_7 l0_7.length c0_7] 52 (0, 0)) (by (with_reducible repeat (first | refine blk_drewN ?_ _ | refine blk_drew ?_ | refine blk_alloc ?_ _)); exact BK128.out) hb); have n7_ := Aside0.mk (Kd.C_below (by repeat (first | (with_reducible exact HR141_3.out) | (with_reducible refine Kd.C_alloc ?_ _) | (with_reducible refine Kd.C_drewN ?_ _) | (with_reducible refine Kd.C_drew ?_) | exact HR141_3.out)) hb); have n8_ := Aside0.mk (Kd.C_below (by repeat (first | (with_reducible exact HR141_4.out) | (with_reducible refine Kd.C_alloc ?_ _) | (with_reducible refine Kd.C_drewN ?_ _) | (with_reducible refine Kd.C_drew ?_) | exact HR141_4.out)) hb); have n9_ := Aside0.mk (Kd.C_below (by repeat (first | (with_reducible exact HR141_5.out) | (with_reducible refine Kd.C_alloc ?_ _) | (with_reducible refine Kd.C_drewN ?_ _) | (with_reducible refine Kd.C_drew ?_) | exact HR141_5.out)) hb); have n10_ := Aside0.mk (Kd.C_below (by repeat (first | (with_reducible exact HR141_6.out) | (with_reducible refine Kd.C_alloc ?_ _) | (with_reducible refine Kd.C_drewN ?_ _) | (with_reducible refine Kd.C_drew ?_) | exact HR141_6.out)) hb); have n11_ := Aside0.mk (Kd.C_below (by repeat (first | (with_reducible exact HR141_7.out) | (with_reducible refine Kd.C_alloc ?_ _) | (with_reducible refine Kd.C_drewN ?_ _) | (with_reducible refine Kd.C_drew ?_) | exact HR141_7.out)) hb); have n12_ := Aside0.mk (below_step (by repeat (first | (with_reducible first | exact HB.out | apply below_alloc | apply pw_below_drewN | apply below_drew1 | refine below_set ?_ GE128.out) | exact HB.out)) hb); have n13_ := Aside0.mk (hbox); have n14_ := Aside0.mk ((by rw [hg]; exact (below_size (by repeat (first | (with_reducible first | exact HB.out | apply below_alloc | apply pw_below_drewN | apply below_drew1 | refine below_set ?_ GE128.out) | exact HB.out))) : w.heap.size ≤ gb142)); have n15_ := Aside0.mk ((by rw [hg]; exact (below_size (by repeat (first | (with_reducible first | exact HB.out | apply below_alloc | apply pw_below_drewN | apply below_drew1 | refine below_set ?_ GE128.out) | exact HB.out))) : w.heap.size ≤ gb142)); have n16_ := Aside0.mk ((by rw [hg]; exact Nat.ne_of_lt (blk_lt (g := gb128) (o := .cells #[.int .i64 a0_0, .string a0_1, .bool a0_2, .slice A0_3 l0_3.length c0_3, .slice A0_4 l0_4.length c0_4, .slice A0_5 l0_5.length c0_5, .slice A0_6 l0_6.length c0_6, .slice A0_7 l0_7.length c0_7] 52 (0, 0)) (by (with_reducible repeat (first | refine blk_drewN ?_ _ | refine blk_drew ?_ | refine blk_alloc ?_ _)); exact BK128.out)) : gb128 ≠ gb142)); have n17_ := Aside0.mk ((by rw [hg]; exact Nat.ne_of_gt (blk_lt (g := gb128) (o := .cells #[.int .i64 a0_0, .string a0_1, .bool a0_2, .slice A0_3 l0_3.length c0_3, .slice A0_4 l0_4.length c0_4, .slice A0_5 l0_5.length c0_5, .slice A0_6 l0_6.length c0_6, .slice A0_7 l0_7.length c0_7] 52 (0, 0)) (by (with_reducible repeat (first | refine blk_drewN ?_ _ | refine blk_drew ?_ | refine blk_alloc ?_ _)); exact BK128.out)) : gb142 ≠ gb128)); clear HO_111; clear HL141_3; clear HL141_4; clear HL141_5; clear HL141_6; clear HL141_7; clear BK128; clear HR141_3; clear HR141_4; clear HR141_5; clear HR141_6; clear HR141_7; clear HB; have HO_111 := n0_; have HL141_3 := n1_; have HL141_4 := n2_; have HL141_5 := n3_; have HL141_6 := n4_; have HL141_7 := n5_; have BK128 := n6_; have HR141_3 := n7_; have HR141_4 := n8_; have HR141_5 := n9_; have HR141_6 := n10_; have HR141_7 := n11_; have HB := n12_; have BK142 := n13_; have GW142 := n14_; have GE142 := n15_; have NB128_142 := n16_; have NB142_128 := n17_; clear n0_ n1_ n2_ n3_ n4_ n5_ n6_ n7_ n8_ n9_ n10_ n11_ n12_ n13_ n14_ n15_ n16_ n17_; clear hb hbox hg; have hnb54 := NB142_128.out; have hnc54 := NB128_142.out; have hcz55_0 : w53.cell? ⟨gb142, 0, none⟩ = some (.int .i64 0) := (blk_cell BK142.out 0).trans rfl; have hcz55_1 : w53.cell? ⟨gb142, 1, none⟩ = some (.string (⟨#[]⟩ : ByteArray)) := (blk_cell BK142.out 1).trans rfl; have hcz55_2 : w53.cell? ⟨gb142, 2, none⟩ = some (.bool false) := (blk_cell BK142.out 2).trans rfl; have hcz55_3 : w53.cell? ⟨gb142, 3, none⟩ = some (.slice none 0 0) := (blk_cell BK142.out 3).trans rfl; have hcz55_4 : w53.cell? ⟨gb142, 4, none⟩ = some (.slice none 0 0) := (blk_cell BK142.out 4).trans rfl; have hcz55_5 : w53.cell? ⟨gb142, 5, none⟩ = some (.slice none 0 0) := (blk_cell BK142.out 5).trans rfl; have hcz55_6 : w53.cell? ⟨gb142, 6, none⟩ = some (.slice none 0 0) := (blk_cell BK142.out 6).trans rfl; have hcz55_7 : w53.cell? ⟨gb142, 7, none⟩ = some (.slice none 0 0) := (blk_cell BK142.out 7).trans rfl; have hfz55_0 := blk_frozen BK142.out 0; have hfz55_1 := blk_frozen BK142.out 1; have hfz55_2 := blk_frozen BK142.out 2; have hfz55_3 := blk_frozen BK142.out 3; have hfz55_4 := blk_frozen BK142.out 4; have hfz55_5 := blk_frozen BK142.out 5; have hfz55_6 := blk_frozen BK142.out 6; have hfz55_7 := blk_frozen BK142.out 7) | ((with_reducible refine gate_callee (f := 24) rfl ?_); refine goesL_ (some 121) rfl rfl Try.func24 (by kernel_rfl) rfl #[.agg #[.int .i64 ((rd_T52 t138 x113_5).f0), .string ((rd_T52 t138 x113_5).f1), .bool ((rd_T52 t138 x113_5).f2), .slice A141_3 ((rd_T52 t138 x113_5).f3).length c141_3, .slice A141_4 ((rd_T52 t138 x113_5).f4).length c141_4, .slice A141_5 ((rd_T52 t138 x113_5).f5).length c141_5, .slice A141_6 ((rd_T52 t138 x113_5).f6).length c141_6, .slice A141_7 ((rd_T52 t138 x113_5).f7).length c141_7], .int .i64 (wrap64 (a1 + 1))] rfl (by (try simp only [List.map_toArray, List.map_cons, List.map_nil]); first | done | rfl | (simp only [List.length_drop, List.length_take]; rfl)) ?_; (with_reducible refine (ih k5 (by have := HJ2.out; have := HK2.out; have := HK3.out; have := HK4.out; have := HK5.out; omega) ((rd_T52 t138 x113_5).f0) ((rd_T52 t138 x113_5).f1) ((rd_T52 t138 x113_5).f2) _ _ ((rd_T52 t138 x113_5).f3) _ _ ((rd_T52 t138 x113_5).f4) _ _ ((rd_T52 t138 x113_5).f5) _ _ ((rd_T52 t138 x113_5).f6) _ _ ((rd_T52 t138 x113_5).f7) (wrap64 (a1 + 1)) t143 _ ?side1 ?side2 ?side3 ?side4 ?side5 ?side6 ?side7 ?side8 ?side9 ?side10 A47.out).mono ?_); (case side1 => repeat (first | exact ((Kd.V_reads' (by (with_reducible repeat (first | apply Kd.V_alloc | apply Kd.V_drewN | apply Kd.V_drew)); exact (Kd.V_mono (Kd.V_far (p := ⟨gb142, 7, none⟩) (Kd.V_far (p := ⟨gb142, 6, none⟩) (Kd.V_far (p := ⟨gb142, 5, none⟩) (Kd.V_far (p := ⟨gb142, 4, none⟩) (Kd.V_far (p := ⟨gb142, 3, none⟩) (Kd.V_far (p := ⟨gb142, 2, none⟩) (Kd.V_far (p := ⟨gb142, 1, none⟩) (Kd.V_far (p := ⟨gb142, 0, none⟩) (Kd.V_mono HL141_3.out (fun k_ hk => (⟨hk, hk.2⟩ : _ ∧ k_ ≠ gb142))) (fun _ hk => hk.2) (.int .i64 ((rd_T52 t138 x113_5).f0))) (fun _ hk => hk.2) (.string ((rd_T52 t138 x113_5).f1))) (fun _ hk => hk.2) (.bool ((rd_T52 t138 x113_5).f2))) (fun _ hk => hk.2) (.slice A141_3 ((rd_T52 t138 x113_5).f3).length c141_3)) (fun _ hk => hk.2) (.slice A141_4 ((rd_T52 t138 x113_5).f4).length c141_4)) (fun _ hk => hk.2) (.slice A141_5 ((rd_T52 t138 x113_5).f5).length c141_5)) (fun _ hk => hk.2) (.slice A141_6 ((rd_T52 t138 x113_5).f6).length c141_6)) (fun _ hk => hk.2) (.slice A141_7 ((rd_T52 t138 x113_5).f7).length c141_7)) (fun _ h_ => h_.1)))).2.2) | (with_reducible refine Kd.C_alloc ?_ _) | (with_reducible refine Kd.C_drewN ?_ _) | (with_reducible refine Kd.C_drew ?_))); (case side2 => exact HC141_3.out); (case side3 => repeat (first | exact ((Kd.V_reads' (by (with_reducible repeat (first | apply Kd.V_alloc | apply Kd.V_drewN | apply Kd.V_drew)); exact (Kd.V_mono (Kd.V_far (p := ⟨gb142, 7, none⟩) (Kd.V_far (p := ⟨gb142, 6, none⟩) (Kd.V_far (p := ⟨gb142, 5, none⟩) (Kd.V_far (p := ⟨gb142, 4, none⟩) (Kd.V_far (p := ⟨gb142, 3, none⟩) (Kd.V_far (p := ⟨gb142, 2, none⟩) (Kd.V_far (p := ⟨gb142, 1, none⟩) (Kd.V_far (p := ⟨gb142, 0, none⟩) (Kd.V_mono HL141_4.out (fun k_ hk => (⟨hk, hk.2⟩ : _ ∧ k_ ≠ gb142))) (fun _ hk => hk.2) (.int .i64 ((rd_T52 t138 x113_5).f0))) (fun _ hk => hk.2) (.string ((rd_T52 t138 x113_5).f1))) (fun _ hk => hk.2) (.bool ((rd_T52 t138 x113_5).f2))) (fun _ hk => hk.2) (.slice A141_3 ((rd_T52 t138 x113_5).f3).length c141_3)) (fun _ hk => hk.2) (.slice A141_4 ((rd_T52 t138 x113_5).f4).length c141_4)) (fun _ hk => hk.2) (.slice A141_5 ((rd_T52 t138 x113_5).f5).length c141_5)) (fun _ hk => hk.2) (.slice A141_6 ((rd_T52 t138 x113_5).f6).length c141_6)) (fun _ hk => hk.2) (.slice A141_7 ((rd_T52 t138 x113_5).f7).length c141_7)) (fun _ h_ => h_.1)))).2.2) | (with_reducible refine Kd.C_alloc ?_ _) | (with_reducible refine Kd.C_drewN ?_ _) | (with_reducible refine Kd.C_drew ?_))); (case side4 => exact HC141_4.out); (case side5 => repeat (first | exact ((Kd.V_reads' (by (with_reducible repeat (first | apply Kd.V_alloc | apply Kd.V_drewN | apply Kd.V_drew)); exact (Kd.V_mono (Kd.V_far (p := ⟨gb142, 7, none⟩) (Kd.V_far (p := ⟨gb142, 6, none⟩) (Kd.V_far (p := ⟨gb142, 5, none⟩) (Kd.V_far (p := ⟨gb142, 4, none⟩) (Kd.V_far (p := ⟨gb142, 3, none⟩) (Kd.V_far (p := ⟨gb142, 2, none⟩) (Kd.V_far (p := ⟨gb142, 1, none⟩) (Kd.V_far (p := ⟨gb142, 0, none⟩) (Kd.V_mono HL141_5.out (fun k_ hk => (⟨hk, hk.2⟩ : _ ∧ k_ ≠ gb142))) (fun _ hk => hk.2) (.int .i64 ((rd_T52 t138 x113_5).f0))) (fun _ hk => hk.2) (.string ((rd_T52 t138 x113_5).f1))) (fun _ hk => hk.2) (.bool ((rd_T52 t138 x113_5).f2))) (fun _ hk => hk.2) (.slice A141_3 ((rd_T52 t138 x113_5).f3).length c141_3)) (fun _ hk => hk.2) (.slice A141_4 ((rd_T52 t138 x113_5).f4).length c141_4)) (fun _ hk => hk.2) (.slice A141_5 ((rd_T52 t138 x113_5).f5).length c141_5)) (fun _ hk => hk.2) (.slice A141_6 ((rd_T52 t138 x113_5).f6).length c141_6)) (fun _ hk => hk.2) (.slice A141_7 ((rd_T52 t138 x113_5).f7).length c141_7)) (fun _ h_ => h_.1)))).2.2) | (with_reducible refine Kd.C_alloc ?_ _) | (with_reducible refine Kd.C_drewN ?_ _) | (with_reducible refine Kd.C_drew ?_))); (case side6 => exact HC141_5.out); (case side7 => repeat (first | exact ((Kd.V_reads' (by (with_reducible repeat (first | apply Kd.V_alloc | apply Kd.V_drewN | apply Kd.V_drew)); exact (Kd.V_mono (Kd.V_far (p := ⟨gb142, 7, none⟩) (Kd.V_far (p := ⟨gb142, 6, none⟩) (Kd.V_far (p := ⟨gb142, 5, none⟩) (Kd.V_far (p := ⟨gb142, 4, none⟩) (Kd.V_far (p := ⟨gb142, 3, none⟩) (Kd.V_far (p := ⟨gb142, 2, none⟩) (Kd.V_far (p := ⟨gb142, 1, none⟩) (Kd.V_far (p := ⟨gb142, 0, none⟩) (Kd.V_mono HL141_6.out (fun k_ hk => (⟨hk, hk.2⟩ : _ ∧ k_ ≠ gb142))) (fun _ hk => hk.2) (.int .i64 ((rd_T52 t138 x113_5).f0))) (fun _ hk => hk.2) (.string ((rd_T52 t138 x113_5).f1))) (fun _ hk => hk.2) (.bool ((rd_T52 t138 x113_5).f2))) (fun _ hk => hk.2) (.slice A141_3 ((rd_T52 t138 x113_5).f3).length c141_3)) (fun _ hk => hk.2) (.slice A141_4 ((rd_T52 t138 x113_5).f4).length c141_4)) (fun _ hk => hk.2) (.slice A141_5 ((rd_T52 t138 x113_5).f5).length c141_5)) (fun _ hk => hk.2) (.slice A141_6 ((rd_T52 t138 x113_5).f6).length c141_6)) (fun _ hk => hk.2) (.slice A141_7 ((rd_T52 t138 x113_5).f7).length c141_7)) (fun _ h_ => h_.1)))).2.2) | (with_reducible refine Kd.C_alloc ?_ _) | (with_reducible refine Kd.C_drewN ?_ _) | (with_reducible refine Kd.C_drew ?_))); (case side8 => exact HC141_6.out); (case side9 => repeat (first | exact ((Kd.V_reads' (by (with_reducible repeat (first | apply Kd.V_alloc | apply Kd.V_drewN | apply Kd.V_drew)); exact (Kd.V_mono (Kd.V_far (p := ⟨gb142, 7, none⟩) (Kd.V_far (p := ⟨gb142, 6, none⟩) (Kd.V_far (p := ⟨gb142, 5, none⟩) (Kd.V_far (p := ⟨gb142, 4, none⟩) (Kd.V_far (p := ⟨gb142, 3, none⟩) (Kd.V_far (p := ⟨gb142, 2, none⟩) (Kd.V_far (p := ⟨gb142, 1, none⟩) (Kd.V_far (p := ⟨gb142, 0, none⟩) (Kd.V_mono HL141_7.out (fun k_ hk => (⟨hk, hk.2⟩ : _ ∧ k_ ≠ gb142))) (fun _ hk => hk.2) (.int .i64 ((rd_T52 t138 x113_5).f0))) (fun _ hk => hk.2) (.string ((rd_T52 t138 x113_5).f1))) (fun _ hk => hk.2) (.bool ((rd_T52 t138 x113_5).f2))) (fun _ hk => hk.2) (.slice A141_3 ((rd_T52 t138 x113_5).f3).length c141_3)) (fun _ hk => hk.2) (.slice A141_4 ((rd_T52 t138 x113_5).f4).length c141_4)) (fun _ hk => hk.2) (.slice A141_5 ((rd_T52 t138 x113_5).f5).length c141_5)) (fun _ hk => hk.2) (.slice A141_6 ((rd_T52 t138 x113_5).f6).length c141_6)) (fun _ hk => hk.2) (.slice A141_7 ((rd_T52 t138 x113_5).f7).length c141_7)) (fun _ h_ => h_.1)))).2.2) | (with_reducible refine Kd.C_alloc ?_ _) | (with_reducible refine Kd.C_drewN ?_ _) | (with_reducible refine Kd.C_drew ?_))); (case side10 => exact HC141_7.out); rintro e w56 ⟨rfl, hb⟩; refine ⟨_, rfl, ?_⟩; have n0_ := Aside0.mk (Kd.N_below (by (with_reducible repeat (first | apply Kd.N_alloc | apply Kd.N_drewN | apply Kd.N_drew)); exact (Kd.N_mono (Kd.N_far (p := ⟨gb142, 7, none⟩) (Kd.N_far (p := ⟨gb142, 6, none⟩) (Kd.N_far (p := ⟨gb142, 5, none⟩) (Kd.N_far (p := ⟨gb142, 4, none⟩) (Kd.N_far (p := ⟨gb142, 3, none⟩) (Kd.N_far (p := ⟨gb142, 2, none⟩) (Kd.N_far (p := ⟨gb142, 1, none⟩) (Kd.N_far (p := ⟨gb142, 0, none⟩) (Kd.N_mono HO_111.out (fun k_ hk => (⟨hk, hk.2⟩ : _ ∧ k_ ≠ gb142))) (fun _ hk => hk.2) (.int .i64 ((rd_T52 t138 x113_5).f0))) (fun _ hk => hk.2) (.string ((rd_T52 t138 x113_5).f1))) (fun _ hk => hk.2) (.bool ((rd_T52 t138 x113_5).f2))) (fun _ hk => hk.2) (.slice A141_3 ((rd_T52 t138 x113_5).f3).length c141_3)) (fun _ hk => hk.2) (.slice A141_4 ((rd_T52 t138 x113_5).f4).length c141_4)) (fun _ hk => hk.2) (.slice A141_5 ((rd_T52 t138 x113_5).f5).length c141_5)) (fun _ hk => hk.2) (.slice A141_6 ((rd_T52 t138 x113_5).f6).length c141_6)) (fun _ hk => hk.2) (.slice A141_7 ((rd_T52 t138 x113_5).f7).length c141_7)) (fun _ h_ => h_.1))) hb); have n1_ := Aside0.mk (Kd.V_below (by (with_reducible repeat (first | apply Kd.V_alloc | apply Kd.V_drewN | apply Kd.V_drew)); exact (Kd.V_mono (Kd.V_far (p := ⟨gb142, 7, none⟩) (Kd.V_far (p := ⟨gb142, 6, none⟩) (Kd.V_far (p := ⟨gb142, 5, none⟩) (Kd.V_far (p := ⟨gb142, 4, none⟩) (Kd.V_far (p := ⟨gb142, 3, none⟩) (Kd.V_far (p := ⟨gb142, 2, none⟩) (Kd.V_far (p := ⟨gb142, 1, none⟩) (Kd.V_far (p := ⟨gb142, 0, none⟩) (Kd.V_mono HL141_3.out (fun k_ hk => (⟨hk, hk.2⟩ : _ ∧ k_ ≠ gb142))) (fun _ hk => hk.2) (.int .i64 ((rd_T52 t138 x113_5).f0))) (fun _ hk => hk.2) (.string ((rd_T52 t138 x113_5).f1))) (fun _ hk => hk.2) (.bool ((rd_T52 t138 x113_5).f2))) (fun _ hk => hk.2) (.slice A141_3 ((rd_T52 t138 x113_5).f3).length c141_3)) (fun _ hk => hk.2) (.slice A141_4 ((rd_T52 t138 x113_5).f4).length c141_4)) (fun _ hk => hk.2) (.slice A141_5 ((rd_T52 t138 x113_5).f5).length c141_5)) (fun _ hk => hk.2) (.slice A141_6 ((rd_T52 t138 x113_5).f6).length c141_6)) (fun _ hk => hk.2) (.slice A141_7 ((rd_T52 t138 x113_5).f7).length c141_7)) (fun _ h_ => h_.1))) hb); have n2_ := Aside0.mk (Kd.V_below (by (with_reducible repeat (first | apply Kd.V_alloc | apply Kd.V_drewN | apply Kd.V_drew)); exact (Kd.V_mono (Kd.V_far (p := ⟨gb142, 7, none⟩) (Kd.V_far (p := ⟨gb142, 6, none⟩) (Kd.V_far (p := ⟨gb142, 5, none⟩) (Kd.V_far (p := ⟨gb142, 4, none⟩) (Kd.V_far (p := ⟨gb142, 3, none⟩) (Kd.V_far (p := ⟨gb142, 2, none⟩) (Kd.V_far (p := ⟨gb142, 1, none⟩) (Kd.V_far (p := ⟨gb142, 0, none⟩) (Kd.V_mono HL141_4.out (fun k_ hk => (⟨hk, hk.2⟩ : _ ∧ k_ ≠ gb142))) (fun _ hk => hk.2) (.int .i64 ((rd_T52 t138 x113_5).f0))) (fun _ hk => hk.2) (.string ((rd_T52 t138 x113_5).f1))) (fun _ hk => hk.2) (.bool ((rd_T52 t138 x113_5).f2))) (fun _ hk => hk.2) (.slice A141_3 ((rd_T52 t138 x113_5).f3).length c141_3)) (fun _ hk => hk.2) (.slice A141_4 ((rd_T52 t138 x113_5).f4).length c141_4)) (fun _ hk => hk.2) (.slice A141_5 ((rd_T52 t138 x113_5).f5).length c141_5)) (fun _ hk => hk.2) (.slice A141_6 ((rd_T52 t138 x113_5).f6).length c141_6)) (fun _ hk => hk.2) (.slice A141_7 ((rd_T52 t138 x113_5).f7).length c141_7)) (fun _ h_ => h_.1))) hb); have n3_ := Aside0.mk (Kd.V_below (by (with_reducible repeat (first | apply Kd.V_alloc | apply Kd.V_drewN | apply Kd.V_drew)); exact (Kd.V_mono (Kd.V_far (p := ⟨gb142, 7, none⟩) (Kd.V_far (p := ⟨gb142, 6, none⟩) (Kd.V_far (p := ⟨gb142, 5, none⟩) (Kd.V_far (p := ⟨gb142, 4, none⟩) (Kd.V_far (p := ⟨gb142, 3, none⟩) (Kd.V_far (p := ⟨gb142, 2, none⟩) (Kd.V_far (p := ⟨gb142, 1, none⟩) (Kd.V_far (p := ⟨gb142, 0, none⟩) (Kd.V_mono HL141_5.out (fun k_ hk => (⟨hk, hk.2⟩ : _ ∧ k_ ≠ gb142))) (fun _ hk => hk.2) (.int .i64 ((rd_T52 t138 x113_5).f0))) (fun _ hk => hk.2) (.string ((rd_T52 t138 x113_5).f1))) (fun _ hk => hk.2) (.bool ((rd_T52 t138 x113_5).f2))) (fun _ hk => hk.2) (.slice A141_3 ((rd_T52 t138 x113_5).f3).length c141_3)) (fun _ hk => hk.2) (.slice A141_4 ((rd_T52 t138 x113_5).f4).length c141_4)) (fun _ hk => hk.2) (.slice A141_5 ((rd_T52 t138 x113_5).f5).length c141_5)) (fun _ hk => hk.2) (.slice A141_6 ((rd_T52 t138 x113_5).f6).length c141_6)) (fun _ hk => hk.2) (.slice A141_7 ((rd_T52 t138 x113_5).f7).length c141_7)) (fun _ h_ => h_.1))) hb); have n4_ := Aside0.mk (Kd.V_below (by (with_reducible repeat (first | apply Kd.V_alloc | apply Kd.V_drewN | apply Kd.V_drew)); exact (Kd.V_mono (Kd.V_far (p := ⟨gb142, 7, none⟩) (Kd.V_far (p := ⟨gb142, 6, none⟩) (Kd.V_far (p := ⟨gb142, 5, none⟩) (Kd.V_far (p := ⟨gb142, 4, none⟩) (Kd.V_far (p := ⟨gb142, 3, none⟩) (Kd.V_far (p := ⟨gb142, 2, none⟩) (Kd.V_far (p := ⟨gb142, 1, none⟩) (Kd.V_far (p := ⟨gb142, 0, none⟩) (Kd.V_mono HL141_6.out (fun k_ hk => (⟨hk, hk.2⟩ : _ ∧ k_ ≠ gb142))) (fun _ hk => hk.2) (.int .i64 ((rd_T52 t138 x113_5).f0))) (fun _ hk => hk.2) (.string ((rd_T52 t138 x113_5).f1))) (fun _ hk => hk.2) (.bool ((rd_T52 t138 x113_5).f2))) (fun _ hk => hk.2) (.slice A141_3 ((rd_T52 t138 x113_5).f3).length c141_3)) (fun _ hk => hk.2) (.slice A141_4 ((rd_T52 t138 x113_5).f4).length c141_4)) (fun _ hk => hk.2) (.slice A141_5 ((rd_T52 t138 x113_5).f5).length c141_5)) (fun _ hk => hk.2) (.slice A141_6 ((rd_T52 t138 x113_5).f6).length c141_6)) (fun _ hk => hk.2) (.slice A141_7 ((rd_T52 t138 x113_5).f7).length c141_7)) (fun _ h_ => h_.1))) hb); have n5_ := Aside0.mk (Kd.V_below (by (with_reducible repeat (first | apply Kd.V_alloc | apply Kd.V_drewN | apply Kd.V_drew)); exact (Kd.V_mono (Kd.V_far (p := ⟨gb142, 7, none⟩) (Kd.V_far (p := ⟨gb142, 6, none⟩) (Kd.V_far (p := ⟨gb142, 5, none⟩) (Kd.V_far (p := ⟨gb142, 4, none⟩) (Kd.V_far (p := ⟨gb142, 3, none⟩) (Kd.V_far (p := ⟨gb142, 2, none⟩) (Kd.V_far (p := ⟨gb142, 1, none⟩) (Kd.V_far (p := ⟨gb142, 0, none⟩) (Kd.V_mono HL141_7.out (fun k_ hk => (⟨hk, hk.2⟩ : _ ∧ k_ ≠ gb142))) (fun _ hk => hk.2) (.int .i64 ((rd_T52 t138 x113_5).f0))) (fun _ hk => hk.2) (.string ((rd_T52 t138 x113_5).f1))) (fun _ hk => hk.2) (.bool ((rd_T52 t138 x113_5).f2))) (fun _ hk => hk.2) (.slice A141_3 ((rd_T52 t138 x113_5).f3).length c141_3)) (fun _ hk => hk.2) (.slice A141_4 ((rd_T52 t138 x113_5).f4).length c141_4)) (fun _ hk => hk.2) (.slice A141_5 ((rd_T52 t138 x113_5).f5).length c141_5)) (fun _ hk => hk.2) (.slice A141_6 ((rd_T52 t138 x113_5).f6).length c141_6)) (fun _ hk => hk.2) (.slice A141_7 ((rd_T52 t138 x113_5).f7).length c141_7)) (fun _ h_ => h_.1))) hb); have n6_ := Aside0.mk (blk_below (g := gb128) (o := .cells #[.int .i64 a0_0, .string a0_1, .bool a0_2, .slice A0_3 l0_3.length c0_3, .slice A0_4 l0_4.length c0_4, .slice A0_5 l0_5.length c0_5, .slice A0_6 l0_6.length c0_6, .slice A0_7 l0_7.length c0_7] 52 (0, 0)) (by (with_reducible repeat (first | refine blk_drewN ?_ _ | refine blk_drew ?_ | refine blk_alloc ?_ _)); refine blk_far ?_ NB128_142.out _; (with_reducible repeat (first | refine blk_drewN ?_ _ | refine blk_drew ?_ | refine blk_alloc ?_ _)); refine blk_far ?_ NB128_142.out _; (with_reducible repeat (first | refine blk_drewN ?_ _ | refine blk_drew ?_ | refine blk_alloc ?_ _)); refine blk_far ?_ NB128_142.out _; (with_reducible repeat (first | refine blk_drewN ?_ _ | refine blk_drew ?_ | refine blk_alloc ?_ _)); refine blk_far ?_ NB128_142.out _; (with_reducible repeat (first | refine blk_drewN ?_ _ | refine blk_drew ?_ | refine blk_alloc ?_ _)); refine blk_far ?_ NB128_142.out _; (with_reducible repeat (first | refine blk_drewN ?_ _ | refine blk_drew ?_ | refine blk_alloc ?_ _)); refine blk_far ?_ NB128_142.out _; (with_reducible repeat (first | refine blk_drewN ?_ _ | refine blk_drew ?_ | refine blk_alloc ?_ _)); refine blk_far ?_ NB128_142.out _; (with_reducible repeat (first | refine blk_drewN ?_ _ | refine blk_drew ?_ | refine blk_alloc ?_ _)); refine blk_far ?_ NB128_142.out _; (with_reducible repeat (first | refine blk_drewN ?_ _ | refine blk_drew ?_ | refine blk_alloc ?_ _)); exact BK128.out) hb); have n7_ := Aside0.mk (Kd.C_below ((Kd.V_reads' (by (with_reducible repeat (first | apply Kd.V_alloc | apply Kd.V_drewN | apply Kd.V_drew)); exact (Kd.V_mono (Kd.V_far (p := ⟨gb142, 7, none⟩) (Kd.V_far (p := ⟨gb142, 6, none⟩) (Kd.V_far (p := ⟨gb142, 5, none⟩) (Kd.V_far (p := ⟨gb142, 4, none⟩) (Kd.V_far (p := ⟨gb142, 3, none⟩) (Kd.V_far (p := ⟨gb142, 2, none⟩) (Kd.V_far (p := ⟨gb142, 1, none⟩) (Kd.V_far (p := ⟨gb142, 0, none⟩) (Kd.V_mono HL141_3.out (fun k_ hk => (⟨hk, hk.2⟩ : _ ∧ k_ ≠ gb142))) (fun _ hk => hk.2) (.int .i64 ((rd_T52 t138 x113_5).f0))) (fun _ hk => hk.2) (.string ((rd_T52 t138 x113_5).f1))) (fun _ hk => hk.2) (.bool ((rd_T52 t138 x113_5).f2))) (fun _ hk => hk.2) (.slice A141_3 ((rd_T52 t138 x113_5).f3).length c141_3)) (fun _ hk => hk.2) (.slice A141_4 ((rd_T52 t138 x113_5).f4).length c141_4)) (fun _ hk => hk.2) (.slice A141_5 ((rd_T52 t138 x113_5).f5).length c141_5)) (fun _ hk => hk.2) (.slice A141_6 ((rd_T52 t138 x113_5).f6).length c141_6)) (fun _ hk => hk.2) (.slice A141_7 ((rd_T52 t138 x113_5).f7).length c141_7)) (fun _ h_ => h_.1)))).2.2) hb); have n8_ := Aside0.mk (Kd.C_below ((Kd.V_reads' (by (with_reducible repeat (first | apply Kd.V_alloc | apply Kd.V_drewN | apply Kd.V_drew)); exact (Kd.V_mono (Kd.V_far (p := ⟨gb142, 7, none⟩) (Kd.V_far (p := ⟨gb142, 6, none⟩) (Kd.V_far (p := ⟨gb142, 5, none⟩) (Kd.V_far (p := ⟨gb142, 4, none⟩) (Kd.V_far (p := ⟨gb142, 3, none⟩) (Kd.V_far (p := ⟨gb142, 2, none⟩) (Kd.V_far (p := ⟨gb142, 1, none⟩) (Kd.V_far (p := ⟨gb142, 0, none⟩) (Kd.V_mono HL141_4.out (fun k_ hk => (⟨hk, hk.2⟩ : _ ∧ k_ ≠ gb142))) (fun _ hk => hk.2) (.int .i64 ((rd_T52 t138 x113_5).f0))) (fun _ hk => hk.2) (.string ((rd_T52 t138 x113_5).f1))) (fun _ hk => hk.2) (.bool ((rd_T52 t138 x113_5).f2))) (fun _ hk => hk.2) (.slice A141_3 ((rd_T52 t138 x113_5).f3).length c141_3)) (fun _ hk => hk.2) (.slice A141_4 ((rd_T52 t138 x113_5).f4).length c141_4)) (fun _ hk => hk.2) (.slice A141_5 ((rd_T52 t138 x113_5).f5).length c141_5)) (fun _ hk => hk.2) (.slice A141_6 ((rd_T52 t138 x113_5).f6).length c141_6)) (fun _ hk => hk.2) (.slice A141_7 ((rd_T52 t138 x113_5).f7).length c141_7)) (fun _ h_ => h_.1)))).2.2) hb); have n9_ := Aside0.mk (Kd.C_below ((Kd.V_reads' (by (with_reducible repeat (first | apply Kd.V_alloc | apply Kd.V_drewN | apply Kd.V_drew)); exact (Kd.V_mono (Kd.V_far (p := ⟨gb142, 7, none⟩) (Kd.V_far (p := ⟨gb142, 6, none⟩) (Kd.V_far (p := ⟨gb142, 5, none⟩) (Kd.V_far (p := ⟨gb142, 4, none⟩) (Kd.V_far (p := ⟨gb142, 3, none⟩) (Kd.V_far (p := ⟨gb142, 2, none⟩) (Kd.V_far (p := ⟨gb142, 1, none⟩) (Kd.V_far (p := ⟨gb142, 0, none⟩) (Kd.V_mono HL141_5.out (fun k_ hk => (⟨hk, hk.2⟩ : _ ∧ k_ ≠ gb142))) (fun _ hk => hk.2) (.int .i64 ((rd_T52 t138 x113_5).f0))) (fun _ hk => hk.2) (.string ((rd_T52 t138 x113_5).f1))) (fun _ hk => hk.2) (.bool ((rd_T52 t138 x113_5).f2))) (fun _ hk => hk.2) (.slice A141_3 ((rd_T52 t138 x113_5).f3).length c141_3)) (fun _ hk => hk.2) (.slice A141_4 ((rd_T52 t138 x113_5).f4).length c141_4)) (fun _ hk => hk.2) (.slice A141_5 ((rd_T52 t138 x113_5).f5).length c141_5)) (fun _ hk => hk.2) (.slice A141_6 ((rd_T52 t138 x113_5).f6).length c141_6)) (fun _ hk => hk.2) (.slice A141_7 ((rd_T52 t138 x113_5).f7).length c141_7)) (fun _ h_ => h_.1)))).2.2) hb); have n10_ := Aside0.mk (Kd.C_below ((Kd.V_reads' (by (with_reducible repeat (first | apply Kd.V_alloc | apply Kd.V_drewN | apply Kd.V_drew)); exact (Kd.V_mono (Kd.V_far (p := ⟨gb142, 7, none⟩) (Kd.V_far (p := ⟨gb142, 6, none⟩) (Kd.V_far (p := ⟨gb142, 5, none⟩) (Kd.V_far (p := ⟨gb142, 4, none⟩) (Kd.V_far (p := ⟨gb142, 3, none⟩) (Kd.V_far (p := ⟨gb142, 2, none⟩) (Kd.V_far (p := ⟨gb142, 1, none⟩) (Kd.V_far (p := ⟨gb142, 0, none⟩) (Kd.V_mono HL141_6.out (fun k_ hk => (⟨hk, hk.2⟩ : _ ∧ k_ ≠ gb142))) (fun _ hk => hk.2) (.int .i64 ((rd_T52 t138 x113_5).f0))) (fun _ hk => hk.2) (.string ((rd_T52 t138 x113_5).f1))) (fun _ hk => hk.2) (.bool ((rd_T52 t138 x113_5).f2))) (fun _ hk => hk.2) (.slice A141_3 ((rd_T52 t138 x113_5).f3).length c141_3)) (fun _ hk => hk.2) (.slice A141_4 ((rd_T52 t138 x113_5).f4).length c141_4)) (fun _ hk => hk.2) (.slice A141_5 ((rd_T52 t138 x113_5).f5).length c141_5)) (fun _ hk => hk.2) (.slice A141_6 ((rd_T52 t138 x113_5).f6).length c141_6)) (fun _ hk => hk.2) (.slice A141_7 ((rd_T52 t138 x113_5).f7).length c141_7)) (fun _ h_ => h_.1)))).2.2) hb); have n11_ := Aside0.mk (Kd.C_below ((Kd.V_reads' (by (with_reducible repeat (first | apply Kd.V_alloc | apply Kd.V_drewN | apply Kd.V_drew)); exact (Kd.V_mono (Kd.V_far (p := ⟨gb142, 7, none⟩) (Kd.V_far (p := ⟨gb142, 6, none⟩) (Kd.V_far (p := ⟨gb142, 5, none⟩) (Kd.V_far (p := ⟨gb142, 4, none⟩) (Kd.V_far (p := ⟨gb142, 3, none⟩) (Kd.V_far (p := ⟨gb142, 2, none⟩) (Kd.V_far (p := ⟨gb142, 1, none⟩) (Kd.V_far (p := ⟨gb142, 0, none⟩) (Kd.V_mono HL141_7.out (fun k_ hk => (⟨hk, hk.2⟩ : _ ∧ k_ ≠ gb142))) (fun _ hk => hk.2) (.int .i64 ((rd_T52 t138 x113_5).f0))) (fun _ hk => hk.2) (.string ((rd_T52 t138 x113_5).f1))) (fun _ hk => hk.2) (.bool ((rd_T52 t138 x113_5).f2))) (fun _ hk => hk.2) (.slice A141_3 ((rd_T52 t138 x113_5).f3).length c141_3)) (fun _ hk => hk.2) (.slice A141_4 ((rd_T52 t138 x113_5).f4).length c141_4)) (fun _ hk => hk.2) (.slice A141_5 ((rd_T52 t138 x113_5).f5).length c141_5)) (fun _ hk => hk.2) (.slice A141_6 ((rd_T52 t138 x113_5).f6).length c141_6)) (fun _ hk => hk.2) (.slice A141_7 ((rd_T52 t138 x113_5).f7).length c141_7)) (fun _ h_ => h_.1)))).2.2) hb); have n12_ := Aside0.mk (blk_below (g := gb142) (o := .cells #[.int .i64 ((rd_T52 t138 x113_5).f0), .string ((rd_T52 t138 x113_5).f1), .bool ((rd_T52 t138 x113_5).f2), .slice A141_3 ((rd_T52 t138 x113_5).f3).length c141_3, .slice A141_4 ((rd_T52 t138 x113_5).f4).length c141_4, .slice A141_5 ((rd_T52 t138 x113_5).f5).length c141_5, .slice A141_6 ((rd_T52 t138 x113_5).f6).length c141_6, .slice A141_7 ((rd_T52 t138 x113_5).f7).length c141_7] 52 (0, 0)) (by (with_reducible repeat (first | refine blk_drewN ?_ _ | refine blk_drew ?_ | refine blk_alloc ?_ _)); refine blk_put (cs := #[.int .i64 ((rd_T52 t138 x113_5).f0), .string ((rd_T52 t138 x113_5).f1), .bool ((rd_T52 t138 x113_5).f2), .slice A141_3 ((rd_T52 t138 x113_5).f3).length c141_3, .slice A141_4 ((rd_T52 t138 x113_5).f4).length c141_4, .slice A141_5 ((rd_T52 t138 x113_5).f5).length c141_5, .slice A141_6 ((rd_T52 t138 x113_5).f6).length c141_6, .slice none 0 0]) ?_ 7 _ rfl; (with_reducible repeat (first | refine blk_drewN ?_ _ | refine blk_drew ?_ | refine blk_alloc ?_ _)); refine blk_put (cs := #[.int .i64 ((rd_T52 t138 x113_5).f0), .string ((rd_T52 t138 x113_5).f1), .bool ((rd_T52 t138 x113_5).f2), .slice A141_3 ((rd_T52 t138 x113_5).f3).length c141_3, .slice A141_4 ((rd_T52 t138 x113_5).f4).length c141_4, .slice A141_5 ((rd_T52 t138 x113_5).f5).length c141_5, .slice none 0 0, .slice none 0 0]) ?_ 6 _ rfl; (with_reducible repeat (first | refine blk_drewN ?_ _ | refine blk_drew ?_ | refine blk_alloc ?_ _)); refine blk_put (cs := #[.int .i64 ((rd_T52 t138 x113_5).f0), .string ((rd_T52 t138 x113_5).f1), .bool ((rd_T52 t138 x113_5).f2), .slice A141_3 ((rd_T52 t138 x113_5).f3).length c141_3, .slice A141_4 ((rd_T52 t138 x113_5).f4).length c141_4, .slice none 0 0, .slice none 0 0, .slice none 0 0]) ?_ 5 _ rfl; (with_reducible repeat (first | refine blk_drewN ?_ _ | refine blk_drew ?_ | refine blk_alloc ?_ _)); refine blk_put (cs := #[.int .i64 ((rd_T52 t138 x113_5).f0), .string ((rd_T52 t138 x113_5).f1), .bool ((rd_T52 t138 x113_5).f2), .slice A141_3 ((rd_T52 t138 x113_5).f3).length c141_3, .slice none 0 0, .slice none 0 0, .slice none 0 0, .slice none 0 0]) ?_ 4 _ rfl; (with_reducible repeat (first | refine blk_drewN ?_ _ | refine blk_drew ?_ | refine blk_alloc ?_ _)); refine blk_put (cs := #[.int .i64 ((rd_T52 t138 x113_5).f0), .string ((rd_T52 t138 x113_5).f1), .bool ((rd_T52 t138 x113_5).f2), .slice none 0 0, .slice none 0 0, .slice none 0 0, .slice none 0 0, .slice none 0 0]) ?_ 3 _ rfl; (with_reducible repeat (first | refine blk_drewN ?_ _ | refine blk_drew ?_ | refine blk_alloc ?_ _)); refine blk_put (cs := #[.int .i64 ((rd_T52 t138 x113_5).f0), .string ((rd_T52 t138 x113_5).f1), .bool false, .slice none 0 0, .slice none 0 0, .slice none 0 0, .slice none 0 0, .slice none 0 0]) ?_ 2 _ rfl; (with_reducible repeat (first | refine blk_drewN ?_ _ | refine blk_drew ?_ | refine blk_alloc ?_ _)); refine blk_put (cs := #[.int .i64 ((rd_T52 t138 x113_5).f0), .string (⟨#[]⟩ : ByteArray), .bool false, .slice none 0 0, .slice none 0 0, .slice none 0 0, .slice none 0 0, .slice none 0 0]) ?_ 1 _ rfl; (with_reducible repeat (first | refine blk_drewN ?_ _ | refine blk_drew ?_ | refine blk_alloc ?_ _)); refine blk_put (cs := #[.int .i64 0, .string (⟨#[]⟩ : ByteArray), .bool false, .slice none 0 0, .slice none 0 0, .slice none 0 0, .slice none 0 0, .slice none 0 0]) ?_ 0 _ rfl; (with_reducible repeat (first | refine blk_drewN ?_ _ | refine blk_drew ?_ | refine blk_alloc ?_ _)); exact BK142.out) hb); have n13_ := Aside0.mk (below_step (by repeat (first | (with_reducible first | exact HB.out | apply below_alloc | apply pw_below_drewN | apply below_drew1 | refine below_set ?_ GE128.out | refine below_set ?_ GE142.out) | exact HB.out)) hb); clear HO_111; clear HL141_3; clear HL141_4; clear HL141_5; clear HL141_6; clear HL141_7; clear BK128; clear HR141_3; clear HR141_4; clear HR141_5; clear HR141_6; clear HR141_7; clear BK142; clear HB; have HO_111 := n0_; have HL141_3 := n1_; have HL141_4 := n2_; have HL141_5 := n3_; have HL141_6 := n4_; have HL141_7 := n5_; have BK128 := n6_; have HR141_3 := n7_; have HR141_4 := n8_; have HR141_5 := n9_; have HR141_6 := n10_; have HR141_7 := n11_; have BK142 := n12_; have HB := n13_; clear n0_ n1_ n2_ n3_ n4_ n5_ n6_ n7_ n8_ n9_ n10_ n11_ n12_ n13_; (try clear hb); (try clear hb2); (try clear hk); (try clear hi)))
                                        go_roundg k5
                                        case measure => have := HJ2.out; have := HK2.out; have := HK3.out; have := HK4.out; have := HK5.out; omega
                                        case rel => exact ⟨(wrap64 (x5_5 + t143)), (wrap64 (x113_5 + 1)), (by first | rfl | (simp; done) | (simp [*]; done)), (by first | rfl | (simp; done) | (simp [*]; done)), H', ⟨by have := HJ2.out; have := HK2.out; have := HK3.out; have := HK4.out; have := HK5.out; omega⟩, ⟨by (with_reducible repeat (first | apply Kd.N_alloc | apply Kd.N_drewN | apply Kd.N_drew)); exact Kd.N_mono HO_111.out (fun _ hk => hk.1)⟩, ⟨by (with_reducible repeat (first | refine blk_drewN ?_ _ | refine blk_drew ?_ | refine blk_alloc ?_ _)); exact BK128.out⟩, ⟨by repeat (first | (with_reducible first | exact HB.out | apply below_alloc | apply pw_below_drewN | apply below_drew1 | refine below_set ?_ GE128.out | refine below_set ?_ GE142.out) | exact HB.out)⟩⟩
                                    · rw [if_neg c46] at H
                                      exact absurd H (by simp)
                                  · rw [if_neg c45] at H
                                    exact absurd H (by simp)
                                · rw [if_neg c44] at H
                                  have c44b0 : decide (x113_5 < (t138.length : Int)) = false := decide_eq_false c44
                                  clear c44
                                  obtain rfl := Option.some.inj H
                                  go_wp2
                                  go_ret
                                  exact ⟨by first | rfl | (simp [errW_none, errW_some] <;> rfl) | (simp [*, errW_none, errW_some] <;> rfl), by repeat (first | (with_reducible first | exact HB.out | apply below_alloc | apply pw_below_drewN | apply below_drew1 | refine below_set ?_ GE128.out) | exact HB.out)⟩

end Go.Proofs.Ytkepmbkghmkodaa.Q
