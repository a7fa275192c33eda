-- printed by a program of this session (wip/pp): a Lean function and a proof for each Go function
import Derived.Test.YtkepmbkghmkodaaP0
import Derived.Test.YtkepmbkghmkodaaP6
namespace Go.Proofs.Ytkepmbkghmkodaa.P
open Go.RowKit Go.Proofs.YtkepmbkghmkodaaW.PrintWords Go.Proofs.YtkepmbkghmkodaaW.PrintLast Go.Proofs.YtkepmbkghmkodaaW.PrintMore
attribute [local go_sem] max2_int min2_int max_two min_two max_three min_three max_four min_four   -- for this text's walks alone
set_option linter.unusedVariables false
set_option linter.unusedSimpArgs false

/-! ### deadfallref08_member: function 121 -/
def deadfallref08_member.f (l0 : List (S165)) (a1 : Int) : Option (Int) := if (wrap64 (a1 + 2)) < (l0.length : Int) then ((deadfallref08_is.f l0 (wrap64 (a1 + 1)) 45).bind fun t319 => (if t319 = true then ((deadfallref08_is.f l0 (wrap64 (a1 + 2)) 93).bind fun t320 => (if t320 = true then (some 1) else (some 3))) else (some 1))) else (some 1)
set_option maxHeartbeats 8000000 in
set_option maxRecDepth 100000 in
theorem deadfallref08_member.calls (A0 : Option Addr) (c0 : Nat) (l0 : List (S165)) (a1 : Int) (r : Int) (w : World) (hr0 : Kd.C k165 w A0 l0.length l0) (hc0 : l0.length ≤ c0) (h : deadfallref08_member.f l0 a1 = some r) :
    Calls Try.prog 121 #[.slice A0 l0.length c0, .int .i64 a1] w fun e w' => e = .returned (.int .i64 r) ∧ Drawn0 w w' := by
  have HR0 := Aside0.mk hr0
  have HC0 := Aside0.mk hc0
  clear hr0 hc0
  have H : (if (wrap64 (a1 + 2)) < (l0.length : Int) then ((deadfallref08_is.f l0 (wrap64 (a1 + 1)) 45).bind fun t319 => (if t319 = true then ((deadfallref08_is.f l0 (wrap64 (a1 + 2)) 93).bind fun t320 => (if t320 = true then (some 1) else (some 3))) else (some 1))) else (some 1)) = some r := h
  clear h
  by_cases c3 : (wrap64 (a1 + 2)) < (l0.length : Int)
  · rw [if_pos c3] at H
    have c3b0 : decide ((wrap64 (a1 + 2)) < (l0.length : Int)) = true := decide_eq_true c3
    clear c3
    replace H := Option.bind_eq_some_iff.mp H
    obtain ⟨t319, A40, H⟩ := H
    replace H : (if t319 = true then ((deadfallref08_is.f l0 (wrap64 (a1 + 2)) 93).bind fun t320 => (if t320 = true then (some 1) else (some 3))) else (some 1)) = some r := H
    have A4 := Aside0.mk A40
    clear A40
    by_cases c5 : t319 = true
    · subst c5
      have H1 : ((deadfallref08_is.f l0 (wrap64 (a1 + 2)) 93).bind fun t320 => (if t320 = true then (some 1) else (some 3))) = some r := by rw [if_pos rfl] at H; exact H
      clear H
      have H := H1
      clear H1
      replace H := Option.bind_eq_some_iff.mp H
      obtain ⟨t320, A60, H⟩ := H
      replace H : (if t320 = true then (some 1) else (some 3)) = some r := H
      have A6 := Aside0.mk A60
      clear A60
      by_cases c7 : t320 = true
      · subst c7
        have H1 : (some 1) = some r := by rw [if_pos rfl] at H; exact H
        clear H
        have H := H1
        clear H1
        obtain rfl := Option.some.inj H
        go_enter Try.func121, Try.ntmps121
        go_wp2_with (first | (go_at_call 99; (with_reducible refine (deadfallref08_is.calls _ _ l0 (wrap64 (a1 + 1)) 45 true _ ?side1 ?side2 A4.out).mono ?_); (case side1 => repeat (first | exact HR0.out | (with_reducible refine Kd.C_alloc ?_ _) | (with_reducible refine Kd.C_drewN ?_ _) | (with_reducible refine Kd.C_drew ?_))); (case side2 => exact HC0.out); rintro e w' ⟨rfl, ⟨nd, rfl⟩⟩) | (go_at_call 99; (with_reducible refine (deadfallref08_is.calls _ _ l0 (wrap64 (a1 + 2)) 93 true _ ?side1 ?side2 A6.out).mono ?_); (case side1 => repeat (first | exact HR0.out | (with_reducible refine Kd.C_alloc ?_ _) | (with_reducible refine Kd.C_drewN ?_ _) | (with_reducible refine Kd.C_drew ?_))); (case side2 => exact HC0.out); rintro e w' ⟨rfl, ⟨nd, rfl⟩⟩))
        go_ret
        exact ⟨by first | rfl | (simp; done) | (simp [*]; done), by repeat (first | exact Drawn0.refl _ | apply Drawn0.step)⟩
      · replace c7 := Bool.eq_false_iff.mpr c7
        subst c7
        have H1 : (some 3) = some r := by rw [if_neg (show ¬ (false = true) by decide)] at H; exact H
        clear H
        have H := H1
        clear H1
        obtain rfl := Option.some.inj H
        go_enter Try.func121, Try.ntmps121
        go_wp2_with (first | (go_at_call 99; (with_reducible refine (deadfallref08_is.calls _ _ l0 (wrap64 (a1 + 1)) 45 true _ ?side1 ?side2 A4.out).mono ?_); (case side1 => repeat (first | exact HR0.out | (with_reducible refine Kd.C_alloc ?_ _) | (with_reducible refine Kd.C_drewN ?_ _) | (with_reducible refine Kd.C_drew ?_))); (case side2 => exact HC0.out); rintro e w' ⟨rfl, ⟨nd, rfl⟩⟩) | (go_at_call 99; (with_reducible refine (deadfallref08_is.calls _ _ l0 (wrap64 (a1 + 2)) 93 false _ ?side1 ?side2 A6.out).mono ?_); (case side1 => repeat (first | exact HR0.out | (with_reducible refine Kd.C_alloc ?_ _) | (with_reducible refine Kd.C_drewN ?_ _) | (with_reducible refine Kd.C_drew ?_))); (case side2 => exact HC0.out); rintro e w' ⟨rfl, ⟨nd, rfl⟩⟩))
        go_ret
        exact ⟨by first | rfl | (simp; done) | (simp [*]; done), by repeat (first | exact Drawn0.refl _ | apply Drawn0.step)⟩
    · replace c5 := Bool.eq_false_iff.mpr c5
      subst c5
      have H1 : (some 1) = some r := by rw [if_neg (show ¬ (false = true) by decide)] at H; exact H
      clear H
      have H := H1
      clear H1
      obtain rfl := Option.some.inj H
      go_enter Try.func121, Try.ntmps121
      go_wp2_with (first | (go_at_call 99; (with_reducible refine (deadfallref08_is.calls _ _ l0 (wrap64 (a1 + 1)) 45 false _ ?side1 ?side2 A4.out).mono ?_); (case side1 => repeat (first | exact HR0.out | (with_reducible refine Kd.C_alloc ?_ _) | (with_reducible refine Kd.C_drewN ?_ _) | (with_reducible refine Kd.C_drew ?_))); (case side2 => exact HC0.out); rintro e w' ⟨rfl, ⟨nd, rfl⟩⟩))
      go_ret
      exact ⟨by first | rfl | (simp; done) | (simp [*]; done), by repeat (first | exact Drawn0.refl _ | apply Drawn0.step)⟩
  · rw [if_neg c3] at H
    have c3b0 : decide ((wrap64 (a1 + 2)) < (l0.length : Int)) = false := decide_eq_false c3
    clear c3
    obtain rfl := Option.some.inj H
    go_enter Try.func121, Try.ntmps121
    go_wp2
    go_ret
    exact ⟨by first | rfl | (simp; done) | (simp [*]; done), by repeat (first | exact Drawn0.refl _ | apply Drawn0.step)⟩

/-! ### deadfallref08_End: function 100 -/
def deadfallref08_End.l0 : Nat → List (S165) → Int → Int → Option (Int)
  | 0, _, _, _ => none
  | k + 1, x0, x5, x6 => if x6 < (x0.length : Int) then (if x6 > x5 then ((deadfallref08_is.f x0 x6 93).bind fun t323 => (if t323 = true then (some x6) else ((deadfallref08_member.f x0 x6).bind fun t324 => (deadfallref08_End.l0 k x0 x5 (wrap64 (x6 + t324)))))) else ((deadfallref08_member.f x0 x6).bind fun t325 => (deadfallref08_End.l0 k x0 x5 (wrap64 (x6 + t325))))) else (some (-1))
def deadfallref08_End.f (k : Nat) (l0 : List (S165)) (a1 : Int) : Option (Int) := (deadfallref08_is.f l0 a1 91).bind fun t321 => (if t321 = true then ((deadfallref08_first.f l0 a1).bind fun t322 => (deadfallref08_End.l0 k l0 t322 t322)) else (some (-1)))
theorem deadfallref08_End.mono_l : ∀ k, (∀ y0 y1 y2, LeO (deadfallref08_End.l0 k y0 y1 y2) (deadfallref08_End.l0 (k + 1) y0 y1 y2))
  | 0 => fun _ _ _ r h => by simp [deadfallref08_End.l0] at h
  | k + 1 => by
    have ih0 := deadfallref08_End.mono_l k
    · intro y0 y1 y2
      unfold deadfallref08_End.l0
      repeat' first
      | (with_reducible exact ih0 _ _ _)
      | (with_reducible exact LeO.refl _)
      | (with_reducible exact LeO.none _)
      | (with_reducible refine LeO.ite ?_ ?_)
      | (with_reducible refine LeO.bind ?_ (fun _ => ?_))
      | exact ih0 _ _ _
      | exact LeO.none _
      | refine LeO.ite ?_ ?_
      | refine LeO.bind ?_ (fun _ => ?_)
theorem deadfallref08_End.mono : ∀ a0 a1 k, LeO (deadfallref08_End.f k a0 a1) (deadfallref08_End.f (k + 1) a0 a1) := by
  intro a0 a1 k
  have ih0 := deadfallref08_End.mono_l k
  unfold deadfallref08_End.f
  repeat' first
      | (with_reducible exact ih0 _ _ _)
      | (with_reducible exact LeO.refl _)
      | (with_reducible exact LeO.none _)
      | (with_reducible refine LeO.ite ?_ ?_)
      | (with_reducible refine LeO.bind ?_ (fun _ => ?_))
      | exact ih0 _ _ _
      | exact LeO.none _
      | refine LeO.ite ?_ ?_
      | refine LeO.bind ?_ (fun _ => ?_)
set_option maxHeartbeats 8000000 in
set_option maxRecDepth 100000 in
theorem deadfallref08_End.calls (k : Nat) (A0 : Option Addr) (c0 : Nat) (l0 : List (S165)) (a1 : Int) (r : Int) (w : World) (hr0 : Kd.C k165 w A0 l0.length l0) (hc0 : l0.length ≤ c0) (h : deadfallref08_End.f k l0 a1 = some r) :
    Calls Try.prog 100 #[.slice A0 l0.length c0, .int .i64 a1] w fun e w' => e = .returned (.int .i64 r) ∧ Drawn0 w w' := by
  have HR0 := Aside0.mk hr0
  have HC0 := Aside0.mk hc0
  clear hr0 hc0
  have H : ((deadfallref08_is.f l0 a1 91).bind fun t321 => (if t321 = true then ((deadfallref08_first.f l0 a1).bind fun t322 => (deadfallref08_End.l0 k l0 t322 t322)) else (some (-1)))) = some r := h
  clear h
  replace H := Option.bind_eq_some_iff.mp H
  obtain ⟨t321, A30, H⟩ := H
  replace H : (if t321 = true then ((deadfallref08_first.f l0 a1).bind fun t322 => (deadfallref08_End.l0 k l0 t322 t322)) else (some (-1))) = some r := H
  have A3 := Aside0.mk A30
  clear A30
  by_cases c4 : t321 = true
  · subst c4
    have H1 : ((deadfallref08_first.f l0 a1).bind fun t322 => (deadfallref08_End.l0 k l0 t322 t322)) = some r := by rw [if_pos rfl] at H; exact H
    clear H
    have H := H1
    clear H1
    replace H := Option.bind_eq_some_iff.mp H
    obtain ⟨t322, A50, H⟩ := H
    replace H : (deadfallref08_End.l0 k l0 t322 t322) = some r := H
    have A5 := Aside0.mk A50
    clear A50
    have H' := Aside0.mk H
    clear H
    go_enter Try.func100, Try.ntmps100
    go_wp2_with (first | ((with_reducible refine gate_callee (f := 99) rfl ?_); refine goesL_ (some 9) rfl rfl Try.func99 (by kernel_rfl) rfl #[.slice A0 l0.length c0, .int .i64 a1, .int .u8 91] rfl (by (try simp only [List.map_toArray, List.map_cons, List.map_nil]); first | done | rfl | (simp only [List.length_drop, List.length_take]; rfl)) ?_; (with_reducible refine (deadfallref08_is.calls _ _ l0 a1 91 true _ ?side1 ?side2 A3.out).mono ?_); (case side1 => repeat (first | exact HR0.out | (with_reducible refine Kd.C_alloc ?_ _) | (with_reducible refine Kd.C_drewN ?_ _) | (with_reducible refine Kd.C_drew ?_))); (case side2 => exact HC0.out); rintro e w' ⟨rfl, ⟨nd, rfl⟩⟩; refine ⟨_, rfl, ?_⟩) | ((with_reducible refine gate_callee (f := 120) rfl ?_); refine goesL_ (some 13) rfl rfl Try.func120 (by kernel_rfl) rfl #[.slice A0 l0.length c0, .int .i64 a1] rfl (by (try simp only [List.map_toArray, List.map_cons, List.map_nil]); first | done | rfl | (simp only [List.length_drop, List.length_take]; rfl)) ?_; (with_reducible refine (deadfallref08_first.calls _ _ l0 a1 t322 _ ?side1 ?side2 A5.out).mono ?_); (case side1 => repeat (first | exact HR0.out | (with_reducible refine Kd.C_alloc ?_ _) | (with_reducible refine Kd.C_drewN ?_ _) | (with_reducible refine Kd.C_drew ?_))); (case side2 => exact HC0.out); rintro e w' ⟨rfl, ⟨nd, rfl⟩⟩; refine ⟨_, rfl, ?_⟩))
    go_loopg [6] k (fun kq v6 w' => ∃ (x6_1 : Int), v6 = .int .i64 x6_1 ∧ Aside0 (deadfallref08_End.l0 kq l0 t322 x6_1 = some r) ∧ Aside0 (kq ≤ k) ∧ Drawn0 w w')
    case atStart => exact ⟨(t322), (by first | rfl | (simp; done) | (simp [*]; done)), H', ⟨Nat.le_refl _⟩, by repeat (first | exact Drawn0.refl _ | apply Drawn0.step)⟩
    case round =>
      clear H'
      try clear c1
      try clear p2
      try clear c4
      obtain ⟨x6_1, rfl, HA, HK1, ⟨m1, rfl⟩⟩ := hrel
      cases gk with
      | zero => exact absurd HA.out (by simp [deadfallref08_End.l0])
      | succ k1 =>
        have H := HA.out
        clear HA
        simp only [deadfallref08_End.l0] at H
        by_cases c6 : x6_1 < (l0.length : Int)
        · rw [if_pos c6] at H
          have c6b0 : decide (x6_1 < (l0.length : Int)) = true := decide_eq_true c6
          clear c6
          by_cases c7 : x6_1 > t322
          · rw [if_pos c7] at H
            have c7b0 : decide (t322 < x6_1) = true := decide_eq_true c7
            clear c7
            replace H := Option.bind_eq_some_iff.mp H
            obtain ⟨t323, A80, H⟩ := H
            replace H : (if t323 = true then (some x6_1) else ((deadfallref08_member.f l0 x6_1).bind fun t324 => (deadfallref08_End.l0 k1 l0 t322 (wrap64 (x6_1 + t324))))) = some r := H
            have A8 := Aside0.mk A80
            clear A80
            by_cases c9 : t323 = true
            · subst c9
              have H1 : (some x6_1) = some r := by rw [if_pos rfl] at H; exact H
              clear H
              have H := H1
              clear H1
              obtain rfl := Option.some.inj H
              go_wp2_with (first | (go_at_call 99; (with_reducible refine (deadfallref08_is.calls _ _ l0 x6_1 93 true _ ?side1 ?side2 A8.out).mono ?_); (case side1 => repeat (first | exact HR0.out | (with_reducible refine Kd.C_alloc ?_ _) | (with_reducible refine Kd.C_drewN ?_ _) | (with_reducible refine Kd.C_drew ?_))); (case side2 => exact HC0.out); rintro e w' ⟨rfl, ⟨nd, rfl⟩⟩))
              go_ret
              exact ⟨by first | rfl | (simp; done) | (simp [*]; done), by repeat (first | exact Drawn0.refl _ | apply Drawn0.step)⟩
            · replace c9 := Bool.eq_false_iff.mpr c9
              subst c9
              have H1 : ((deadfallref08_member.f l0 x6_1).bind fun t324 => (deadfallref08_End.l0 k1 l0 t322 (wrap64 (x6_1 + t324)))) = some r := by rw [if_neg (show ¬ (false = true) by decide)] at H; exact H
              clear H
              have H := H1
              clear H1
              replace H := Option.bind_eq_some_iff.mp H
              obtain ⟨t324, A100, H⟩ := H
              replace H : (deadfallref08_End.l0 k1 l0 t322 (wrap64 (x6_1 + t324))) = some r := H
              have A10 := Aside0.mk A100
              clear A100
              have H' := Aside0.mk H
              clear H
              go_wp2_with (first | (go_at_call 99; (with_reducible refine (deadfallref08_is.calls _ _ l0 x6_1 93 false _ ?side1 ?side2 A8.out).mono ?_); (case side1 => repeat (first | exact HR0.out | (with_reducible refine Kd.C_alloc ?_ _) | (with_reducible refine Kd.C_drewN ?_ _) | (with_reducible refine Kd.C_drew ?_))); (case side2 => exact HC0.out); rintro e w' ⟨rfl, ⟨nd, rfl⟩⟩) | ((with_reducible refine gate_callee (f := 121) rfl ?_); refine goesL_ (some 31) rfl rfl Try.func121 (by kernel_rfl) rfl #[.slice A0 l0.length c0, .int .i64 x6_1] rfl (by (try simp only [List.map_toArray, List.map_cons, List.map_nil]); first | done | rfl | (simp only [List.length_drop, List.length_take]; rfl)) ?_; (with_reducible refine (deadfallref08_member.calls _ _ l0 x6_1 t324 _ ?side1 ?side2 A10.out).mono ?_); (case side1 => repeat (first | exact HR0.out | (with_reducible refine Kd.C_alloc ?_ _) | (with_reducible refine Kd.C_drewN ?_ _) | (with_reducible refine Kd.C_drew ?_))); (case side2 => exact HC0.out); rintro e w' ⟨rfl, ⟨nd, rfl⟩⟩; refine ⟨_, rfl, ?_⟩))
              go_roundg k1
              case measure => have := HK1.out; omega
              case rel => exact ⟨(wrap64 (x6_1 + t324)), (by first | rfl | (simp; done) | (simp [*]; done)), H', ⟨by have := HK1.out; omega⟩, by repeat (first | exact Drawn0.refl _ | apply Drawn0.step)⟩
          · rw [if_neg c7] at H
            have c7b0 : decide (t322 < x6_1) = false := decide_eq_false c7
            clear c7
            replace H := Option.bind_eq_some_iff.mp H
            obtain ⟨t325, A110, H⟩ := H
            replace H : (deadfallref08_End.l0 k1 l0 t322 (wrap64 (x6_1 + t325))) = some r := H
            have A11 := Aside0.mk A110
            clear A110
            have H' := Aside0.mk H
            clear H
            go_wp2_with (first | ((with_reducible refine gate_callee (f := 121) rfl ?_); refine goesL_ (some 31) rfl rfl Try.func121 (by kernel_rfl) rfl #[.slice A0 l0.length c0, .int .i64 x6_1] rfl (by (try simp only [List.map_toArray, List.map_cons, List.map_nil]); first | done | rfl | (simp only [List.length_drop, List.length_take]; rfl)) ?_; (with_reducible refine (deadfallref08_member.calls _ _ l0 x6_1 t325 _ ?side1 ?side2 A11.out).mono ?_); (case side1 => repeat (first | exact HR0.out | (with_reducible refine Kd.C_alloc ?_ _) | (with_reducible refine Kd.C_drewN ?_ _) | (with_reducible refine Kd.C_drew ?_))); (case side2 => exact HC0.out); rintro e w' ⟨rfl, ⟨nd, rfl⟩⟩; refine ⟨_, rfl, ?_⟩))
            go_roundg k1
            case measure => have := HK1.out; omega
            case rel => exact ⟨(wrap64 (x6_1 + t325)), (by first | rfl | (simp; done) | (simp [*]; done)), H', ⟨by have := HK1.out; omega⟩, by repeat (first | exact Drawn0.refl _ | apply Drawn0.step)⟩
        · rw [if_neg c6] at H
          have c6b0 : decide (x6_1 < (l0.length : Int)) = false := decide_eq_false c6
          clear c6
          obtain rfl := Option.some.inj H
          go_wp2
          go_ret
          exact ⟨by first | rfl | (simp; done) | (simp [*]; done), by repeat (first | exact Drawn0.refl _ | apply Drawn0.step)⟩
  · replace c4 := Bool.eq_false_iff.mpr c4
    subst c4
    have H1 : (some (-1)) = some r := by rw [if_neg (show ¬ (false = true) by decide)] at H; exact H
    clear H
    have H := H1
    clear H1
    obtain rfl := Option.some.inj H
    go_enter Try.func100, Try.ntmps100
    go_wp2_with (first | ((with_reducible refine gate_callee (f := 99) rfl ?_); refine goesL_ (some 9) rfl rfl Try.func99 (by kernel_rfl) rfl #[.slice A0 l0.length c0, .int .i64 a1, .int .u8 91] rfl (by (try simp only [List.map_toArray, List.map_cons, List.map_nil]); first | done | rfl | (simp only [List.length_drop, List.length_take]; rfl)) ?_; (with_reducible refine (deadfallref08_is.calls _ _ l0 a1 91 false _ ?side1 ?side2 A3.out).mono ?_); (case side1 => repeat (first | exact HR0.out | (with_reducible refine Kd.C_alloc ?_ _) | (with_reducible refine Kd.C_drewN ?_ _) | (with_reducible refine Kd.C_drew ?_))); (case side2 => exact HC0.out); rintro e w' ⟨rfl, ⟨nd, rfl⟩⟩; refine ⟨_, rfl, ?_⟩))
    go_ret
    exact ⟨by first | rfl | (simp; done) | (simp [*]; done), by repeat (first | exact Drawn0.refl _ | apply Drawn0.step)⟩

/-! ### deadfallref08_Has: function 119 -/
def deadfallref08_Has.l0 : Nat → List (S165) → Int → Int → Int → Int → Bool → Option (Bool)
  | 0, _, _, _, _, _, _ => none
  | k + 1, x0, x1, x2, x3, x9, x10 => if x9 < x2 then ((deadfallref08_member.f x0 x9).bind fun t327 => (if 0 ≤ x9 then (if x9 < (x0.length : Int) then (if x3 ≥ ((rd_T165 x0 x9).f0) then (if 0 ≤ (wrap64 ((wrap64 (x9 + t327)) - 1)) then (if (wrap64 ((wrap64 (x9 + t327)) - 1)) < (x0.length : Int) then (if x3 ≤ ((rd_T165 x0 (wrap64 ((wrap64 (x9 + t327)) - 1))).f0) then (deadfallref08_Has.l0 k x0 x1 x2 x3 (wrap64 (x9 + t327)) true) else (deadfallref08_Has.l0 k x0 x1 x2 x3 (wrap64 (x9 + t327)) x10)) else (none)) else (none)) else (deadfallref08_Has.l0 k x0 x1 x2 x3 (wrap64 (x9 + t327)) x10)) else (none)) else (none))) else ((deadfallref08_first.f x0 x1).bind fun t330 => (some (x10 != (t330 == (wrap64 (x1 + 2))))))
def deadfallref08_Has.f (k : Nat) (l0 : List (S165)) (a1 : Int) (a2 : Int) (a3 : Int) : Option (Bool) := (deadfallref08_first.f l0 a1).bind fun t326 => (deadfallref08_Has.l0 k l0 a1 a2 a3 t326 false)
theorem deadfallref08_Has.mono_l : ∀ k, (∀ y0 y1 y2 y3 y4 y5, LeO (deadfallref08_Has.l0 k y0 y1 y2 y3 y4 y5) (deadfallref08_Has.l0 (k + 1) y0 y1 y2 y3 y4 y5))
  | 0 => fun _ _ _ _ _ _ r h => by simp [deadfallref08_Has.l0] at h
  | k + 1 => by
    have ih0 := deadfallref08_Has.mono_l k
    · intro y0 y1 y2 y3 y4 y5
      unfold deadfallref08_Has.l0
      repeat' first
      | (with_reducible exact ih0 _ _ _ _ _ _)
      | (with_reducible exact LeO.refl _)
      | (with_reducible exact LeO.none _)
      | (with_reducible refine LeO.ite ?_ ?_)
      | (with_reducible refine LeO.bind ?_ (fun _ => ?_))
      | exact ih0 _ _ _ _ _ _
      | exact LeO.none _
      | refine LeO.ite ?_ ?_
      | refine LeO.bind ?_ (fun _ => ?_)
theorem deadfallref08_Has.mono : ∀ a0 a1 a2 a3 k, LeO (deadfallref08_Has.f k a0 a1 a2 a3) (deadfallref08_Has.f (k + 1) a0 a1 a2 a3) := by
  intro a0 a1 a2 a3 k
  have ih0 := deadfallref08_Has.mono_l k
  unfold deadfallref08_Has.f
  repeat' first
      | (with_reducible exact ih0 _ _ _ _ _ _)
      | (with_reducible exact LeO.refl _)
      | (with_reducible exact LeO.none _)
      | (with_reducible refine LeO.ite ?_ ?_)
      | (with_reducible refine LeO.bind ?_ (fun _ => ?_))
      | exact ih0 _ _ _ _ _ _
      | exact LeO.none _
      | refine LeO.ite ?_ ?_
      | refine LeO.bind ?_ (fun _ => ?_)
set_option maxHeartbeats 8000000 in
set_option maxRecDepth 100000 in
theorem deadfallref08_Has.calls (k : Nat) (A0 : Option Addr) (c0 : Nat) (l0 : List (S165)) (a1 : Int) (a2 : Int) (a3 : Int) (r : Bool) (w : World) (hr0 : Kd.C k165 w A0 l0.length l0) (hc0 : l0.length ≤ c0) (h : deadfallref08_Has.f k l0 a1 a2 a3 = some r) :
    Calls Try.prog 119 #[.slice A0 l0.length c0, .int .i64 a1, .int .i64 a2, .int .u8 a3] w fun e w' => e = .returned (.bool r) ∧ Drawn0 w w' := by
  have HR0 := Aside0.mk hr0
  have HC0 := Aside0.mk hc0
  clear hr0 hc0
  have H : ((deadfallref08_first.f l0 a1).bind fun t326 => (deadfallref08_Has.l0 k l0 a1 a2 a3 t326 false)) = some r := h
  clear h
  replace H := Option.bind_eq_some_iff.mp H
  obtain ⟨t326, A50, H⟩ := H
  replace H : (deadfallref08_Has.l0 k l0 a1 a2 a3 t326 false) = some r := H
  have A5 := Aside0.mk A50
  clear A50
  have H' := Aside0.mk H
  clear H
  go_enter Try.func119, Try.ntmps119
  go_wp2_with (first | ((with_reducible refine gate_callee (f := 120) rfl ?_); refine goesL_ (some 14) rfl rfl Try.func120 (by kernel_rfl) rfl #[.slice A0 l0.length c0, .int .i64 a1] rfl (by (try simp only [List.map_toArray, List.map_cons, List.map_nil]); first | done | rfl | (simp only [List.length_drop, List.length_take]; rfl)) ?_; (with_reducible refine (deadfallref08_first.calls _ _ l0 a1 t326 _ ?side1 ?side2 A5.out).mono ?_); (case side1 => repeat (first | exact HR0.out | (with_reducible refine Kd.C_alloc ?_ _) | (with_reducible refine Kd.C_drewN ?_ _) | (with_reducible refine Kd.C_drew ?_))); (case side2 => exact HC0.out); rintro e w' ⟨rfl, ⟨nd, rfl⟩⟩; refine ⟨_, rfl, ?_⟩))
  go_loopg [9, 10] k (fun kq v9 v10 w' => ∃ (x9_1 : Int) (x10_1 : Bool), v9 = .int .i64 x9_1 ∧ v10 = .bool x10_1 ∧ Aside0 (deadfallref08_Has.l0 kq l0 a1 a2 a3 x9_1 x10_1 = some r) ∧ Aside0 (kq ≤ k) ∧ Drawn0 w w')
  case atStart => exact ⟨(t326), (false), (by first | rfl | (simp; done) | (simp [*]; done)), (by first | rfl | (simp; done) | (simp [*]; done)), H', ⟨Nat.le_refl _⟩, by repeat (first | exact Drawn0.refl _ | apply Drawn0.step)⟩
  case round =>
    clear H'
    try clear c1
    try clear p2
    obtain ⟨x9_1, x10_1, rfl, rfl, HA, HK1, ⟨m1, rfl⟩⟩ := hrel
    cases gk with
    | zero => exact absurd HA.out (by simp [deadfallref08_Has.l0])
    | succ k1 =>
      have H := HA.out
      clear HA
      simp only [deadfallref08_Has.l0] at H
      by_cases c6 : x9_1 < a2
      · rw [if_pos c6] at H
        have c6b0 : decide (x9_1 < a2) = true := decide_eq_true c6
        clear c6
        replace H := Option.bind_eq_some_iff.mp H
        obtain ⟨t327, A70, H⟩ := H
        replace H : (if 0 ≤ x9_1 then (if x9_1 < (l0.length : Int) then (if a3 ≥ ((rd_T165 l0 x9_1).f0) then (if 0 ≤ (wrap64 ((wrap64 (x9_1 + t327)) - 1)) then (if (wrap64 ((wrap64 (x9_1 + t327)) - 1)) < (l0.length : Int) then (if a3 ≤ ((rd_T165 l0 (wrap64 ((wrap64 (x9_1 + t327)) - 1))).f0) then (deadfallref08_Has.l0 k1 l0 a1 a2 a3 (wrap64 (x9_1 + t327)) true) else (deadfallref08_Has.l0 k1 l0 a1 a2 a3 (wrap64 (x9_1 + t327)) x10_1)) else (none)) else (none)) else (deadfallref08_Has.l0 k1 l0 a1 a2 a3 (wrap64 (x9_1 + t327)) x10_1)) else (none)) else (none)) = some r := H
        have A7 := Aside0.mk A70
        clear A70
        by_cases c8 : 0 ≤ x9_1
        · rw [if_pos c8] at H
          have c8b0 : decide (0 ≤ x9_1) = true := decide_eq_true c8
          clear c8
          by_cases c9 : x9_1 < (l0.length : Int)
          · rw [if_pos c9] at H
            have c9b0 : decide (x9_1 < (l0.length : Int)) = true := decide_eq_true c9
            clear c9
            by_cases c10 : a3 ≥ ((rd_T165 l0 x9_1).f0)
            · rw [if_pos c10] at H
              have c10b0 : decide (((rd_T165 l0 x9_1).f0) ≤ a3) = true := decide_eq_true c10
              clear c10
              obtain ⟨ji11, hji11⟩ : ∃ j_ : Int, (wrap64 ((wrap64 (x9_1 + t327)) - 1)) = j_ := ⟨_, rfl⟩
              replace H : (if 0 ≤ (ji11) then (if (ji11) < (l0.length : Int) then (if a3 ≤ ((rd_T165 l0 (ji11)).f0) then (deadfallref08_Has.l0 k1 l0 a1 a2 a3 (wrap64 (x9_1 + t327)) true) else (deadfallref08_Has.l0 k1 l0 a1 a2 a3 (wrap64 (x9_1 + t327)) x10_1)) else (none)) else (none)) = some r := by first | (rw [hji11] at H; exact H) | (simp only [hji11] at H ⊢; exact H)
              (try rw [hji11] at A7)
              have hji11w : (IntKind.i64.wrap ((wrap64 (x9_1 + t327)) - 1)) = ji11 := (i64_w _).trans hji11
              by_cases c12 : 0 ≤ (ji11)
              · rw [if_pos c12] at H
                have c12b0 : decide (0 ≤ (ji11)) = true := decide_eq_true c12
                clear c12
                by_cases c13 : (ji11) < (l0.length : Int)
                · rw [if_pos c13] at H
                  have c13b0 : decide ((ji11) < (l0.length : Int)) = true := decide_eq_true c13
                  clear c13
                  by_cases c14 : a3 ≤ ((rd_T165 l0 (ji11)).f0)
                  · rw [if_pos c14] at H
                    have c14b0 : decide (a3 ≤ ((rd_T165 l0 (ji11)).f0)) = true := decide_eq_true c14
                    clear c14
                    have H' := Aside0.mk H
                    clear H
                    go_wp2_with (first | ((with_reducible refine gate_callee (f := 121) rfl ?_); refine goesL_ (some 20) rfl rfl Try.func121 (by kernel_rfl) rfl #[.slice A0 l0.length c0, .int .i64 x9_1] rfl (by (try simp only [List.map_toArray, List.map_cons, List.map_nil]); first | done | rfl | (simp only [List.length_drop, List.length_take]; rfl)) ?_; (with_reducible refine (deadfallref08_member.calls _ _ l0 x9_1 t327 _ ?side1 ?side2 A7.out).mono ?_); (case side1 => repeat (first | exact HR0.out | (with_reducible refine Kd.C_alloc ?_ _) | (with_reducible refine Kd.C_drewN ?_ _) | (with_reducible refine Kd.C_drew ?_))); (case side2 => exact HC0.out); rintro e w' ⟨rfl, ⟨nd, rfl⟩⟩; refine ⟨_, rfl, ?_⟩; have p328 : 0 ≤ (x9_1 : Int) := of_decide_eq_true (by first | (with_reducible assumption) | assumption); have q328 : x9_1 < (l0.length : Int) := of_decide_eq_true (by first | (with_reducible assumption) | assumption); obtain ⟨ad328, e328, hx328_0, hx328_1⟩ := at_T165 HR0.out x9_1 p328 q328; cases e328; replace p328 := eq_true p328; replace q328 := eq_true q328; have p329 : 0 ≤ ((ji11) : Int) := of_decide_eq_true (by first | (with_reducible assumption) | assumption); have q329 : (ji11) < (l0.length : Int) := of_decide_eq_true (by first | (with_reducible assumption) | assumption); obtain ⟨ad329, e329, hx329_0, hx329_1⟩ := at_T165 HR0.out (ji11) p329 q329; obtain rfl : ad328 = ad329 := (by injection e329); replace p329 := eq_true p329; replace q329 := eq_true q329))
                    go_roundg k1
                    case measure => have := HK1.out; omega
                    case rel => exact ⟨(wrap64 (x9_1 + t327)), (true), (by first | rfl | (simp; done) | (simp [*]; done)), (by first | rfl | (simp; done) | (simp [*]; done)), H', ⟨by have := HK1.out; omega⟩, by repeat (first | exact Drawn0.refl _ | apply Drawn0.step)⟩
                  · rw [if_neg c14] at H
                    have c14b0 : decide (a3 ≤ ((rd_T165 l0 (ji11)).f0)) = false := decide_eq_false c14
                    clear c14
                    have H' := Aside0.mk H
                    clear H
                    go_wp2_with (first | ((with_reducible refine gate_callee (f := 121) rfl ?_); refine goesL_ (some 20) rfl rfl Try.func121 (by kernel_rfl) rfl #[.slice A0 l0.length c0, .int .i64 x9_1] rfl (by (try simp only [List.map_toArray, List.map_cons, List.map_nil]); first | done | rfl | (simp only [List.length_drop, List.length_take]; rfl)) ?_; (with_reducible refine (deadfallref08_member.calls _ _ l0 x9_1 t327 _ ?side1 ?side2 A7.out).mono ?_); (case side1 => repeat (first | exact HR0.out | (with_reducible refine Kd.C_alloc ?_ _) | (with_reducible refine Kd.C_drewN ?_ _) | (with_reducible refine Kd.C_drew ?_))); (case side2 => exact HC0.out); rintro e w' ⟨rfl, ⟨nd, rfl⟩⟩; refine ⟨_, rfl, ?_⟩; have p328 : 0 ≤ (x9_1 : Int) := of_decide_eq_true (by first | (with_reducible assumption) | assumption); have q328 : x9_1 < (l0.length : Int) := of_decide_eq_true (by first | (with_reducible assumption) | assumption); obtain ⟨ad328, e328, hx328_0, hx328_1⟩ := at_T165 HR0.out x9_1 p328 q328; cases e328; replace p328 := eq_true p328; replace q328 := eq_true q328; have p329 : 0 ≤ ((ji11) : Int) := of_decide_eq_true (by first | (with_reducible assumption) | assumption); have q329 : (ji11) < (l0.length : Int) := of_decide_eq_true (by first | (with_reducible assumption) | assumption); obtain ⟨ad329, e329, hx329_0, hx329_1⟩ := at_T165 HR0.out (ji11) p329 q329; obtain rfl : ad328 = ad329 := (by injection e329); replace p329 := eq_true p329; replace q329 := eq_true q329))
                    go_roundg k1
                    case measure => have := HK1.out; omega
                    case rel => exact ⟨(wrap64 (x9_1 + t327)), (x10_1), (by first | rfl | (simp; done) | (simp [*]; done)), (by first | rfl | (simp; done) | (simp [*]; done)), H', ⟨by have := HK1.out; omega⟩, by repeat (first | exact Drawn0.refl _ | apply Drawn0.step)⟩
                · rw [if_neg c13] at H
                  exact absurd H (by simp)
              · rw [if_neg c12] at H
                exact absurd H (by simp)
            · rw [if_neg c10] at H
              have c10b0 : decide (((rd_T165 l0 x9_1).f0) ≤ a3) = false := decide_eq_false c10
              clear c10
              have H' := Aside0.mk H
              clear H
              go_wp2_with (first | ((with_reducible refine gate_callee (f := 121) rfl ?_); refine goesL_ (some 20) rfl rfl Try.func121 (by kernel_rfl) rfl #[.slice A0 l0.length c0, .int .i64 x9_1] rfl (by (try simp only [List.map_toArray, List.map_cons, List.map_nil]); first | done | rfl | (simp only [List.length_drop, List.length_take]; rfl)) ?_; (with_reducible refine (deadfallref08_member.calls _ _ l0 x9_1 t327 _ ?side1 ?side2 A7.out).mono ?_); (case side1 => repeat (first | exact HR0.out | (with_reducible refine Kd.C_alloc ?_ _) | (with_reducible refine Kd.C_drewN ?_ _) | (with_reducible refine Kd.C_drew ?_))); (case side2 => exact HC0.out); rintro e w' ⟨rfl, ⟨nd, rfl⟩⟩; refine ⟨_, rfl, ?_⟩; have p328 : 0 ≤ (x9_1 : Int) := of_decide_eq_true (by first | (with_reducible assumption) | assumption); have q328 : x9_1 < (l0.length : Int) := of_decide_eq_true (by first | (with_reducible assumption) | assumption); obtain ⟨ad328, e328, hx328_0, hx328_1⟩ := at_T165 HR0.out x9_1 p328 q328; cases e328; replace p328 := eq_true p328; replace q328 := eq_true q328))
              go_roundg k1
              case measure => have := HK1.out; omega
              case rel => exact ⟨(wrap64 (x9_1 + t327)), (x10_1), (by first | rfl | (simp; done) | (simp [*]; done)), (by first | rfl | (simp; done) | (simp [*]; done)), H', ⟨by have := HK1.out; omega⟩, by repeat (first | exact Drawn0.refl _ | apply Drawn0.step)⟩
          · rw [if_neg c9] at H
            exact absurd H (by simp)
        · rw [if_neg c8] at H
          exact absurd H (by simp)
      · rw [if_neg c6] at H
        have c6b0 : decide (x9_1 < a2) = false := decide_eq_false c6
        clear c6
        replace H := Option.bind_eq_some_iff.mp H
        obtain ⟨t330, A150, H⟩ := H
        replace H : (some (x10_1 != (t330 == (wrap64 (a1 + 2))))) = some r := H
        have A15 := Aside0.mk A150
        clear A150
        obtain rfl := Option.some.inj H
        go_wp2_with (first | ((with_reducible refine gate_callee (f := 120) rfl ?_); refine goesL_ (some 46) rfl rfl Try.func120 (by kernel_rfl) rfl #[.slice A0 l0.length c0, .int .i64 a1] rfl (by (try simp only [List.map_toArray, List.map_cons, List.map_nil]); first | done | rfl | (simp only [List.length_drop, List.length_take]; rfl)) ?_; (with_reducible refine (deadfallref08_first.calls _ _ l0 a1 t330 _ ?side1 ?side2 A15.out).mono ?_); (case side1 => repeat (first | exact HR0.out | (with_reducible refine Kd.C_alloc ?_ _) | (with_reducible refine Kd.C_drewN ?_ _) | (with_reducible refine Kd.C_drew ?_))); (case side2 => exact HC0.out); rintro e w' ⟨rfl, ⟨nd, rfl⟩⟩; refine ⟨_, rfl, ?_⟩))
        go_ret
        exact ⟨by first | rfl | (simp; done) | (simp [*]; done), by repeat (first | exact Drawn0.refl _ | apply Drawn0.step)⟩

/-! ### deadfallref08_Step: function 98 -/
def deadfallref08_Step.l0 : Nat → List (S165) → List Bool → Int → List Bool → Int → Int → Option (List Bool)
  | 0, _, _, _, _, _, _ => none
  | k + 1, x0, x1, x2, x7, x15, x16 => if x16 < x15 then (if 0 ≤ x16 then (if x16 < (x1.length : Int) then (if rdOf false x1 x16 = true then ((deadfallref08_End.f k x0 x16).bind fun t338 => ((deadfallref08_is.f x0 x16 42).bind fun t339 => (if t339 = true then (if x16 < (x7.length : Int) then (deadfallref08_Step.l0 k x0 x1 x2 (x7.set (x16 : Int).toNat true) x15 (wrap64 (x16 + 1))) else (none)) else (if t338 ≥ 0 then (if 0 ≤ (wrap64 (t338 + 1)) then (if (wrap64 (t338 + 1)) < (x7.length : Int) then (if rdOf false x7 (wrap64 (t338 + 1)) = true then (deadfallref08_Step.l0 k x0 x1 x2 (x7.set ((wrap64 (t338 + 1)) : Int).toNat true) x15 (wrap64 (x16 + 1))) else ((deadfallref08_Has.f k x0 x16 t338 x2).bind fun t343 => (deadfallref08_Step.l0 k x0 x1 x2 (x7.set ((wrap64 (t338 + 1)) : Int).toNat t343) x15 (wrap64 (x16 + 1))))) else (none)) else (none)) else ((deadfallref08_is.f x0 x16 63).bind fun t345 => (if t345 = true then (if 0 ≤ (wrap64 (x16 + 1)) then (if (wrap64 (x16 + 1)) < (x7.length : Int) then (deadfallref08_Step.l0 k x0 x1 x2 (x7.set ((wrap64 (x16 + 1)) : Int).toNat true) x15 (wrap64 (x16 + 1))) else (none)) else (none)) else (if x16 < (x0.length : Int) then (if ((rd_T165 x0 x16).f0) = x2 then (if 0 ≤ (wrap64 (x16 + 1)) then (if (wrap64 (x16 + 1)) < (x7.length : Int) then (deadfallref08_Step.l0 k x0 x1 x2 (x7.set ((wrap64 (x16 + 1)) : Int).toNat true) x15 (wrap64 (x16 + 1))) else (none)) else (none)) else (deadfallref08_Step.l0 k x0 x1 x2 x7 x15 (wrap64 (x16 + 1)))) else (none)))))))) else (deadfallref08_Step.l0 k x0 x1 x2 x7 x15 (wrap64 (x16 + 1)))) else (none)) else (none)) else ((deadfallref08_Reach.f k x0 x7).bind fun t334 => (some t334))
def deadfallref08_Step.f (k : Nat) (l0 : List (S165)) (l1 : List Bool) (a2 : Int) : Option (List Bool) := if 0 ≤ (wrap64 ((l0.length : Int) + 1)) then (if (wrap64 ((l0.length : Int) + 1) : Int).toNat ≤ 281474976710656 then (deadfallref08_Step.l0 k l0 l1 a2 (List.replicate (wrap64 ((l0.length : Int) + 1) : Int).toNat false) (l0.length : Int) 0) else (none)) else (none)
theorem deadfallref08_Step.mono_l : ∀ k, (∀ y0 y1 y2 y3 y4 y5, LeO (deadfallref08_Step.l0 k y0 y1 y2 y3 y4 y5) (deadfallref08_Step.l0 (k + 1) y0 y1 y2 y3 y4 y5))
  | 0 => fun _ _ _ _ _ _ r h => by simp [deadfallref08_Step.l0] at h
  | k + 1 => by
    have ih0 := deadfallref08_Step.mono_l k
    · intro y0 y1 y2 y3 y4 y5
      unfold deadfallref08_Step.l0
      repeat' first
      | (with_reducible exact ih0 _ _ _ _ _ _)
      | (with_reducible exact deadfallref08_End.mono _ _ _)
      | (with_reducible exact deadfallref08_Has.mono _ _ _ _ _)
      | (with_reducible exact deadfallref08_Reach.mono _ _ _)
      | (with_reducible exact LeO.refl _)
      | (with_reducible exact LeO.none _)
      | (with_reducible refine LeO.ite ?_ ?_)
      | (with_reducible refine LeO.bind ?_ (fun _ => ?_))
      | exact ih0 _ _ _ _ _ _
      | exact deadfallref08_End.mono _ _ _
      | exact deadfallref08_Has.mono _ _ _ _ _
      | exact deadfallref08_Reach.mono _ _ _
      | exact LeO.none _
      | refine LeO.ite ?_ ?_
      | refine LeO.bind ?_ (fun _ => ?_)
theorem deadfallref08_Step.mono : ∀ a0 a1 a2 k, LeO (deadfallref08_Step.f k a0 a1 a2) (deadfallref08_Step.f (k + 1) a0 a1 a2) := by
  intro a0 a1 a2 k
  have ih0 := deadfallref08_Step.mono_l k
  unfold deadfallref08_Step.f
  repeat' first
      | (with_reducible exact ih0 _ _ _ _ _ _)
      | (with_reducible exact deadfallref08_End.mono _ _ _)
      | (with_reducible exact deadfallref08_Has.mono _ _ _ _ _)
      | (with_reducible exact deadfallref08_Reach.mono _ _ _)
      | (with_reducible exact LeO.refl _)
      | (with_reducible exact LeO.none _)
      | (with_reducible refine LeO.ite ?_ ?_)
      | (with_reducible refine LeO.bind ?_ (fun _ => ?_))
      | exact ih0 _ _ _ _ _ _
      | exact deadfallref08_End.mono _ _ _
      | exact deadfallref08_Has.mono _ _ _ _ _
      | exact deadfallref08_Reach.mono _ _ _
      | exact LeO.none _
      | refine LeO.ite ?_ ?_
      | refine LeO.bind ?_ (fun _ => ?_)
set_option maxHeartbeats 8000000 in
set_option maxRecDepth 100000 in
theorem deadfallref08_Step.calls (k : Nat) (A0 : Option Addr) (c0 : Nat) (l0 : List (S165)) (A1 : Option Addr) (c1 : Nat) (l1 : List Bool) (a2 : Int) (r : List Bool) (w : World) (hr0 : Kd.C k165 w A0 l0.length l0) (hc0 : l0.length ≤ c0) (hr1 : Kd.C Kd.bool w A1 l1.length l1) (hc1 : l1.length ≤ c1) (h : deadfallref08_Step.f k l0 l1 a2 = some r) :
    Calls Try.prog 98 #[.slice A0 l0.length c0, .slice A1 l1.length c1, .int .u8 a2] w fun e w' => ∃ v0_ : Value, e = .returned (v0_) ∧ Kd.R Kd.bool 4 w' w.heap.size (fun _ => True) v0_ r ∧ Below w.heap.size w w' := by
  have HR0 := Aside0.mk hr0
  have HC0 := Aside0.mk hc0
  clear hr0 hc0
  have HR1 := Aside0.mk hr1
  have HC1 := Aside0.mk hc1
  clear hr1 hc1
  have HB := Aside0.mk (Below.refl w.heap.size w)
  have H : (if 0 ≤ (wrap64 ((l0.length : Int) + 1)) then (if (wrap64 ((l0.length : Int) + 1) : Int).toNat ≤ 281474976710656 then (deadfallref08_Step.l0 k l0 l1 a2 (List.replicate (wrap64 ((l0.length : Int) + 1) : Int).toNat false) (l0.length : Int) 0) else (none)) else (none)) = some r := h
  clear h
  obtain ⟨ji4, hji4⟩ : ∃ j_ : Int, (wrap64 ((l0.length : Int) + 1)) = j_ := ⟨_, rfl⟩
  replace H : (if 0 ≤ (ji4) then (if (ji4 : Int).toNat ≤ 281474976710656 then (deadfallref08_Step.l0 k l0 l1 a2 (List.replicate (ji4 : Int).toNat false) (l0.length : Int) 0) else (none)) else (none)) = some r := by first | (rw [hji4] at H; exact H) | (simp only [hji4] at H ⊢; exact H)
  have hji4w : (IntKind.i64.wrap ((l0.length : Int) + 1)) = ji4 := (i64_w _).trans hji4
  by_cases c5 : 0 ≤ (ji4)
  · rw [if_pos c5] at H
    have c5b0 := eq_true c5
    have c5b1 : decide (0 ≤ (ji4)) = true := decide_eq_true c5
    clear c5
    by_cases c6 : (ji4 : Int).toNat ≤ 281474976710656
    · rw [if_pos c6] at H
      have c6b0 := eq_true c6
      have c6b1 : decide ((ji4 : Int).toNat ≤ 281474976710656) = true := decide_eq_true c6
      clear c6
      obtain ⟨y331, hy331⟩ : ∃ y_ : List Bool, y_ = (List.replicate (ji4 : Int).toNat false) := ⟨_, rfl⟩
      replace H : (deadfallref08_Step.l0 k l0 l1 a2 y331 (l0.length : Int) 0) = some r := by first | (rw [hy331]; with_reducible exact H) | (have H2_ := (Option.bind_some _ _).symm.trans H; rw [hy331]; with_reducible exact H2_) | (have H2_ := (Option.bind_some _ _).symm.trans H; with_reducible exact H2_) | with_reducible exact H | (rw [hy331]; exact H) | exact H
      have Ny331 := Aside0.mk hy331
      clear hy331
      have H' := Aside0.mk H
      clear H
      go_enter Try.func98, Try.ntmps98
      go_wp2_with (first | ((with_reducible refine gate_dst (N := 13) rfl ?_); refine Kd.R_make Kd.bool _ 4 rfl (N := 13) rfl 49 _ _ rfl ji4 rfl rfl Try.underlying49 (.bool false) 1 info4 rfl (by decide) (by omega) false (ok := fun _ => True) (okp := fun _ => True) rfl (fun _ hk => hk) trivial (of_decide_eq_true (by first | (with_reducible assumption) | assumption)) (Nat.le_trans (Nat.mul_le_mul_right _ (of_decide_eq_true (by first | (with_reducible assumption) | assumption) : ji4.toNat ≤ 281474976710656)) (by omega)) (Below.refl _ _) (Nat.le_refl _) ?_; intro v332 w7 ho8 hb hg_ hnew_; clear hg_ hnew_; (first | rw [← Ny331.out] at ho8 | (simp only [Int.reduceToNat] at ho8; rw [← Ny331.out] at ho8)); have n0_ := Aside0.mk (Kd.R_lower ho8 (below_size (by repeat (first | (with_reducible first | exact HB.out | apply below_alloc | apply pw_below_drewN | apply below_drew1) | exact HB.out)))); have n1_ := Aside0.mk (below_step (by repeat (first | (with_reducible first | exact HB.out | apply below_alloc | apply pw_below_drewN | apply below_drew1) | exact HB.out)) hb); clear HB; have HO333 := n0_; have HB := n1_; clear n0_ n1_; clear hb ho8))
      go_loopg [16] k (fun kq v16 w' => ∃ (x7_1 : List Bool) (x16_1 : Int), v16 = .int .i64 x16_1 ∧ Aside0 (deadfallref08_Step.l0 kq l0 l1 a2 x7_1 (l0.length : Int) x16_1 = some r) ∧ Aside0 (kq ≤ k) ∧ Aside0 (Kd.R Kd.bool 4 w' w.heap.size (fun _ => True) v332 x7_1) ∧ Aside0 (Below w.heap.size w w'))
      case atStart => exact ⟨(y331), (0), (by first | rfl | (simp; done) | (simp [*]; done)), H', ⟨Nat.le_refl _⟩, ⟨by (with_reducible repeat (first | apply Kd.R_alloc | apply Kd.R_drewN | apply Kd.R_drew)); exact HO333.out⟩, ⟨by repeat (first | (with_reducible first | exact HB.out | apply below_alloc | apply pw_below_drewN | apply below_drew1) | exact HB.out)⟩⟩
      case round =>
        clear H'
        try clear c1
        try clear p2
        try clear c5
        try clear c5b0
        try clear c5b1
        try clear c6
        try clear c6b0
        try clear c6b1
        try clear p6
        obtain ⟨x7_1, x16_1, rfl, HA, HK1, HO_7, HB⟩ := hrel
        cases gk with
        | zero => exact absurd HA.out (by simp [deadfallref08_Step.l0])
        | succ k1 =>
          have H := HA.out
          clear HA
          simp only [deadfallref08_Step.l0] at H
          by_cases c9 : x16_1 < (l0.length : Int)
          · rw [if_pos c9] at H
            have c9b0 : decide (x16_1 < (l0.length : Int)) = true := decide_eq_true c9
            clear c9
            by_cases c10 : 0 ≤ x16_1
            · rw [if_pos c10] at H
              have c10b0 : decide (0 ≤ x16_1) = true := decide_eq_true c10
              clear c10
              by_cases c11 : x16_1 < (l1.length : Int)
              · rw [if_pos c11] at H
                have c11b0 : decide (x16_1 < (l1.length : Int)) = true := decide_eq_true c11
                clear c11
                obtain ⟨bq12, hbq12⟩ : ∃ b_ : Bool, b_ = (rdOf false l1 x16_1) := ⟨_, rfl⟩
                replace H : (if bq12 = true then ((deadfallref08_End.f k1 l0 x16_1).bind fun t338 => ((deadfallref08_is.f l0 x16_1 42).bind fun t339 => (if t339 = true then (if x16_1 < (x7_1.length : Int) then (deadfallref08_Step.l0 k1 l0 l1 a2 (x7_1.set (x16_1 : Int).toNat true) (l0.length : Int) (wrap64 (x16_1 + 1))) else (none)) else (if t338 ≥ 0 then (if 0 ≤ (wrap64 (t338 + 1)) then (if (wrap64 (t338 + 1)) < (x7_1.length : Int) then (if rdOf false x7_1 (wrap64 (t338 + 1)) = true then (deadfallref08_Step.l0 k1 l0 l1 a2 (x7_1.set ((wrap64 (t338 + 1)) : Int).toNat true) (l0.length : Int) (wrap64 (x16_1 + 1))) else ((deadfallref08_Has.f k1 l0 x16_1 t338 a2).bind fun t343 => (deadfallref08_Step.l0 k1 l0 l1 a2 (x7_1.set ((wrap64 (t338 + 1)) : Int).toNat t343) (l0.length : Int) (wrap64 (x16_1 + 1))))) else (none)) else (none)) else ((deadfallref08_is.f l0 x16_1 63).bind fun t345 => (if t345 = true then (if 0 ≤ (wrap64 (x16_1 + 1)) then (if (wrap64 (x16_1 + 1)) < (x7_1.length : Int) then (deadfallref08_Step.l0 k1 l0 l1 a2 (x7_1.set ((wrap64 (x16_1 + 1)) : Int).toNat true) (l0.length : Int) (wrap64 (x16_1 + 1))) else (none)) else (none)) else (if x16_1 < (l0.length : Int) then (if ((rd_T165 l0 x16_1).f0) = a2 then (if 0 ≤ (wrap64 (x16_1 + 1)) then (if (wrap64 (x16_1 + 1)) < (x7_1.length : Int) then (deadfallref08_Step.l0 k1 l0 l1 a2 (x7_1.set ((wrap64 (x16_1 + 1)) : Int).toNat true) (l0.length : Int) (wrap64 (x16_1 + 1))) else (none)) else (none)) else (deadfallref08_Step.l0 k1 l0 l1 a2 x7_1 (l0.length : Int) (wrap64 (x16_1 + 1)))) else (none)))))))) else (deadfallref08_Step.l0 k1 l0 l1 a2 x7_1 (l0.length : Int) (wrap64 (x16_1 + 1)))) = some r := by rw [← hbq12] at H; exact H
                have Nbq12 := Aside0.mk hbq12
                clear hbq12
                by_cases c13 : bq12 = true
                · subst c13
                  have H1 : ((deadfallref08_End.f k1 l0 x16_1).bind fun t338 => ((deadfallref08_is.f l0 x16_1 42).bind fun t339 => (if t339 = true then (if x16_1 < (x7_1.length : Int) then (deadfallref08_Step.l0 k1 l0 l1 a2 (x7_1.set (x16_1 : Int).toNat true) (l0.length : Int) (wrap64 (x16_1 + 1))) else (none)) else (if t338 ≥ 0 then (if 0 ≤ (wrap64 (t338 + 1)) then (if (wrap64 (t338 + 1)) < (x7_1.length : Int) then (if rdOf false x7_1 (wrap64 (t338 + 1)) = true then (deadfallref08_Step.l0 k1 l0 l1 a2 (x7_1.set ((wrap64 (t338 + 1)) : Int).toNat true) (l0.length : Int) (wrap64 (x16_1 + 1))) else ((deadfallref08_Has.f k1 l0 x16_1 t338 a2).bind fun t343 => (deadfallref08_Step.l0 k1 l0 l1 a2 (x7_1.set ((wrap64 (t338 + 1)) : Int).toNat t343) (l0.length : Int) (wrap64 (x16_1 + 1))))) else (none)) else (none)) else ((deadfallref08_is.f l0 x16_1 63).bind fun t345 => (if t345 = true then (if 0 ≤ (wrap64 (x16_1 + 1)) then (if (wrap64 (x16_1 + 1)) < (x7_1.length : Int) then (deadfallref08_Step.l0 k1 l0 l1 a2 (x7_1.set ((wrap64 (x16_1 + 1)) : Int).toNat true) (l0.length : Int) (wrap64 (x16_1 + 1))) else (none)) else (none)) else (if x16_1 < (l0.length : Int) then (if ((rd_T165 l0 x16_1).f0) = a2 then (if 0 ≤ (wrap64 (x16_1 + 1)) then (if (wrap64 (x16_1 + 1)) < (x7_1.length : Int) then (deadfallref08_Step.l0 k1 l0 l1 a2 (x7_1.set ((wrap64 (x16_1 + 1)) : Int).toNat true) (l0.length : Int) (wrap64 (x16_1 + 1))) else (none)) else (none)) else (deadfallref08_Step.l0 k1 l0 l1 a2 x7_1 (l0.length : Int) (wrap64 (x16_1 + 1)))) else (none)))))))) = some r := by rw [if_pos rfl] at H; exact H
                  clear H
                  have H := H1
                  clear H1
                  replace H := Option.bind_eq_some_iff.mp H
                  obtain ⟨t338, A140, H⟩ := H
                  replace H : ((deadfallref08_is.f l0 x16_1 42).bind fun t339 => (if t339 = true then (if x16_1 < (x7_1.length : Int) then (deadfallref08_Step.l0 k1 l0 l1 a2 (x7_1.set (x16_1 : Int).toNat true) (l0.length : Int) (wrap64 (x16_1 + 1))) else (none)) else (if t338 ≥ 0 then (if 0 ≤ (wrap64 (t338 + 1)) then (if (wrap64 (t338 + 1)) < (x7_1.length : Int) then (if rdOf false x7_1 (wrap64 (t338 + 1)) = true then (deadfallref08_Step.l0 k1 l0 l1 a2 (x7_1.set ((wrap64 (t338 + 1)) : Int).toNat true) (l0.length : Int) (wrap64 (x16_1 + 1))) else ((deadfallref08_Has.f k1 l0 x16_1 t338 a2).bind fun t343 => (deadfallref08_Step.l0 k1 l0 l1 a2 (x7_1.set ((wrap64 (t338 + 1)) : Int).toNat t343) (l0.length : Int) (wrap64 (x16_1 + 1))))) else (none)) else (none)) else ((deadfallref08_is.f l0 x16_1 63).bind fun t345 => (if t345 = true then (if 0 ≤ (wrap64 (x16_1 + 1)) then (if (wrap64 (x16_1 + 1)) < (x7_1.length : Int) then (deadfallref08_Step.l0 k1 l0 l1 a2 (x7_1.set ((wrap64 (x16_1 + 1)) : Int).toNat true) (l0.length : Int) (wrap64 (x16_1 + 1))) else (none)) else (none)) else (if x16_1 < (l0.length : Int) then (if ((rd_T165 l0 x16_1).f0) = a2 then (if 0 ≤ (wrap64 (x16_1 + 1)) then (if (wrap64 (x16_1 + 1)) < (x7_1.length : Int) then (deadfallref08_Step.l0 k1 l0 l1 a2 (x7_1.set ((wrap64 (x16_1 + 1)) : Int).toNat true) (l0.length : Int) (wrap64 (x16_1 + 1))) else (none)) else (none)) else (deadfallref08_Step.l0 k1 l0 l1 a2 x7_1 (l0.length : Int) (wrap64 (x16_1 + 1)))) else (none))))))) = some r := H
                  have A14 := Aside0.mk A140
                  clear A140
                  replace H := Option.bind_eq_some_iff.mp H
                  obtain ⟨t339, A150, H⟩ := H
                  replace H : (if t339 = true then (if x16_1 < (x7_1.length : Int) then (deadfallref08_Step.l0 k1 l0 l1 a2 (x7_1.set (x16_1 : Int).toNat true) (l0.length : Int) (wrap64 (x16_1 + 1))) else (none)) else (if t338 ≥ 0 then (if 0 ≤ (wrap64 (t338 + 1)) then (if (wrap64 (t338 + 1)) < (x7_1.length : Int) then (if rdOf false x7_1 (wrap64 (t338 + 1)) = true then (deadfallref08_Step.l0 k1 l0 l1 a2 (x7_1.set ((wrap64 (t338 + 1)) : Int).toNat true) (l0.length : Int) (wrap64 (x16_1 + 1))) else ((deadfallref08_Has.f k1 l0 x16_1 t338 a2).bind fun t343 => (deadfallref08_Step.l0 k1 l0 l1 a2 (x7_1.set ((wrap64 (t338 + 1)) : Int).toNat t343) (l0.length : Int) (wrap64 (x16_1 + 1))))) else (none)) else (none)) else ((deadfallref08_is.f l0 x16_1 63).bind fun t345 => (if t345 = true then (if 0 ≤ (wrap64 (x16_1 + 1)) then (if (wrap64 (x16_1 + 1)) < (x7_1.length : Int) then (deadfallref08_Step.l0 k1 l0 l1 a2 (x7_1.set ((wrap64 (x16_1 + 1)) : Int).toNat true) (l0.length : Int) (wrap64 (x16_1 + 1))) else (none)) else (none)) else (if x16_1 < (l0.length : Int) then (if ((rd_T165 l0 x16_1).f0) = a2 then (if 0 ≤ (wrap64 (x16_1 + 1)) then (if (wrap64 (x16_1 + 1)) < (x7_1.length : Int) then (deadfallref08_Step.l0 k1 l0 l1 a2 (x7_1.set ((wrap64 (x16_1 + 1)) : Int).toNat true) (l0.length : Int) (wrap64 (x16_1 + 1))) else (none)) else (none)) else (deadfallref08_Step.l0 k1 l0 l1 a2 x7_1 (l0.length : Int) (wrap64 (x16_1 + 1)))) else (none)))))) = some r := H
                  have A15 := Aside0.mk A150
                  clear A150
                  by_cases c16 : t339 = true
                  · subst c16
                    have H1 : (if x16_1 < (x7_1.length : Int) then (deadfallref08_Step.l0 k1 l0 l1 a2 (x7_1.set (x16_1 : Int).toNat true) (l0.length : Int) (wrap64 (x16_1 + 1))) else (none)) = some r := by rw [if_pos rfl] at H; exact H
                    clear H
                    have H := H1
                    clear H1
                    by_cases c17 : x16_1 < (x7_1.length : Int)
                    · rw [if_pos c17] at H
                      have c17b0 : decide (x16_1 < (x7_1.length : Int)) = true := decide_eq_true c17
                      clear c17
                      obtain ⟨y340, hy340⟩ : ∃ y_ : List Bool, y_ = (x7_1.set (x16_1 : Int).toNat true) := ⟨_, rfl⟩
                      replace H : (deadfallref08_Step.l0 k1 l0 l1 a2 y340 (l0.length : Int) (wrap64 (x16_1 + 1))) = some r := by first | (rw [hy340]; with_reducible exact H) | (have H2_ := (Option.bind_some _ _).symm.trans H; rw [hy340]; with_reducible exact H2_) | (have H2_ := (Option.bind_some _ _).symm.trans H; with_reducible exact H2_) | with_reducible exact H | (rw [hy340]; exact H) | exact H
                      have Ny340 := Aside0.mk hy340
                      clear hy340
                      have H' := Aside0.mk H
                      clear H
                      have p337 : 0 ≤ (x16_1 : Int) := of_decide_eq_true (by first | (with_reducible assumption) | assumption)
                      have q337 : x16_1 < (l1.length : Int) := of_decide_eq_true (by first | (with_reducible assumption) | assumption)
                      obtain ⟨ad337, e337, hx337_0⟩ := Kd.at_bool HR1.out x16_1 p337 q337
                      (try rw [← Nbq12.out] at hx337_0)
                      cases e337
                      replace hx337_0 := (HB.out.cell (World.block_lt_of_cell? w _ hx337_0)).trans hx337_0
                      replace p337 := eq_true p337
                      replace q337 := eq_true q337
                      go_wp2_with (first | ((with_reducible refine gate_callee (f := 100) rfl ?_); refine goesL_ (some 26) rfl rfl Try.func100 (by kernel_rfl) rfl #[.slice A0 l0.length c0, .int .i64 x16_1] rfl (by (try simp only [List.map_toArray, List.map_cons, List.map_nil]); first | done | rfl | (simp only [List.length_drop, List.length_take]; rfl)) ?_; (with_reducible refine (deadfallref08_End.calls k1 _ _ l0 x16_1 t338 _ ?side1 ?side2 A14.out).mono ?_); (case side1 => repeat (first | exact (Kd.C_below HR0.out HB.out) | (with_reducible refine Kd.C_alloc ?_ _) | (with_reducible refine Kd.C_drewN ?_ _) | (with_reducible refine Kd.C_drew ?_))); (case side2 => exact HC0.out); rintro e w' ⟨rfl, ⟨nd, rfl⟩⟩; refine ⟨_, rfl, ?_⟩; (try (rw [drewN_self wr]; generalize hq_ : World.drewN wr _ = wr; have n0_ : Aside0 (Kd.R Kd.bool 4 wr w.heap.size (fun _ => True) v332 x7_1) := ⟨by rw [← hq_]; exact (by (with_reducible repeat (first | apply Kd.R_alloc | apply Kd.R_drewN | apply Kd.R_drew)); exact HO_7.out)⟩; have n1_ : Aside0 (Below w.heap.size w wr) := ⟨by rw [← hq_]; exact (by repeat (first | (with_reducible first | exact HB.out | apply below_alloc | apply pw_below_drewN | apply below_drew1) | exact HB.out))⟩; clear HO_7 HB hq_; have HO_7 := n0_; have HB := n1_; clear n0_ n1_))) | ((with_reducible refine gate_callee (f := 99) rfl ?_); refine goesL_ (some 29) rfl rfl Try.func99 (by kernel_rfl) rfl #[.slice A0 l0.length c0, .int .i64 x16_1, .int .u8 42] rfl (by (try simp only [List.map_toArray, List.map_cons, List.map_nil]); first | done | rfl | (simp only [List.length_drop, List.length_take]; rfl)) ?_; (with_reducible refine (deadfallref08_is.calls _ _ l0 x16_1 42 true _ ?side1 ?side2 A15.out).mono ?_); (case side1 => repeat (first | exact (Kd.C_below HR0.out HB.out) | (with_reducible refine Kd.C_alloc ?_ _) | (with_reducible refine Kd.C_drewN ?_ _) | (with_reducible refine Kd.C_drew ?_))); (case side2 => exact HC0.out); rintro e w' ⟨rfl, ⟨nd, rfl⟩⟩; refine ⟨_, rfl, ?_⟩; (try (rw [drewN_self wr]; generalize hq_ : World.drewN wr _ = wr; have n0_ : Aside0 (Kd.R Kd.bool 4 wr w.heap.size (fun _ => True) v332 x7_1) := ⟨by rw [← hq_]; exact (by (with_reducible repeat (first | apply Kd.R_alloc | apply Kd.R_drewN | apply Kd.R_drew)); exact HO_7.out)⟩; have n1_ : Aside0 (Below w.heap.size w wr) := ⟨by rw [← hq_]; exact (by repeat (first | (with_reducible first | exact HB.out | apply below_alloc | apply pw_below_drewN | apply below_drew1) | exact HB.out))⟩; clear HO_7 HB hq_; have HO_7 := n0_; have HB := n1_; clear n0_ n1_)); have p18 : 0 ≤ (x16_1 : Int) := of_decide_eq_true (by first | (with_reducible assumption) | assumption); have q18 : (x16_1 : Int) < ((x7_1.length : Int) : Int) := of_decide_eq_true (by first | (with_reducible assumption) | assumption); obtain ⟨go18, co18, eo18, gb18, gl18, cl18, HG18⟩ := Kd.R_form HO_7.out (by omega); (first | cases eo18 | (injection eo18 with ea_ en_ ec_; (first | subst ea_ | (injection ea_ with ea_; subst ea_)); subst ec_; clear en_)); have GB18 := Aside0.mk gb18; have GG18 := Aside0.mk HG18; clear gb18 gl18 HG18; obtain ⟨hx18_0, hf18_0⟩ := Kd.R_celln false HO_7.out (x16_1 : Int) p18 q18; replace p18 := eq_true p18; replace q18 := eq_true q18; obtain ⟨hy19_, hz19_⟩ := Kd.R_celln false HO_7.out (x16_1 : Int) (of_decide_eq_true (by first | (with_reducible assumption) | assumption)) (of_decide_eq_true (by first | (with_reducible assumption) | assumption)); have HP19 := Kd.R_putg HO_7.out (x16_1 : Int) true) | ((with_reducible refine gate_store (t := 4) (p := 32) rfl ?_); refine store_event (t := 4) (p := 32) (v := ?vo_w20) (w1 := (wr.setCell ⟨go18, (x16_1 : Int).toNat, none⟩ (.bool true))) ?hg ?ho ?hn ?hr ?_; (case ho => rfl); (case hg => rfl); (case hn => rfl); (case hr => first | (go_simp; done) | (go_simp; rfl)); intro w20 hw; have hg : wr.grownBy w20 (some go18) := (by rw [hw]; exact HP19.2); have hp_ : Kd.R Kd.bool 4 w20 w.heap.size (fun _ => True) (.slice (some ⟨go18, 0, none⟩) x7_1.length co18) y340 := (by rw [hw, Ny340.out]; exact HP19.1); clear HP19; have n0_ := Aside0.mk (hp_); have n1_ := Aside0.mk ((by rw [hw]; exact below_set (HB.out) GB18.out : Below w.heap.size w w20)); clear HO_7; clear HB; have HO_7 := n0_; have HB := n1_; clear n0_ n1_; clear hg hw hp_))
                      go_roundg k1
                      case measure => have := HK1.out; omega
                      case rel => exact ⟨(y340), (wrap64 (x16_1 + 1)), (by first | rfl | (simp; done) | (simp [*]; done)), H', ⟨by have := HK1.out; omega⟩, ⟨by (with_reducible repeat (first | apply Kd.R_alloc | apply Kd.R_drewN | apply Kd.R_drew)); exact HO_7.out⟩, ⟨by repeat (first | (with_reducible first | exact HB.out | apply below_alloc | apply pw_below_drewN | apply below_drew1) | exact HB.out)⟩⟩
                    · rw [if_neg c17] at H
                      exact absurd H (by simp)
                  · replace c16 := Bool.eq_false_iff.mpr c16
                    subst c16
                    have H1 : (if t338 ≥ 0 then (if 0 ≤ (wrap64 (t338 + 1)) then (if (wrap64 (t338 + 1)) < (x7_1.length : Int) then (if rdOf false x7_1 (wrap64 (t338 + 1)) = true then (deadfallref08_Step.l0 k1 l0 l1 a2 (x7_1.set ((wrap64 (t338 + 1)) : Int).toNat true) (l0.length : Int) (wrap64 (x16_1 + 1))) else ((deadfallref08_Has.f k1 l0 x16_1 t338 a2).bind fun t343 => (deadfallref08_Step.l0 k1 l0 l1 a2 (x7_1.set ((wrap64 (t338 + 1)) : Int).toNat t343) (l0.length : Int) (wrap64 (x16_1 + 1))))) else (none)) else (none)) else ((deadfallref08_is.f l0 x16_1 63).bind fun t345 => (if t345 = true then (if 0 ≤ (wrap64 (x16_1 + 1)) then (if (wrap64 (x16_1 + 1)) < (x7_1.length : Int) then (deadfallref08_Step.l0 k1 l0 l1 a2 (x7_1.set ((wrap64 (x16_1 + 1)) : Int).toNat true) (l0.length : Int) (wrap64 (x16_1 + 1))) else (none)) else (none)) else (if x16_1 < (l0.length : Int) then (if ((rd_T165 l0 x16_1).f0) = a2 then (if 0 ≤ (wrap64 (x16_1 + 1)) then (if (wrap64 (x16_1 + 1)) < (x7_1.length : Int) then (deadfallref08_Step.l0 k1 l0 l1 a2 (x7_1.set ((wrap64 (x16_1 + 1)) : Int).toNat true) (l0.length : Int) (wrap64 (x16_1 + 1))) else (none)) else (none)) else (deadfallref08_Step.l0 k1 l0 l1 a2 x7_1 (l0.length : Int) (wrap64 (x16_1 + 1)))) else (none))))) = some r := by rw [if_neg (show ¬ (false = true) by decide)] at H; exact H
                    clear H
                    have H := H1
                    clear H1
                    by_cases c21 : t338 ≥ 0
                    · rw [if_pos c21] at H
                      have c21b0 : decide (0 ≤ t338) = true := decide_eq_true c21
                      clear c21
                      obtain ⟨ji22, hji22⟩ : ∃ j_ : Int, (wrap64 (t338 + 1)) = j_ := ⟨_, rfl⟩
                      replace H : (if 0 ≤ (ji22) then (if (ji22) < (x7_1.length : Int) then (if rdOf false x7_1 (ji22) = true then (deadfallref08_Step.l0 k1 l0 l1 a2 (x7_1.set ((ji22) : Int).toNat true) (l0.length : Int) (wrap64 (x16_1 + 1))) else ((deadfallref08_Has.f k1 l0 x16_1 t338 a2).bind fun t343 => (deadfallref08_Step.l0 k1 l0 l1 a2 (x7_1.set ((ji22) : Int).toNat t343) (l0.length : Int) (wrap64 (x16_1 + 1))))) else (none)) else (none)) = some r := by first | (rw [hji22] at H; exact H) | (simp only [hji22] at H ⊢; exact H)
                      (try rw [hji22] at A14)
                      (try rw [hji22] at A15)
                      have hji22w : (IntKind.i64.wrap (t338 + 1)) = ji22 := (i64_w _).trans hji22
                      by_cases c23 : 0 ≤ (ji22)
                      · rw [if_pos c23] at H
                        have c23b0 : decide (0 ≤ (ji22)) = true := decide_eq_true c23
                        clear c23
                        by_cases c24 : (ji22) < (x7_1.length : Int)
                        · rw [if_pos c24] at H
                          have c24b0 : decide ((ji22) < (x7_1.length : Int)) = true := decide_eq_true c24
                          clear c24
                          obtain ⟨bq25, hbq25⟩ : ∃ b_ : Bool, b_ = (rdOf false x7_1 (ji22)) := ⟨_, rfl⟩
                          replace H : (if bq25 = true then (deadfallref08_Step.l0 k1 l0 l1 a2 (x7_1.set ((ji22) : Int).toNat true) (l0.length : Int) (wrap64 (x16_1 + 1))) else ((deadfallref08_Has.f k1 l0 x16_1 t338 a2).bind fun t343 => (deadfallref08_Step.l0 k1 l0 l1 a2 (x7_1.set ((ji22) : Int).toNat t343) (l0.length : Int) (wrap64 (x16_1 + 1))))) = some r := by rw [← hbq25] at H; exact H
                          have Nbq25 := Aside0.mk hbq25
                          clear hbq25
                          by_cases c26 : bq25 = true
                          · subst c26
                            have H1 : (deadfallref08_Step.l0 k1 l0 l1 a2 (x7_1.set ((ji22) : Int).toNat true) (l0.length : Int) (wrap64 (x16_1 + 1))) = some r := by rw [if_pos rfl] at H; exact H
                            clear H
                            have H := H1
                            clear H1
                            obtain ⟨y342, hy342⟩ : ∃ y_ : List Bool, y_ = (x7_1.set ((ji22) : Int).toNat true) := ⟨_, rfl⟩
                            replace H : (deadfallref08_Step.l0 k1 l0 l1 a2 y342 (l0.length : Int) (wrap64 (x16_1 + 1))) = some r := by first | (rw [hy342]; with_reducible exact H) | (have H2_ := (Option.bind_some _ _).symm.trans H; rw [hy342]; with_reducible exact H2_) | (have H2_ := (Option.bind_some _ _).symm.trans H; with_reducible exact H2_) | with_reducible exact H | (rw [hy342]; exact H) | exact H
                            have Ny342 := Aside0.mk hy342
                            clear hy342
                            have H' := Aside0.mk H
                            clear H
                            have p337 : 0 ≤ (x16_1 : Int) := of_decide_eq_true (by first | (with_reducible assumption) | assumption)
                            have q337 : x16_1 < (l1.length : Int) := of_decide_eq_true (by first | (with_reducible assumption) | assumption)
                            obtain ⟨ad337, e337, hx337_0⟩ := Kd.at_bool HR1.out x16_1 p337 q337
                            (try rw [← Nbq12.out] at hx337_0)
                            (try rw [← Nbq25.out] at hx337_0)
                            cases e337
                            replace hx337_0 := (HB.out.cell (World.block_lt_of_cell? w _ hx337_0)).trans hx337_0
                            replace p337 := eq_true p337
                            replace q337 := eq_true q337
                            go_wp2_with (first | ((with_reducible refine gate_callee (f := 100) rfl ?_); refine goesL_ (some 26) rfl rfl Try.func100 (by kernel_rfl) rfl #[.slice A0 l0.length c0, .int .i64 x16_1] rfl (by (try simp only [List.map_toArray, List.map_cons, List.map_nil]); first | done | rfl | (simp only [List.length_drop, List.length_take]; rfl)) ?_; (with_reducible refine (deadfallref08_End.calls k1 _ _ l0 x16_1 t338 _ ?side1 ?side2 A14.out).mono ?_); (case side1 => repeat (first | exact (Kd.C_below HR0.out HB.out) | (with_reducible refine Kd.C_alloc ?_ _) | (with_reducible refine Kd.C_drewN ?_ _) | (with_reducible refine Kd.C_drew ?_))); (case side2 => exact HC0.out); rintro e w' ⟨rfl, ⟨nd, rfl⟩⟩; refine ⟨_, rfl, ?_⟩; (try (rw [drewN_self wr]; generalize hq_ : World.drewN wr _ = wr; have n0_ : Aside0 (Kd.R Kd.bool 4 wr w.heap.size (fun _ => True) v332 x7_1) := ⟨by rw [← hq_]; exact (by (with_reducible repeat (first | apply Kd.R_alloc | apply Kd.R_drewN | apply Kd.R_drew)); exact HO_7.out)⟩; have n1_ : Aside0 (Below w.heap.size w wr) := ⟨by rw [← hq_]; exact (by repeat (first | (with_reducible first | exact HB.out | apply below_alloc | apply pw_below_drewN | apply below_drew1) | exact HB.out))⟩; clear HO_7 HB hq_; have HO_7 := n0_; have HB := n1_; clear n0_ n1_))) | ((with_reducible refine gate_callee (f := 99) rfl ?_); refine goesL_ (some 29) rfl rfl Try.func99 (by kernel_rfl) rfl #[.slice A0 l0.length c0, .int .i64 x16_1, .int .u8 42] rfl (by (try simp only [List.map_toArray, List.map_cons, List.map_nil]); first | done | rfl | (simp only [List.length_drop, List.length_take]; rfl)) ?_; (with_reducible refine (deadfallref08_is.calls _ _ l0 x16_1 42 false _ ?side1 ?side2 A15.out).mono ?_); (case side1 => repeat (first | exact (Kd.C_below HR0.out HB.out) | (with_reducible refine Kd.C_alloc ?_ _) | (with_reducible refine Kd.C_drewN ?_ _) | (with_reducible refine Kd.C_drew ?_))); (case side2 => exact HC0.out); rintro e w' ⟨rfl, ⟨nd, rfl⟩⟩; refine ⟨_, rfl, ?_⟩; (try (rw [drewN_self wr]; generalize hq_ : World.drewN wr _ = wr; have n0_ : Aside0 (Kd.R Kd.bool 4 wr w.heap.size (fun _ => True) v332 x7_1) := ⟨by rw [← hq_]; exact (by (with_reducible repeat (first | apply Kd.R_alloc | apply Kd.R_drewN | apply Kd.R_drew)); exact HO_7.out)⟩; have n1_ : Aside0 (Below w.heap.size w wr) := ⟨by rw [← hq_]; exact (by repeat (first | (with_reducible first | exact HB.out | apply below_alloc | apply pw_below_drewN | apply below_drew1) | exact HB.out))⟩; clear HO_7 HB hq_; have HO_7 := n0_; have HB := n1_; clear n0_ n1_)); obtain ⟨Ao28, co28, eo28⟩ := Kd.R_slice HO_7.out; subst eo28; have p341 : 0 ≤ ((ji22) : Int) := of_decide_eq_true (by first | (with_reducible assumption) | assumption); have q341 : (ji22) < (x7_1.length : Int) := of_decide_eq_true (by first | (with_reducible assumption) | assumption); obtain ⟨ad341, e341, hx341_0⟩ := Kd.at_bool (Kd.R_reads' HO_7.out).2.2 (ji22) p341 q341; (try rw [← Nbq12.out] at hx341_0); (try rw [← Nbq25.out] at hx341_0); cases e341; replace p341 := eq_true p341; replace q341 := eq_true q341; have p27 : 0 ≤ ((ji22) : Int) := of_decide_eq_true (by first | (with_reducible assumption) | assumption); have q27 : ((ji22) : Int) < ((x7_1.length : Int) : Int) := of_decide_eq_true (by first | (with_reducible assumption) | assumption); obtain ⟨go27, co27, eo27, gb27, gl27, cl27, HG27⟩ := Kd.R_form HO_7.out (by omega); (first | cases eo27 | (injection eo27 with ea_ en_ ec_; (first | subst ea_ | (injection ea_ with ea_; subst ea_)); subst ec_; clear en_)); have GB27 := Aside0.mk gb27; have GG27 := Aside0.mk HG27; clear gb27 gl27 HG27; (first | simp only [add_plain] at hx341_0 | skip); obtain ⟨hx27_0, hf27_0⟩ := Kd.R_celln false HO_7.out ((ji22) : Int) p27 q27; replace p27 := eq_true p27; replace q27 := eq_true q27; obtain ⟨hy29_, hz29_⟩ := Kd.R_celln false HO_7.out ((ji22) : Int) (of_decide_eq_true (by first | (with_reducible assumption) | assumption)) (of_decide_eq_true (by first | (with_reducible assumption) | assumption)); have HP29 := Kd.R_putg HO_7.out ((ji22) : Int) true) | ((with_reducible refine gate_store (t := 4) (p := 50) rfl ?_); refine store_event (t := 4) (p := 50) (v := ?vo_w30) (w1 := (wr.setCell ⟨go27, ((ji22) : Int).toNat, none⟩ (.bool true))) ?hg ?ho ?hn ?hr ?_; (case ho => rfl); (case hg => rfl); (case hn => rfl); (case hr => first | (go_simp; done) | (go_simp; rfl)); intro w30 hw; have hg : wr.grownBy w30 (some go27) := (by rw [hw]; exact HP29.2); have hp_ : Kd.R Kd.bool 4 w30 w.heap.size (fun _ => True) (.slice (some ⟨go27, 0, none⟩) x7_1.length co28) y342 := (by rw [hw, Ny342.out]; exact HP29.1); clear HP29; have n0_ := Aside0.mk (hp_); have n1_ := Aside0.mk ((by rw [hw]; exact below_set (HB.out) GB27.out : Below w.heap.size w w30)); clear HO_7; clear HB; have HO_7 := n0_; have HB := n1_; clear n0_ n1_; clear hg hw hp_))
                            go_roundg k1
                            case measure => have := HK1.out; omega
                            case rel => exact ⟨(y342), (wrap64 (x16_1 + 1)), (by first | rfl | (simp; done) | (simp [*]; done)), H', ⟨by have := HK1.out; omega⟩, ⟨by (with_reducible repeat (first | apply Kd.R_alloc | apply Kd.R_drewN | apply Kd.R_drew)); exact HO_7.out⟩, ⟨by repeat (first | (with_reducible first | exact HB.out | apply below_alloc | apply pw_below_drewN | apply below_drew1) | exact HB.out)⟩⟩
                          · replace c26 := Bool.eq_false_iff.mpr c26
                            subst c26
                            have H1 : ((deadfallref08_Has.f k1 l0 x16_1 t338 a2).bind fun t343 => (deadfallref08_Step.l0 k1 l0 l1 a2 (x7_1.set ((ji22) : Int).toNat t343) (l0.length : Int) (wrap64 (x16_1 + 1)))) = some r := by rw [if_neg (show ¬ (false = true) by decide)] at H; exact H
                            clear H
                            have H := H1
                            clear H1
                            replace H := Option.bind_eq_some_iff.mp H
                            obtain ⟨t343, A310, H⟩ := H
                            replace H : (deadfallref08_Step.l0 k1 l0 l1 a2 (x7_1.set ((ji22) : Int).toNat t343) (l0.length : Int) (wrap64 (x16_1 + 1))) = some r := H
                            have A31 := Aside0.mk A310
                            clear A310
                            obtain ⟨y344, hy344⟩ : ∃ y_ : List Bool, y_ = (x7_1.set ((ji22) : Int).toNat t343) := ⟨_, rfl⟩
                            replace H : (deadfallref08_Step.l0 k1 l0 l1 a2 y344 (l0.length : Int) (wrap64 (x16_1 + 1))) = some r := by first | (rw [hy344]; with_reducible exact H) | (have H2_ := (Option.bind_some _ _).symm.trans H; rw [hy344]; with_reducible exact H2_) | (have H2_ := (Option.bind_some _ _).symm.trans H; with_reducible exact H2_) | with_reducible exact H | (rw [hy344]; exact H) | exact H
                            have Ny344 := Aside0.mk hy344
                            clear hy344
                            have H' := Aside0.mk H
                            clear H
                            have p337 : 0 ≤ (x16_1 : Int) := of_decide_eq_true (by first | (with_reducible assumption) | assumption)
                            have q337 : x16_1 < (l1.length : Int) := of_decide_eq_true (by first | (with_reducible assumption) | assumption)
                            obtain ⟨ad337, e337, hx337_0⟩ := Kd.at_bool HR1.out x16_1 p337 q337
                            (try rw [← Nbq12.out] at hx337_0)
                            (try rw [← Nbq25.out] at hx337_0)
                            cases e337
                            replace hx337_0 := (HB.out.cell (World.block_lt_of_cell? w _ hx337_0)).trans hx337_0
                            replace p337 := eq_true p337
                            replace q337 := eq_true q337
                            go_wp2_with (first | ((with_reducible refine gate_callee (f := 100) rfl ?_); refine goesL_ (some 26) rfl rfl Try.func100 (by kernel_rfl) rfl #[.slice A0 l0.length c0, .int .i64 x16_1] rfl (by (try simp only [List.map_toArray, List.map_cons, List.map_nil]); first | done | rfl | (simp only [List.length_drop, List.length_take]; rfl)) ?_; (with_reducible refine (deadfallref08_End.calls k1 _ _ l0 x16_1 t338 _ ?side1 ?side2 A14.out).mono ?_); (case side1 => repeat (first | exact (Kd.C_below HR0.out HB.out) | (with_reducible refine Kd.C_alloc ?_ _) | (with_reducible refine Kd.C_drewN ?_ _) | (with_reducible refine Kd.C_drew ?_))); (case side2 => exact HC0.out); rintro e w' ⟨rfl, ⟨nd, rfl⟩⟩; refine ⟨_, rfl, ?_⟩; (try (rw [drewN_self wr]; generalize hq_ : World.drewN wr _ = wr; have n0_ : Aside0 (Kd.R Kd.bool 4 wr w.heap.size (fun _ => True) v332 x7_1) := ⟨by rw [← hq_]; exact (by (with_reducible repeat (first | apply Kd.R_alloc | apply Kd.R_drewN | apply Kd.R_drew)); exact HO_7.out)⟩; have n1_ : Aside0 (Below w.heap.size w wr) := ⟨by rw [← hq_]; exact (by repeat (first | (with_reducible first | exact HB.out | apply below_alloc | apply pw_below_drewN | apply below_drew1) | exact HB.out))⟩; clear HO_7 HB hq_; have HO_7 := n0_; have HB := n1_; clear n0_ n1_))) | ((with_reducible refine gate_callee (f := 99) rfl ?_); refine goesL_ (some 29) rfl rfl Try.func99 (by kernel_rfl) rfl #[.slice A0 l0.length c0, .int .i64 x16_1, .int .u8 42] rfl (by (try simp only [List.map_toArray, List.map_cons, List.map_nil]); first | done | rfl | (simp only [List.length_drop, List.length_take]; rfl)) ?_; (with_reducible refine (deadfallref08_is.calls _ _ l0 x16_1 42 false _ ?side1 ?side2 A15.out).mono ?_); (case side1 => repeat (first | exact (Kd.C_below HR0.out HB.out) | (with_reducible refine Kd.C_alloc ?_ _) | (with_reducible refine Kd.C_drewN ?_ _) | (with_reducible refine Kd.C_drew ?_))); (case side2 => exact HC0.out); rintro e w' ⟨rfl, ⟨nd, rfl⟩⟩; refine ⟨_, rfl, ?_⟩; (try (rw [drewN_self wr]; generalize hq_ : World.drewN wr _ = wr; have n0_ : Aside0 (Kd.R Kd.bool 4 wr w.heap.size (fun _ => True) v332 x7_1) := ⟨by rw [← hq_]; exact (by (with_reducible repeat (first | apply Kd.R_alloc | apply Kd.R_drewN | apply Kd.R_drew)); exact HO_7.out)⟩; have n1_ : Aside0 (Below w.heap.size w wr) := ⟨by rw [← hq_]; exact (by repeat (first | (with_reducible first | exact HB.out | apply below_alloc | apply pw_below_drewN | apply below_drew1) | exact HB.out))⟩; clear HO_7 HB hq_; have HO_7 := n0_; have HB := n1_; clear n0_ n1_)); obtain ⟨Ao33, co33, eo33⟩ := Kd.R_slice HO_7.out; subst eo33; have p341 : 0 ≤ ((ji22) : Int) := of_decide_eq_true (by first | (with_reducible assumption) | assumption); have q341 : (ji22) < (x7_1.length : Int) := of_decide_eq_true (by first | (with_reducible assumption) | assumption); obtain ⟨ad341, e341, hx341_0⟩ := Kd.at_bool (Kd.R_reads' HO_7.out).2.2 (ji22) p341 q341; (try rw [← Nbq12.out] at hx341_0); (try rw [← Nbq25.out] at hx341_0); cases e341; replace p341 := eq_true p341; replace q341 := eq_true q341) | (go_at_call 119; (with_reducible refine (deadfallref08_Has.calls k1 _ _ l0 x16_1 t338 a2 t343 _ ?side1 ?side2 A31.out).mono ?_); (case side1 => repeat (first | exact (Kd.C_below HR0.out HB.out) | (with_reducible refine Kd.C_alloc ?_ _) | (with_reducible refine Kd.C_drewN ?_ _) | (with_reducible refine Kd.C_drew ?_))); (case side2 => exact HC0.out); rintro e w' ⟨rfl, ⟨nd, rfl⟩⟩; (try (rw [drewN_self wr]; generalize hq_ : World.drewN wr _ = wr; have n0_ : Aside0 (Kd.R Kd.bool 4 wr w.heap.size (fun _ => True) (.slice (some ad341) x7_1.length co33) x7_1) := ⟨by rw [← hq_]; exact (by (with_reducible repeat (first | apply Kd.R_alloc | apply Kd.R_drewN | apply Kd.R_drew)); exact HO_7.out)⟩; have n1_ : Aside0 (Below w.heap.size w wr) := ⟨by rw [← hq_]; exact (by repeat (first | (with_reducible first | exact HB.out | apply below_alloc | apply pw_below_drewN | apply below_drew1) | exact HB.out))⟩; clear HO_7 HB hq_; have HO_7 := n0_; have HB := n1_; clear n0_ n1_)); have p32 : 0 ≤ ((ji22) : Int) := of_decide_eq_true (by first | (with_reducible assumption) | assumption); have q32 : ((ji22) : Int) < ((x7_1.length : Int) : Int) := of_decide_eq_true (by first | (with_reducible assumption) | assumption); obtain ⟨go32, co32, eo32, gb32, gl32, cl32, HG32⟩ := Kd.R_form HO_7.out (by omega); (first | cases eo32 | (injection eo32 with ea_ en_ ec_; (first | subst ea_ | (injection ea_ with ea_; subst ea_)); subst ec_; clear en_)); have GB32 := Aside0.mk gb32; have GG32 := Aside0.mk HG32; clear gb32 gl32 HG32; (first | simp only [add_plain] at hx341_0 | skip); obtain ⟨hx32_0, hf32_0⟩ := Kd.R_celln false HO_7.out ((ji22) : Int) p32 q32; replace p32 := eq_true p32; replace q32 := eq_true q32; obtain ⟨hy34_, hz34_⟩ := Kd.R_celln false HO_7.out ((ji22) : Int) (of_decide_eq_true (by first | (with_reducible assumption) | assumption)) (of_decide_eq_true (by first | (with_reducible assumption) | assumption)); have HP34 := Kd.R_putg HO_7.out ((ji22) : Int) t343) | ((with_reducible refine gate_store (t := 4) (p := 50) rfl ?_); refine store_event (t := 4) (p := 50) (v := ?vo_w35) (w1 := (wr.setCell ⟨go32, ((ji22) : Int).toNat, none⟩ (.bool t343))) ?hg ?ho ?hn ?hr ?_; (case ho => rfl); (case hg => rfl); (case hn => rfl); (case hr => first | (go_simp; done) | (go_simp; rfl)); intro w35 hw; have hg : wr.grownBy w35 (some go32) := (by rw [hw]; exact HP34.2); have hp_ : Kd.R Kd.bool 4 w35 w.heap.size (fun _ => True) (.slice (some ⟨go32, 0, none⟩) x7_1.length co33) y344 := (by rw [hw, Ny344.out]; exact HP34.1); clear HP34; have n0_ := Aside0.mk (hp_); have n1_ := Aside0.mk ((by rw [hw]; exact below_set (HB.out) GB32.out : Below w.heap.size w w35)); clear HO_7; clear HB; have HO_7 := n0_; have HB := n1_; clear n0_ n1_; clear hg hw hp_))
                            go_roundg k1
                            case measure => have := HK1.out; omega
                            case rel => exact ⟨(y344), (wrap64 (x16_1 + 1)), (by first | rfl | (simp; done) | (simp [*]; done)), H', ⟨by have := HK1.out; omega⟩, ⟨by (with_reducible repeat (first | apply Kd.R_alloc | apply Kd.R_drewN | apply Kd.R_drew)); exact HO_7.out⟩, ⟨by repeat (first | (with_reducible first | exact HB.out | apply below_alloc | apply pw_below_drewN | apply below_drew1) | exact HB.out)⟩⟩
                        · rw [if_neg c24] at H
                          exact absurd H (by simp)
                      · rw [if_neg c23] at H
                        exact absurd H (by simp)
                    · rw [if_neg c21] at H
                      have c21b0 : decide (0 ≤ t338) = false := decide_eq_false c21
                      clear c21
                      replace H := Option.bind_eq_some_iff.mp H
                      obtain ⟨t345, A360, H⟩ := H
                      replace H : (if t345 = true then (if 0 ≤ (wrap64 (x16_1 + 1)) then (if (wrap64 (x16_1 + 1)) < (x7_1.length : Int) then (deadfallref08_Step.l0 k1 l0 l1 a2 (x7_1.set ((wrap64 (x16_1 + 1)) : Int).toNat true) (l0.length : Int) (wrap64 (x16_1 + 1))) else (none)) else (none)) else (if x16_1 < (l0.length : Int) then (if ((rd_T165 l0 x16_1).f0) = a2 then (if 0 ≤ (wrap64 (x16_1 + 1)) then (if (wrap64 (x16_1 + 1)) < (x7_1.length : Int) then (deadfallref08_Step.l0 k1 l0 l1 a2 (x7_1.set ((wrap64 (x16_1 + 1)) : Int).toNat true) (l0.length : Int) (wrap64 (x16_1 + 1))) else (none)) else (none)) else (deadfallref08_Step.l0 k1 l0 l1 a2 x7_1 (l0.length : Int) (wrap64 (x16_1 + 1)))) else (none))) = some r := H
                      have A36 := Aside0.mk A360
                      clear A360
                      by_cases c37 : t345 = true
                      · subst c37
                        have H1 : (if 0 ≤ (wrap64 (x16_1 + 1)) then (if (wrap64 (x16_1 + 1)) < (x7_1.length : Int) then (deadfallref08_Step.l0 k1 l0 l1 a2 (x7_1.set ((wrap64 (x16_1 + 1)) : Int).toNat true) (l0.length : Int) (wrap64 (x16_1 + 1))) else (none)) else (none)) = some r := by rw [if_pos rfl] at H; exact H
                        clear H
                        have H := H1
                        clear H1
                        obtain ⟨ji38, hji38⟩ : ∃ j_ : Int, (wrap64 (x16_1 + 1)) = j_ := ⟨_, rfl⟩
                        replace H : (if 0 ≤ (ji38) then (if (ji38) < (x7_1.length : Int) then (deadfallref08_Step.l0 k1 l0 l1 a2 (x7_1.set ((ji38) : Int).toNat true) (l0.length : Int) ji38) else (none)) else (none)) = some r := by first | (rw [hji38] at H; exact H) | (simp only [hji38] at H ⊢; exact H)
                        (try rw [hji38] at A14)
                        (try rw [hji38] at A15)
                        (try rw [hji38] at A36)
                        have hji38w : (IntKind.i64.wrap (x16_1 + 1)) = ji38 := (i64_w _).trans hji38
                        by_cases c39 : 0 ≤ (ji38)
                        · rw [if_pos c39] at H
                          have c39b0 : decide (0 ≤ (ji38)) = true := decide_eq_true c39
                          clear c39
                          by_cases c40 : (ji38) < (x7_1.length : Int)
                          · rw [if_pos c40] at H
                            have c40b0 : decide ((ji38) < (x7_1.length : Int)) = true := decide_eq_true c40
                            clear c40
                            obtain ⟨y346, hy346⟩ : ∃ y_ : List Bool, y_ = (x7_1.set ((ji38) : Int).toNat true) := ⟨_, rfl⟩
                            replace H : (deadfallref08_Step.l0 k1 l0 l1 a2 y346 (l0.length : Int) ji38) = some r := by first | (rw [hy346]; with_reducible exact H) | (have H2_ := (Option.bind_some _ _).symm.trans H; rw [hy346]; with_reducible exact H2_) | (have H2_ := (Option.bind_some _ _).symm.trans H; with_reducible exact H2_) | with_reducible exact H | (rw [hy346]; exact H) | exact H
                            have Ny346 := Aside0.mk hy346
                            clear hy346
                            have H' := Aside0.mk H
                            clear H
                            have p337 : 0 ≤ (x16_1 : Int) := of_decide_eq_true (by first | (with_reducible assumption) | assumption)
                            have q337 : x16_1 < (l1.length : Int) := of_decide_eq_true (by first | (with_reducible assumption) | assumption)
                            obtain ⟨ad337, e337, hx337_0⟩ := Kd.at_bool HR1.out x16_1 p337 q337
                            (try rw [← Nbq12.out] at hx337_0)
                            cases e337
                            replace hx337_0 := (HB.out.cell (World.block_lt_of_cell? w _ hx337_0)).trans hx337_0
                            replace p337 := eq_true p337
                            replace q337 := eq_true q337
                            go_wp2_with (first | ((with_reducible refine gate_callee (f := 100) rfl ?_); refine goesL_ (some 26) rfl rfl Try.func100 (by kernel_rfl) rfl #[.slice A0 l0.length c0, .int .i64 x16_1] rfl (by (try simp only [List.map_toArray, List.map_cons, List.map_nil]); first | done | rfl | (simp only [List.length_drop, List.length_take]; rfl)) ?_; (with_reducible refine (deadfallref08_End.calls k1 _ _ l0 x16_1 t338 _ ?side1 ?side2 A14.out).mono ?_); (case side1 => repeat (first | exact (Kd.C_below HR0.out HB.out) | (with_reducible refine Kd.C_alloc ?_ _) | (with_reducible refine Kd.C_drewN ?_ _) | (with_reducible refine Kd.C_drew ?_))); (case side2 => exact HC0.out); rintro e w' ⟨rfl, ⟨nd, rfl⟩⟩; refine ⟨_, rfl, ?_⟩; (try (rw [drewN_self wr]; generalize hq_ : World.drewN wr _ = wr; have n0_ : Aside0 (Kd.R Kd.bool 4 wr w.heap.size (fun _ => True) v332 x7_1) := ⟨by rw [← hq_]; exact (by (with_reducible repeat (first | apply Kd.R_alloc | apply Kd.R_drewN | apply Kd.R_drew)); exact HO_7.out)⟩; have n1_ : Aside0 (Below w.heap.size w wr) := ⟨by rw [← hq_]; exact (by repeat (first | (with_reducible first | exact HB.out | apply below_alloc | apply pw_below_drewN | apply below_drew1) | exact HB.out))⟩; clear HO_7 HB hq_; have HO_7 := n0_; have HB := n1_; clear n0_ n1_))) | ((with_reducible refine gate_callee (f := 99) rfl ?_); refine goesL_ (some 29) rfl rfl Try.func99 (by kernel_rfl) rfl #[.slice A0 l0.length c0, .int .i64 x16_1, .int .u8 42] rfl (by (try simp only [List.map_toArray, List.map_cons, List.map_nil]); first | done | rfl | (simp only [List.length_drop, List.length_take]; rfl)) ?_; (with_reducible refine (deadfallref08_is.calls _ _ l0 x16_1 42 false _ ?side1 ?side2 A15.out).mono ?_); (case side1 => repeat (first | exact (Kd.C_below HR0.out HB.out) | (with_reducible refine Kd.C_alloc ?_ _) | (with_reducible refine Kd.C_drewN ?_ _) | (with_reducible refine Kd.C_drew ?_))); (case side2 => exact HC0.out); rintro e w' ⟨rfl, ⟨nd, rfl⟩⟩; refine ⟨_, rfl, ?_⟩; (try (rw [drewN_self wr]; generalize hq_ : World.drewN wr _ = wr; have n0_ : Aside0 (Kd.R Kd.bool 4 wr w.heap.size (fun _ => True) v332 x7_1) := ⟨by rw [← hq_]; exact (by (with_reducible repeat (first | apply Kd.R_alloc | apply Kd.R_drewN | apply Kd.R_drew)); exact HO_7.out)⟩; have n1_ : Aside0 (Below w.heap.size w wr) := ⟨by rw [← hq_]; exact (by repeat (first | (with_reducible first | exact HB.out | apply below_alloc | apply pw_below_drewN | apply below_drew1) | exact HB.out))⟩; clear HO_7 HB hq_; have HO_7 := n0_; have HB := n1_; clear n0_ n1_))) | ((with_reducible refine gate_callee (f := 99) rfl ?_); refine goesL_ (some 53) rfl rfl Try.func99 (by kernel_rfl) rfl #[.slice A0 l0.length c0, .int .i64 x16_1, .int .u8 63] rfl (by (try simp only [List.map_toArray, List.map_cons, List.map_nil]); first | done | rfl | (simp only [List.length_drop, List.length_take]; rfl)) ?_; (with_reducible refine (deadfallref08_is.calls _ _ l0 x16_1 63 true _ ?side1 ?side2 A36.out).mono ?_); (case side1 => repeat (first | exact (Kd.C_below HR0.out HB.out) | (with_reducible refine Kd.C_alloc ?_ _) | (with_reducible refine Kd.C_drewN ?_ _) | (with_reducible refine Kd.C_drew ?_))); (case side2 => exact HC0.out); rintro e w' ⟨rfl, ⟨nd, rfl⟩⟩; refine ⟨_, rfl, ?_⟩; (try (rw [drewN_self wr]; generalize hq_ : World.drewN wr _ = wr; have n0_ : Aside0 (Kd.R Kd.bool 4 wr w.heap.size (fun _ => True) v332 x7_1) := ⟨by rw [← hq_]; exact (by (with_reducible repeat (first | apply Kd.R_alloc | apply Kd.R_drewN | apply Kd.R_drew)); exact HO_7.out)⟩; have n1_ : Aside0 (Below w.heap.size w wr) := ⟨by rw [← hq_]; exact (by repeat (first | (with_reducible first | exact HB.out | apply below_alloc | apply pw_below_drewN | apply below_drew1) | exact HB.out))⟩; clear HO_7 HB hq_; have HO_7 := n0_; have HB := n1_; clear n0_ n1_)); have p41 : 0 ≤ ((ji38) : Int) := of_decide_eq_true (by first | (with_reducible assumption) | assumption); have q41 : ((ji38) : Int) < ((x7_1.length : Int) : Int) := of_decide_eq_true (by first | (with_reducible assumption) | assumption); obtain ⟨go41, co41, eo41, gb41, gl41, cl41, HG41⟩ := Kd.R_form HO_7.out (by omega); (first | cases eo41 | (injection eo41 with ea_ en_ ec_; (first | subst ea_ | (injection ea_ with ea_; subst ea_)); subst ec_; clear en_)); have GB41 := Aside0.mk gb41; have GG41 := Aside0.mk HG41; clear gb41 gl41 HG41; obtain ⟨hx41_0, hf41_0⟩ := Kd.R_celln false HO_7.out ((ji38) : Int) p41 q41; replace p41 := eq_true p41; replace q41 := eq_true q41; obtain ⟨hy42_, hz42_⟩ := Kd.R_celln false HO_7.out ((ji38) : Int) (of_decide_eq_true (by first | (with_reducible assumption) | assumption)) (of_decide_eq_true (by first | (with_reducible assumption) | assumption)); have HP42 := Kd.R_putg HO_7.out ((ji38) : Int) true) | ((with_reducible refine gate_store (t := 4) (p := 66) rfl ?_); refine store_event (t := 4) (p := 66) (v := ?vo_w43) (w1 := (wr.setCell ⟨go41, ((ji38) : Int).toNat, none⟩ (.bool true))) ?hg ?ho ?hn ?hr ?_; (case ho => rfl); (case hg => rfl); (case hn => rfl); (case hr => first | (go_simp; done) | (go_simp; rfl)); intro w43 hw; have hg : wr.grownBy w43 (some go41) := (by rw [hw]; exact HP42.2); have hp_ : Kd.R Kd.bool 4 w43 w.heap.size (fun _ => True) (.slice (some ⟨go41, 0, none⟩) x7_1.length co41) y346 := (by rw [hw, Ny346.out]; exact HP42.1); clear HP42; have n0_ := Aside0.mk (hp_); have n1_ := Aside0.mk ((by rw [hw]; exact below_set (HB.out) GB41.out : Below w.heap.size w w43)); clear HO_7; clear HB; have HO_7 := n0_; have HB := n1_; clear n0_ n1_; clear hg hw hp_))
                            go_roundg k1
                            case measure => have := HK1.out; omega
                            case rel => exact ⟨(y346), (ji38), (by first | rfl | (simp; done) | (simp only [← hji38] <;> (first | rfl | simp)) | (simp [*]; done)), H', ⟨by have := HK1.out; omega⟩, ⟨by (with_reducible repeat (first | apply Kd.R_alloc | apply Kd.R_drewN | apply Kd.R_drew)); exact HO_7.out⟩, ⟨by repeat (first | (with_reducible first | exact HB.out | apply below_alloc | apply pw_below_drewN | apply below_drew1) | exact HB.out)⟩⟩
                          · rw [if_neg c40] at H
                            exact absurd H (by simp)
                        · rw [if_neg c39] at H
                          exact absurd H (by simp)
                      · replace c37 := Bool.eq_false_iff.mpr c37
                        subst c37
                        have H1 : (if x16_1 < (l0.length : Int) then (if ((rd_T165 l0 x16_1).f0) = a2 then (if 0 ≤ (wrap64 (x16_1 + 1)) then (if (wrap64 (x16_1 + 1)) < (x7_1.length : Int) then (deadfallref08_Step.l0 k1 l0 l1 a2 (x7_1.set ((wrap64 (x16_1 + 1)) : Int).toNat true) (l0.length : Int) (wrap64 (x16_1 + 1))) else (none)) else (none)) else (deadfallref08_Step.l0 k1 l0 l1 a2 x7_1 (l0.length : Int) (wrap64 (x16_1 + 1)))) else (none)) = some r := by rw [if_neg (show ¬ (false = true) by decide)] at H; exact H
                        clear H
                        have H := H1
                        clear H1
                        by_cases c44 : x16_1 < (l0.length : Int)
                        · rw [if_pos c44] at H
                          have c44b0 : decide (x16_1 < (l0.length : Int)) = true := decide_eq_true c44
                          clear c44
                          by_cases c45 : ((rd_T165 l0 x16_1).f0) = a2
                          · rw [if_pos c45] at H
                            have c45b0 : (((rd_T165 l0 x16_1).f0) == a2) = true := beq_iff_eq.mpr c45
                            have c45b1 : (((rd_T165 l0 x16_1).f0) != a2) = false := bne_eq_false_iff_eq.mpr c45
                            clear c45
                            obtain ⟨ji46, hji46⟩ : ∃ j_ : Int, (wrap64 (x16_1 + 1)) = j_ := ⟨_, rfl⟩
                            replace H : (if 0 ≤ (ji46) then (if (ji46) < (x7_1.length : Int) then (deadfallref08_Step.l0 k1 l0 l1 a2 (x7_1.set ((ji46) : Int).toNat true) (l0.length : Int) ji46) else (none)) else (none)) = some r := by first | (rw [hji46] at H; exact H) | (simp only [hji46] at H ⊢; exact H)
                            (try rw [hji46] at A14)
                            (try rw [hji46] at A15)
                            (try rw [hji46] at A36)
                            have hji46w : (IntKind.i64.wrap (x16_1 + 1)) = ji46 := (i64_w _).trans hji46
                            by_cases c47 : 0 ≤ (ji46)
                            · rw [if_pos c47] at H
                              have c47b0 : decide (0 ≤ (ji46)) = true := decide_eq_true c47
                              clear c47
                              by_cases c48 : (ji46) < (x7_1.length : Int)
                              · rw [if_pos c48] at H
                                have c48b0 : decide ((ji46) < (x7_1.length : Int)) = true := decide_eq_true c48
                                clear c48
                                obtain ⟨y348, hy348⟩ : ∃ y_ : List Bool, y_ = (x7_1.set ((ji46) : Int).toNat true) := ⟨_, rfl⟩
                                replace H : (deadfallref08_Step.l0 k1 l0 l1 a2 y348 (l0.length : Int) ji46) = some r := by first | (rw [hy348]; with_reducible exact H) | (have H2_ := (Option.bind_some _ _).symm.trans H; rw [hy348]; with_reducible exact H2_) | (have H2_ := (Option.bind_some _ _).symm.trans H; with_reducible exact H2_) | with_reducible exact H | (rw [hy348]; exact H) | exact H
                                have Ny348 := Aside0.mk hy348
                                clear hy348
                                have H' := Aside0.mk H
                                clear H
                                have p337 : 0 ≤ (x16_1 : Int) := of_decide_eq_true (by first | (with_reducible assumption) | assumption)
                                have q337 : x16_1 < (l1.length : Int) := of_decide_eq_true (by first | (with_reducible assumption) | assumption)
                                obtain ⟨ad337, e337, hx337_0⟩ := Kd.at_bool HR1.out x16_1 p337 q337
                                (try rw [← Nbq12.out] at hx337_0)
                                cases e337
                                replace hx337_0 := (HB.out.cell (World.block_lt_of_cell? w _ hx337_0)).trans hx337_0
                                replace p337 := eq_true p337
                                replace q337 := eq_true q337
                                go_wp2_with (first | ((with_reducible refine gate_callee (f := 100) rfl ?_); refine goesL_ (some 26) rfl rfl Try.func100 (by kernel_rfl) rfl #[.slice A0 l0.length c0, .int .i64 x16_1] rfl (by (try simp only [List.map_toArray, List.map_cons, List.map_nil]); first | done | rfl | (simp only [List.length_drop, List.length_take]; rfl)) ?_; (with_reducible refine (deadfallref08_End.calls k1 _ _ l0 x16_1 t338 _ ?side1 ?side2 A14.out).mono ?_); (case side1 => repeat (first | exact (Kd.C_below HR0.out HB.out) | (with_reducible refine Kd.C_alloc ?_ _) | (with_reducible refine Kd.C_drewN ?_ _) | (with_reducible refine Kd.C_drew ?_))); (case side2 => exact HC0.out); rintro e w' ⟨rfl, ⟨nd, rfl⟩⟩; refine ⟨_, rfl, ?_⟩; (try (rw [drewN_self wr]; generalize hq_ : World.drewN wr _ = wr; have n0_ : Aside0 (Kd.R Kd.bool 4 wr w.heap.size (fun _ => True) v332 x7_1) := ⟨by rw [← hq_]; exact (by (with_reducible repeat (first | apply Kd.R_alloc | apply Kd.R_drewN | apply Kd.R_drew)); exact HO_7.out)⟩; have n1_ : Aside0 (Below w.heap.size w wr) := ⟨by rw [← hq_]; exact (by repeat (first | (with_reducible first | exact HB.out | apply below_alloc | apply pw_below_drewN | apply below_drew1) | exact HB.out))⟩; clear HO_7 HB hq_; have HO_7 := n0_; have HB := n1_; clear n0_ n1_))) | ((with_reducible refine gate_callee (f := 99) rfl ?_); refine goesL_ (some 29) rfl rfl Try.func99 (by kernel_rfl) rfl #[.slice A0 l0.length c0, .int .i64 x16_1, .int .u8 42] rfl (by (try simp only [List.map_toArray, List.map_cons, List.map_nil]); first | done | rfl | (simp only [List.length_drop, List.length_take]; rfl)) ?_; (with_reducible refine (deadfallref08_is.calls _ _ l0 x16_1 42 false _ ?side1 ?side2 A15.out).mono ?_); (case side1 => repeat (first | exact (Kd.C_below HR0.out HB.out) | (with_reducible refine Kd.C_alloc ?_ _) | (with_reducible refine Kd.C_drewN ?_ _) | (with_reducible refine Kd.C_drew ?_))); (case side2 => exact HC0.out); rintro e w' ⟨rfl, ⟨nd, rfl⟩⟩; refine ⟨_, rfl, ?_⟩; (try (rw [drewN_self wr]; generalize hq_ : World.drewN wr _ = wr; have n0_ : Aside0 (Kd.R Kd.bool 4 wr w.heap.size (fun _ => True) v332 x7_1) := ⟨by rw [← hq_]; exact (by (with_reducible repeat (first | apply Kd.R_alloc | apply Kd.R_drewN | apply Kd.R_drew)); exact HO_7.out)⟩; have n1_ : Aside0 (Below w.heap.size w wr) := ⟨by rw [← hq_]; exact (by repeat (first | (with_reducible first | exact HB.out | apply below_alloc | apply pw_below_drewN | apply below_drew1) | exact HB.out))⟩; clear HO_7 HB hq_; have HO_7 := n0_; have HB := n1_; clear n0_ n1_))) | ((with_reducible refine gate_callee (f := 99) rfl ?_); refine goesL_ (some 53) rfl rfl Try.func99 (by kernel_rfl) rfl #[.slice A0 l0.length c0, .int .i64 x16_1, .int .u8 63] rfl (by (try simp only [List.map_toArray, List.map_cons, List.map_nil]); first | done | rfl | (simp only [List.length_drop, List.length_take]; rfl)) ?_; (with_reducible refine (deadfallref08_is.calls _ _ l0 x16_1 63 false _ ?side1 ?side2 A36.out).mono ?_); (case side1 => repeat (first | exact (Kd.C_below HR0.out HB.out) | (with_reducible refine Kd.C_alloc ?_ _) | (with_reducible refine Kd.C_drewN ?_ _) | (with_reducible refine Kd.C_drew ?_))); (case side2 => exact HC0.out); rintro e w' ⟨rfl, ⟨nd, rfl⟩⟩; refine ⟨_, rfl, ?_⟩; (try (rw [drewN_self wr]; generalize hq_ : World.drewN wr _ = wr; have n0_ : Aside0 (Kd.R Kd.bool 4 wr w.heap.size (fun _ => True) v332 x7_1) := ⟨by rw [← hq_]; exact (by (with_reducible repeat (first | apply Kd.R_alloc | apply Kd.R_drewN | apply Kd.R_drew)); exact HO_7.out)⟩; have n1_ : Aside0 (Below w.heap.size w wr) := ⟨by rw [← hq_]; exact (by repeat (first | (with_reducible first | exact HB.out | apply below_alloc | apply pw_below_drewN | apply below_drew1) | exact HB.out))⟩; clear HO_7 HB hq_; have HO_7 := n0_; have HB := n1_; clear n0_ n1_)); have p347 : 0 ≤ (x16_1 : Int) := of_decide_eq_true (by first | (with_reducible assumption) | assumption); have q347 : x16_1 < (l0.length : Int) := of_decide_eq_true (by first | (with_reducible assumption) | assumption); obtain ⟨ad347, e347, hx347_0, hx347_1⟩ := at_T165 HR0.out x16_1 p347 q347; (try rw [← Nbq12.out] at hx347_1); cases e347; replace hx347_0 := (HB.out.cell (World.block_lt_of_cell? w _ hx347_0)).trans hx347_0; replace hx347_1 := (HB.out.cell (World.block_lt_of_cell? w _ hx347_1)).trans hx347_1; replace p347 := eq_true p347; replace q347 := eq_true q347; have p49 : 0 ≤ ((ji46) : Int) := of_decide_eq_true (by first | (with_reducible assumption) | assumption); have q49 : ((ji46) : Int) < ((x7_1.length : Int) : Int) := of_decide_eq_true (by first | (with_reducible assumption) | assumption); obtain ⟨go49, co49, eo49, gb49, gl49, cl49, HG49⟩ := Kd.R_form HO_7.out (by omega); (first | cases eo49 | (injection eo49 with ea_ en_ ec_; (first | subst ea_ | (injection ea_ with ea_; subst ea_)); subst ec_; clear en_)); have GB49 := Aside0.mk gb49; have GG49 := Aside0.mk HG49; clear gb49 gl49 HG49; obtain ⟨hx49_0, hf49_0⟩ := Kd.R_celln false HO_7.out ((ji46) : Int) p49 q49; replace p49 := eq_true p49; replace q49 := eq_true q49; obtain ⟨hy50_, hz50_⟩ := Kd.R_celln false HO_7.out ((ji46) : Int) (of_decide_eq_true (by first | (with_reducible assumption) | assumption)) (of_decide_eq_true (by first | (with_reducible assumption) | assumption)); have HP50 := Kd.R_putg HO_7.out ((ji46) : Int) true) | ((with_reducible refine gate_store (t := 4) (p := 66) rfl ?_); refine store_event (t := 4) (p := 66) (v := ?vo_w51) (w1 := (wr.setCell ⟨go49, ((ji46) : Int).toNat, none⟩ (.bool true))) ?hg ?ho ?hn ?hr ?_; (case ho => rfl); (case hg => rfl); (case hn => rfl); (case hr => first | (go_simp; done) | (go_simp; rfl)); intro w51 hw; have hg : wr.grownBy w51 (some go49) := (by rw [hw]; exact HP50.2); have hp_ : Kd.R Kd.bool 4 w51 w.heap.size (fun _ => True) (.slice (some ⟨go49, 0, none⟩) x7_1.length co49) y348 := (by rw [hw, Ny348.out]; exact HP50.1); clear HP50; have n0_ := Aside0.mk (hp_); have n1_ := Aside0.mk ((by rw [hw]; exact below_set (HB.out) GB49.out : Below w.heap.size w w51)); clear HO_7; clear HB; have HO_7 := n0_; have HB := n1_; clear n0_ n1_; clear hg hw hp_))
                                go_roundg k1
                                case measure => have := HK1.out; omega
                                case rel => exact ⟨(y348), (ji46), (by first | rfl | (simp; done) | (simp only [← hji46] <;> (first | rfl | simp)) | (simp [*]; done)), H', ⟨by have := HK1.out; omega⟩, ⟨by (with_reducible repeat (first | apply Kd.R_alloc | apply Kd.R_drewN | apply Kd.R_drew)); exact HO_7.out⟩, ⟨by repeat (first | (with_reducible first | exact HB.out | apply below_alloc | apply pw_below_drewN | apply below_drew1) | exact HB.out)⟩⟩
                              · rw [if_neg c48] at H
                                exact absurd H (by simp)
                            · rw [if_neg c47] at H
                              exact absurd H (by simp)
                          · rw [if_neg c45] at H
                            have c45b0 : (((rd_T165 l0 x16_1).f0) == a2) = false := beq_eq_false_iff_ne.mpr c45
                            have c45b1 : (((rd_T165 l0 x16_1).f0) != a2) = true := bne_iff_ne.mpr c45
                            have H' := Aside0.mk H
                            clear H
                            have p337 : 0 ≤ (x16_1 : Int) := of_decide_eq_true (by first | (with_reducible assumption) | assumption)
                            have q337 : x16_1 < (l1.length : Int) := of_decide_eq_true (by first | (with_reducible assumption) | assumption)
                            obtain ⟨ad337, e337, hx337_0⟩ := Kd.at_bool HR1.out x16_1 p337 q337
                            (try rw [← Nbq12.out] at hx337_0)
                            cases e337
                            replace hx337_0 := (HB.out.cell (World.block_lt_of_cell? w _ hx337_0)).trans hx337_0
                            replace p337 := eq_true p337
                            replace q337 := eq_true q337
                            go_wp2_with (first | ((with_reducible refine gate_callee (f := 100) rfl ?_); refine goesL_ (some 26) rfl rfl Try.func100 (by kernel_rfl) rfl #[.slice A0 l0.length c0, .int .i64 x16_1] rfl (by (try simp only [List.map_toArray, List.map_cons, List.map_nil]); first | done | rfl | (simp only [List.length_drop, List.length_take]; rfl)) ?_; (with_reducible refine (deadfallref08_End.calls k1 _ _ l0 x16_1 t338 _ ?side1 ?side2 A14.out).mono ?_); (case side1 => repeat (first | exact (Kd.C_below HR0.out HB.out) | (with_reducible refine Kd.C_alloc ?_ _) | (with_reducible refine Kd.C_drewN ?_ _) | (with_reducible refine Kd.C_drew ?_))); (case side2 => exact HC0.out); rintro e w' ⟨rfl, ⟨nd, rfl⟩⟩; refine ⟨_, rfl, ?_⟩) | ((with_reducible refine gate_callee (f := 99) rfl ?_); refine goesL_ (some 29) rfl rfl Try.func99 (by kernel_rfl) rfl #[.slice A0 l0.length c0, .int .i64 x16_1, .int .u8 42] rfl (by (try simp only [List.map_toArray, List.map_cons, List.map_nil]); first | done | rfl | (simp only [List.length_drop, List.length_take]; rfl)) ?_; (with_reducible refine (deadfallref08_is.calls _ _ l0 x16_1 42 false _ ?side1 ?side2 A15.out).mono ?_); (case side1 => repeat (first | exact (Kd.C_below HR0.out (by repeat (first | (with_reducible first | exact HB.out | apply below_alloc | apply pw_below_drewN | apply below_drew1) | exact HB.out))) | (with_reducible refine Kd.C_alloc ?_ _) | (with_reducible refine Kd.C_drewN ?_ _) | (with_reducible refine Kd.C_drew ?_))); (case side2 => exact HC0.out); rintro e w' ⟨rfl, ⟨nd, rfl⟩⟩; refine ⟨_, rfl, ?_⟩) | ((with_reducible refine gate_callee (f := 99) rfl ?_); refine goesL_ (some 53) rfl rfl Try.func99 (by kernel_rfl) rfl #[.slice A0 l0.length c0, .int .i64 x16_1, .int .u8 63] rfl (by (try simp only [List.map_toArray, List.map_cons, List.map_nil]); first | done | rfl | (simp only [List.length_drop, List.length_take]; rfl)) ?_; (with_reducible refine (deadfallref08_is.calls _ _ l0 x16_1 63 false _ ?side1 ?side2 A36.out).mono ?_); (case side1 => repeat (first | exact (Kd.C_below HR0.out (by repeat (first | (with_reducible first | exact HB.out | apply below_alloc | apply pw_below_drewN | apply below_drew1) | exact HB.out))) | (with_reducible refine Kd.C_alloc ?_ _) | (with_reducible refine Kd.C_drewN ?_ _) | (with_reducible refine Kd.C_drew ?_))); (case side2 => exact HC0.out); rintro e w' ⟨rfl, ⟨nd, rfl⟩⟩; refine ⟨_, rfl, ?_⟩; have p347 : 0 ≤ (x16_1 : Int) := of_decide_eq_true (by first | (with_reducible assumption) | assumption); have q347 : x16_1 < (l0.length : Int) := of_decide_eq_true (by first | (with_reducible assumption) | assumption); obtain ⟨ad347, e347, hx347_0, hx347_1⟩ := at_T165 HR0.out x16_1 p347 q347; (try rw [← Nbq12.out] at hx347_1); cases e347; replace hx347_0 := (HB.out.cell (World.block_lt_of_cell? w _ hx347_0)).trans hx347_0; replace hx347_1 := (HB.out.cell (World.block_lt_of_cell? w _ hx347_1)).trans hx347_1; replace p347 := eq_true p347; replace q347 := eq_true q347))
                            go_roundg k1
                            case measure => have := HK1.out; omega
                            case rel => exact ⟨(x7_1), (wrap64 (x16_1 + 1)), (by first | rfl | (simp; done) | (simp [*]; done)), H', ⟨by have := HK1.out; omega⟩, ⟨by (with_reducible repeat (first | apply Kd.R_alloc | apply Kd.R_drewN | apply Kd.R_drew)); exact HO_7.out⟩, ⟨by repeat (first | (with_reducible first | exact HB.out | apply below_alloc | apply pw_below_drewN | apply below_drew1) | exact HB.out)⟩⟩
                        · rw [if_neg c44] at H
                          exact absurd H (by simp)
                · replace c13 := Bool.eq_false_iff.mpr c13
                  subst c13
                  have H1 : (deadfallref08_Step.l0 k1 l0 l1 a2 x7_1 (l0.length : Int) (wrap64 (x16_1 + 1))) = some r := by rw [if_neg (show ¬ (false = true) by decide)] at H; exact H
                  clear H
                  have H := H1
                  clear H1
                  have H' := Aside0.mk H
                  clear H
                  have p337 : 0 ≤ (x16_1 : Int) := of_decide_eq_true (by first | (with_reducible assumption) | assumption)
                  have q337 : x16_1 < (l1.length : Int) := of_decide_eq_true (by first | (with_reducible assumption) | assumption)
                  obtain ⟨ad337, e337, hx337_0⟩ := Kd.at_bool HR1.out x16_1 p337 q337
                  (try rw [← Nbq12.out] at hx337_0)
                  cases e337
                  replace hx337_0 := (HB.out.cell (World.block_lt_of_cell? w _ hx337_0)).trans hx337_0
                  replace p337 := eq_true p337
                  replace q337 := eq_true q337
                  go_wp2
                  go_roundg k1
                  case measure => have := HK1.out; omega
                  case rel => exact ⟨(x7_1), (wrap64 (x16_1 + 1)), (by first | rfl | (simp; done) | (simp [*]; done)), H', ⟨by have := HK1.out; omega⟩, ⟨by (with_reducible repeat (first | apply Kd.R_alloc | apply Kd.R_drewN | apply Kd.R_drew)); exact HO_7.out⟩, ⟨by repeat (first | (with_reducible first | exact HB.out | apply below_alloc | apply pw_below_drewN | apply below_drew1) | exact HB.out)⟩⟩
              · rw [if_neg c11] at H
                exact absurd H (by simp)
            · rw [if_neg c10] at H
              exact absurd H (by simp)
          · rw [if_neg c9] at H
            have c9b0 : decide (x16_1 < (l0.length : Int)) = false := decide_eq_false c9
            clear c9
            replace H := Option.bind_eq_some_iff.mp H
            obtain ⟨t334, A520, H⟩ := H
            replace H : (some t334) = some r := H
            have A52 := Aside0.mk A520
            clear A520
            obtain rfl := Option.some.inj H
            obtain ⟨Ao53, co53, eo53⟩ := Kd.R_slice HO_7.out
            subst eo53
            go_wp2_with (first | ((with_reducible refine gate_callee (f := 97) rfl ?_); refine goesL_ (some 70) rfl rfl Try.func97 (by kernel_rfl) rfl #[.slice A0 l0.length c0, .slice Ao53 x7_1.length co53] rfl (by (try simp only [List.map_toArray, List.map_cons, List.map_nil]); first | done | rfl | (simp only [List.length_drop, List.length_take]; rfl)) ?_; (with_reducible refine (deadfallref08_Reach.calls k1 _ _ l0 _ _ x7_1 t334 _ ?side1 ?side2 ?side3 ?side4 A52.out).mono ?_); (case side1 => repeat (first | exact (Kd.C_below HR0.out HB.out) | (with_reducible refine Kd.C_alloc ?_ _) | (with_reducible refine Kd.C_drewN ?_ _) | (with_reducible refine Kd.C_drew ?_))); (case side2 => exact HC0.out); (case side3 => repeat (first | exact (Kd.R_reads' HO_7.out).2.2 | (with_reducible refine Kd.C_alloc ?_ _) | (with_reducible refine Kd.C_drewN ?_ _) | (with_reducible refine Kd.C_drew ?_))); (case side4 => exact (Kd.R_reads' HO_7.out).2.1); rintro e w54 ⟨v335, rfl, ho0, hb⟩; refine ⟨_, rfl, ?_⟩; have n0_ := Aside0.mk (Kd.R_elder' (by (with_reducible repeat (first | apply Kd.R_alloc | apply Kd.R_drewN | apply Kd.R_drew)); exact HO_7.out) (Kd.R_base ho0) hb); have n1_ := Aside0.mk (Kd.R_lower (Kd.R_new' ho0 (Kd.R_lt (by (with_reducible repeat (first | apply Kd.R_alloc | apply Kd.R_drewN | apply Kd.R_drew)); exact HO_7.out))) (below_size (by repeat (first | (with_reducible first | exact HB.out | apply below_alloc | apply pw_below_drewN | apply below_drew1) | exact HB.out)))); have n2_ := Aside0.mk (below_step (by repeat (first | (with_reducible first | exact HB.out | apply below_alloc | apply pw_below_drewN | apply below_drew1) | exact HB.out)) hb); clear HO_7; clear HB; have HO_7 := n0_; have HO336 := n1_; have HB := n2_; clear n0_ n1_ n2_; (try clear hb); (try clear hb2); (try clear hk); (try clear hi); (try clear ho0)))
            go_ret
            exact ⟨_, by first | rfl | (simp [errW_none, errW_some] <;> rfl) | (simp only [← hji4]; first | rfl | (simp [errW_none, errW_some] <;> rfl)) | (simp [*, errW_none, errW_some] <;> rfl), by (with_reducible repeat (first | apply Kd.R_alloc | apply Kd.R_drewN | apply Kd.R_drew)); exact Kd.R_mono HO336.out (fun _ hk => trivial), by repeat (first | (with_reducible first | exact HB.out | apply below_alloc | apply pw_below_drewN | apply below_drew1) | exact HB.out)⟩
    · rw [if_neg c6] at H
      exact absurd H (by simp)
  · rw [if_neg c5] at H
    exact absurd H (by simp)

end Go.Proofs.Ytkepmbkghmkodaa.P
