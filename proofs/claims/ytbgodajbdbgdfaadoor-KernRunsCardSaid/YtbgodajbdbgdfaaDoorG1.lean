/- texts of this claim, one behind the other: V2 V3 V4 RefPure SeqTree RefAsk RefSig -/
import Derived.Test.YtbgodajbdbgdfaaDoorG0
-- printed by a program of this session (wip/pp): a Lean function and a proof for each Go function
namespace Go.Proofs.YtbgodajbdbgdfaaDoor.V
open Go.RowKit Go.Proofs.YtbgodajbdbgdfaaDoorW.PrintWords Go.Proofs.YtbgodajbdbgdfaaDoorW.PrintLast Go.Proofs.YtbgodajbdbgdfaaDoorW.PrintMore
attribute [local go_sem] max2_int min2_int max_two min_two max_three min_three max_four min_four   -- for this text's walks alone
set_option linter.unusedVariables false
set_option linter.unusedSimpArgs false

/-! ### deadfallref01_Is: function 51 -/
def deadfallref01_Is.f (a0 : Int) : Option (Bool) := if a0 ≥ 1 then (some (decide (a0 ≤ 31))) else (some false)
set_option maxHeartbeats 8000000 in
set_option maxRecDepth 100000 in
theorem deadfallref01_Is.calls (a0 : Int) (r : Bool) (w : World) (h : deadfallref01_Is.f a0 = some r) :
    Calls Tryd.prog 51 #[.int .i64 a0] w fun e w' => e = .returned (.bool r) ∧ Drawn0 w w' := by
  have H : (if a0 ≥ 1 then (some (decide (a0 ≤ 31))) else (some false)) = some r := h
  clear h
  by_cases c2 : a0 ≥ 1
  · rw [if_pos c2] at H
    have c2b0 : decide (1 ≤ a0) = true := decide_eq_true c2
    clear c2
    obtain rfl := Option.some.inj H
    go_enter Tryd.func51, Tryd.ntmps51
    go_wp2
    go_ret
    exact ⟨by first | rfl | (simp; done) | (simp [*]; done), by repeat (first | exact Drawn0.refl _ | apply Drawn0.step)⟩
  · rw [if_neg c2] at H
    have c2b0 : decide (1 ≤ a0) = false := decide_eq_false c2
    clear c2
    obtain rfl := Option.some.inj H
    go_enter Tryd.func51, Tryd.ntmps51
    go_wp2
    go_ret
    exact ⟨by first | rfl | (simp; done) | (simp [*]; done), by repeat (first | exact Drawn0.refl _ | apply Drawn0.step)⟩

/-- THE ONE PURE STATEMENT of deadfallref01_Is: yours. -/
def deadfallref01_Is.Pure : Prop := ∀ (a0 : Int), (Lit.int .i64 a0).wf = true → deadfallref01_Is.f a0 = some true
theorem deadfallref01_Is.walk (P : deadfallref01_Is.Pure) (a0 : Int) (w : World) (w0 : (Lit.int .i64 a0).wf = true) :
    Calls Tryd.prog 51 #[.int .i64 a0] w fun e w' => e = .returned (.bool true) ∧ Below w.heap.size w w' := by
  have h := P a0 w0
  refine (deadfallref01_Is.calls a0 true w h).mono ?_
  rintro e w' ⟨rfl, hd⟩
  exact ⟨rfl, hd.below⟩

/-! ### deadfallref01_value: function 63 -/
def deadfallref01_value.l0 : Nat → Int → Int → Int → Option (Int)
  | 0, _, _, _ => none
  | k + 1, x0, x3, x4 => if x4 < x0 then (deadfallref01_value.l0 k x0 (IntKind.u64.wrap (x3 * 2)) (wrap64 (x4 + 1))) else (some x3)
def deadfallref01_value.f (k : Nat) (a0 : Int) : Option (Int) := deadfallref01_value.l0 k a0 1 0
theorem deadfallref01_value.mono_l : ∀ k, (∀ y0 y1 y2, LeO (deadfallref01_value.l0 k y0 y1 y2) (deadfallref01_value.l0 (k + 1) y0 y1 y2))
  | 0 => fun _ _ _ r h => by simp [deadfallref01_value.l0] at h
  | k + 1 => by
    have ih0 := deadfallref01_value.mono_l k
    · intro y0 y1 y2
      unfold deadfallref01_value.l0
      repeat' first
      | (with_reducible exact ih0 _ _ _)
      | (with_reducible exact LeO.refl _)
      | (with_reducible exact LeO.none _)
      | (with_reducible refine LeO.ite ?_ ?_)
      | (with_reducible refine LeO.bind ?_ (fun _ => ?_))
      | exact ih0 _ _ _
      | exact LeO.none _
      | refine LeO.ite ?_ ?_
      | refine LeO.bind ?_ (fun _ => ?_)
theorem deadfallref01_value.mono : ∀ a0 k, LeO (deadfallref01_value.f k a0) (deadfallref01_value.f (k + 1) a0) := by
  intro a0 k
  have ih0 := deadfallref01_value.mono_l k
  unfold deadfallref01_value.f
  repeat' first
      | (with_reducible exact ih0 _ _ _)
      | (with_reducible exact LeO.refl _)
      | (with_reducible exact LeO.none _)
      | (with_reducible refine LeO.ite ?_ ?_)
      | (with_reducible refine LeO.bind ?_ (fun _ => ?_))
      | exact ih0 _ _ _
      | exact LeO.none _
      | refine LeO.ite ?_ ?_
      | refine LeO.bind ?_ (fun _ => ?_)
set_option maxHeartbeats 8000000 in
set_option maxRecDepth 100000 in
theorem deadfallref01_value.calls (k : Nat) (a0 : Int) (r : Int) (w : World) (h : deadfallref01_value.f k a0 = some r) :
    Calls Tryd.prog 63 #[.int .i64 a0] w fun e w' => e = .returned (.int .u64 r) ∧ Drawn0 w w' := by
  have H : (deadfallref01_value.l0 k a0 1 0) = some r := h
  clear h
  have H' := Aside0.mk H
  clear H
  go_enter Tryd.func63, Tryd.ntmps63
  go_wp2
  go_loopg [3, 4] k (fun kq v3 v4 w' => ∃ (x3_1 : Int) (x4_1 : Int), v3 = .int .u64 x3_1 ∧ v4 = .int .i64 x4_1 ∧ Aside0 (deadfallref01_value.l0 kq a0 x3_1 x4_1 = some r) ∧ Aside0 (kq ≤ k) ∧ Drawn0 w w')
  case atStart => exact ⟨(1), (0), (by first | rfl | (simp; done) | (simp [*]; done)), (by first | rfl | (simp; done) | (simp [*]; done)), H', ⟨Nat.le_refl _⟩, by repeat (first | exact Drawn0.refl _ | apply Drawn0.step)⟩
  case round =>
    clear H'
    obtain ⟨x3_1, x4_1, rfl, rfl, HA, HK1, ⟨m1, rfl⟩⟩ := hrel
    cases gk with
    | zero => exact absurd HA.out (by simp [deadfallref01_value.l0])
    | succ k1 =>
      have H := HA.out
      clear HA
      simp only [deadfallref01_value.l0] at H
      by_cases c2 : x4_1 < a0
      · rw [if_pos c2] at H
        have c2b0 : decide (x4_1 < a0) = true := decide_eq_true c2
        clear c2
        have H' := Aside0.mk H
        clear H
        go_wp2
        go_roundg k1
        case measure => have := HK1.out; omega
        case rel => exact ⟨(IntKind.u64.wrap (x3_1 * 2)), (wrap64 (x4_1 + 1)), (by first | rfl | (simp; done) | (simp [*]; done)), (by first | rfl | (simp; done) | (simp [*]; done)), H', ⟨by have := HK1.out; omega⟩, by repeat (first | exact Drawn0.refl _ | apply Drawn0.step)⟩
      · rw [if_neg c2] at H
        have c2b0 : decide (x4_1 < a0) = false := decide_eq_false c2
        clear c2
        obtain rfl := Option.some.inj H
        go_wp2
        go_ret
        exact ⟨by first | rfl | (simp; done) | (simp [*]; done), by repeat (first | exact Drawn0.refl _ | apply Drawn0.step)⟩

/-! ### deadfallref01_Has: function 56 -/
def deadfallref01_Has.f (k : Nat) (a0 : Int) (a1 : Int) : Option (Bool) := (deadfallref01_Is.f a1).bind fun t101 => (if t101 = true then ((deadfallref01_value.f k a1).bind fun t102 => (if t102 = 0 then (none) else (some ((Int.tmod (IntKind.u64.wrap (Int.tdiv (IntKind.u64.wrap (a0)) t102)) 2) == 1)))) else (some false))
theorem deadfallref01_Has.mono : ∀ a0 a1 k, LeO (deadfallref01_Has.f k a0 a1) (deadfallref01_Has.f (k + 1) a0 a1) := by
  intro a0 a1 k
  unfold deadfallref01_Has.f
  repeat' first
      | (with_reducible exact deadfallref01_value.mono _ _)
      | (with_reducible exact LeO.refl _)
      | (with_reducible exact LeO.none _)
      | (with_reducible refine LeO.ite ?_ ?_)
      | (with_reducible refine LeO.bind ?_ (fun _ => ?_))
      | exact deadfallref01_value.mono _ _
      | exact LeO.none _
      | refine LeO.ite ?_ ?_
      | refine LeO.bind ?_ (fun _ => ?_)
set_option maxHeartbeats 8000000 in
set_option maxRecDepth 100000 in
theorem deadfallref01_Has.calls (k : Nat) (a0 : Int) (a1 : Int) (r : Bool) (w : World) (h : deadfallref01_Has.f k a0 a1 = some r) :
    Calls Tryd.prog 56 #[.int .u32 a0, .int .i64 a1] w fun e w' => e = .returned (.bool r) ∧ Drawn0 w w' := by
  have H : ((deadfallref01_Is.f a1).bind fun t101 => (if t101 = true then ((deadfallref01_value.f k a1).bind fun t102 => (if t102 = 0 then (none) else (some ((Int.tmod (IntKind.u64.wrap (Int.tdiv (IntKind.u64.wrap (a0)) t102)) 2) == 1)))) else (some false))) = some r := h
  clear h
  replace H := Option.bind_eq_some_iff.mp H
  obtain ⟨t101, A30, H⟩ := H
  replace H : (if t101 = true then ((deadfallref01_value.f k a1).bind fun t102 => (if t102 = 0 then (none) else (some ((Int.tmod (IntKind.u64.wrap (Int.tdiv (IntKind.u64.wrap (a0)) t102)) 2) == 1)))) else (some false)) = some r := H
  have A3 := Aside0.mk A30
  clear A30
  by_cases c4 : t101 = true
  · subst c4
    have H1 : ((deadfallref01_value.f k a1).bind fun t102 => (if t102 = 0 then (none) else (some ((Int.tmod (IntKind.u64.wrap (Int.tdiv (IntKind.u64.wrap (a0)) t102)) 2) == 1)))) = some r := by rw [if_pos rfl] at H; exact H
    clear H
    have H := H1
    clear H1
    replace H := Option.bind_eq_some_iff.mp H
    obtain ⟨t102, A50, H⟩ := H
    replace H : (if t102 = 0 then (none) else (some ((Int.tmod (IntKind.u64.wrap (Int.tdiv (IntKind.u64.wrap (a0)) t102)) 2) == 1))) = some r := H
    have A5 := Aside0.mk A50
    clear A50
    by_cases c6 : t102 = 0
    · rw [if_pos c6] at H
      exact absurd H (by simp)
    · rw [if_neg c6] at H
      have c6b0 : (t102 == 0) = false := beq_eq_false_iff_ne.mpr c6
      have c6b1 : (t102 != 0) = true := bne_iff_ne.mpr c6
      obtain rfl := Option.some.inj H
      go_enter Tryd.func56, Tryd.ntmps56
      go_wp2_with (first | ((with_reducible refine gate_callee (f := 51) rfl ?_); refine goesL_ (some 6) rfl rfl Tryd.func51 (by kernel_rfl) rfl #[.int .i64 a1] rfl (by (try simp only [List.map_toArray, List.map_cons, List.map_nil]); first | done | rfl | (simp only [List.length_drop, List.length_take]; rfl)) ?_; (with_reducible refine (deadfallref01_Is.calls a1 true _ A3.out).mono ?_); rintro e w' ⟨rfl, ⟨nd, rfl⟩⟩; refine ⟨_, rfl, ?_⟩) | (go_at_call 63; (with_reducible refine (deadfallref01_value.calls k a1 t102 _ A5.out).mono ?_); rintro e w' ⟨rfl, ⟨nd, rfl⟩⟩))
      go_ret
      exact ⟨by first | rfl | (simp; done) | (simp [*]; done), by repeat (first | exact Drawn0.refl _ | apply Drawn0.step)⟩
  · replace c4 := Bool.eq_false_iff.mpr c4
    subst c4
    have H1 : (some false) = some r := by rw [if_neg (show ¬ (false = true) by decide)] at H; exact H
    clear H
    have H := H1
    clear H1
    obtain rfl := Option.some.inj H
    go_enter Tryd.func56, Tryd.ntmps56
    go_wp2_with (first | ((with_reducible refine gate_callee (f := 51) rfl ?_); refine goesL_ (some 6) rfl rfl Tryd.func51 (by kernel_rfl) rfl #[.int .i64 a1] rfl (by (try simp only [List.map_toArray, List.map_cons, List.map_nil]); first | done | rfl | (simp only [List.length_drop, List.length_take]; rfl)) ?_; (with_reducible refine (deadfallref01_Is.calls a1 false _ A3.out).mono ?_); rintro e w' ⟨rfl, ⟨nd, rfl⟩⟩; refine ⟨_, rfl, ?_⟩))
    go_ret
    exact ⟨by first | rfl | (simp; done) | (simp [*]; done), by repeat (first | exact Drawn0.refl _ | apply Drawn0.step)⟩

/-- THE ONE PURE STATEMENT of deadfallref01_Has: yours. -/
def deadfallref01_Has.Pure : Prop := ∀ (a0 : Int) (a1 : Int), (Lit.int .u32 a0).wf = true → (Lit.int .i64 a1).wf = true → ∃ k, deadfallref01_Has.f k a0 a1 = some true
theorem deadfallref01_Has.walk (P : deadfallref01_Has.Pure) (a0 : Int) (a1 : Int) (w : World) (w0 : (Lit.int .u32 a0).wf = true) (w1 : (Lit.int .i64 a1).wf = true) :
    Calls Tryd.prog 56 #[.int .u32 a0, .int .i64 a1] w fun e w' => e = .returned (.bool true) ∧ Below w.heap.size w w' := by
  obtain ⟨k, h⟩ := P a0 a1 w0 w1
  refine (deadfallref01_Has.calls k a0 a1 true w h).mono ?_
  rintro e w' ⟨rfl, hd⟩
  exact ⟨rfl, hd.below⟩

/-! ### deadfallref01_List: function 39 -/
def deadfallref01_List.l0 : Nat → Int → List Int → Int → Option (List Int)
  | 0, _, _, _ => none
  | k + 1, x0, x3, x4 => if x4 ≤ 31 then ((deadfallref01_Has.f k x0 x4).bind fun t106 => (if t106 = true then (if x3.length < 17592186044416 then (deadfallref01_List.l0 k x0 (x3 ++ [x4]) (wrap64 (x4 + 1))) else (none)) else (deadfallref01_List.l0 k x0 x3 (wrap64 (x4 + 1))))) else (some x3)
def deadfallref01_List.f (k : Nat) (a0 : Int) : Option (List Int) := deadfallref01_List.l0 k a0 (([] : List Int)) 1
theorem deadfallref01_List.mono_l : ∀ k, (∀ y0 y1 y2, LeO (deadfallref01_List.l0 k y0 y1 y2) (deadfallref01_List.l0 (k + 1) y0 y1 y2))
  | 0 => fun _ _ _ r h => by simp [deadfallref01_List.l0] at h
  | k + 1 => by
    have ih0 := deadfallref01_List.mono_l k
    · intro y0 y1 y2
      unfold deadfallref01_List.l0
      repeat' first
      | (with_reducible exact ih0 _ _ _)
      | (with_reducible exact deadfallref01_Has.mono _ _ _)
      | (with_reducible exact LeO.refl _)
      | (with_reducible exact LeO.none _)
      | (with_reducible refine LeO.ite ?_ ?_)
      | (with_reducible refine LeO.bind ?_ (fun _ => ?_))
      | exact ih0 _ _ _
      | exact deadfallref01_Has.mono _ _ _
      | exact LeO.none _
      | refine LeO.ite ?_ ?_
      | refine LeO.bind ?_ (fun _ => ?_)
theorem deadfallref01_List.mono : ∀ a0 k, LeO (deadfallref01_List.f k a0) (deadfallref01_List.f (k + 1) a0) := by
  intro a0 k
  have ih0 := deadfallref01_List.mono_l k
  unfold deadfallref01_List.f
  repeat' first
      | (with_reducible exact ih0 _ _ _)
      | (with_reducible exact deadfallref01_Has.mono _ _ _)
      | (with_reducible exact LeO.refl _)
      | (with_reducible exact LeO.none _)
      | (with_reducible refine LeO.ite ?_ ?_)
      | (with_reducible refine LeO.bind ?_ (fun _ => ?_))
      | exact ih0 _ _ _
      | exact deadfallref01_Has.mono _ _ _
      | exact LeO.none _
      | refine LeO.ite ?_ ?_
      | refine LeO.bind ?_ (fun _ => ?_)
set_option maxHeartbeats 8000000 in
set_option maxRecDepth 100000 in
theorem deadfallref01_List.calls (k : Nat) (a0 : Int) (r : List Int) (w : World) (h : deadfallref01_List.f k a0 = some r) :
    Calls Tryd.prog 39 #[.int .u32 a0] w fun e w' => ∃ v0_ : Value, e = .returned (v0_) ∧ Kd.R (Kd.int .i64) 3 w' w.heap.size (fun _ => True) v0_ r ∧ Below w.heap.size w w' := by
  have HB := Aside0.mk (Below.refl w.heap.size w)
  have H : (deadfallref01_List.l0 k a0 (([] : List Int)) 1) = some r := h
  clear h
  obtain ⟨y103, hy103⟩ : ∃ y_ : List Int, y_ = (([] : List Int)) := ⟨_, rfl⟩
  replace H : (deadfallref01_List.l0 k a0 y103 1) = some r := by first | (rw [hy103]; with_reducible exact H) | (have H2_ := (Option.bind_some _ _).symm.trans H; rw [hy103]; with_reducible exact H2_) | (have H2_ := (Option.bind_some _ _).symm.trans H; with_reducible exact H2_) | with_reducible exact H | (rw [hy103]; exact H) | exact H
  have Ny103 := Aside0.mk hy103
  clear hy103
  have H' := Aside0.mk H
  clear H
  go_enter Tryd.func39, Tryd.ntmps39
  go_wp2_with (first | ((with_reducible refine gate_dst (N := 5) rfl ?_); refine Kd.R_lit (Kd.int .i64) _ 3 ?hg (N := 5) ?hd (xs := ([] : List Int)) (inner := []) (ok := fun _ => True) (okp := fun _ => True) ?hr ?hp (fun _ hk => hk) trivial (Below.refl _ _) (Nat.le_refl _) (by simp) ?_; (case hd => rfl); (case hg => rfl); (case hr => first | (go_simp; done) | (go_simp; rfl)); (case hp => exact (Reps.none _ _)); intro v104 w2 ho3 hb hg_ hnew_; clear hg_ hnew_; (first | rw [← Ny103.out] at ho3 | (simp only [Int.reduceToNat] at ho3; rw [← Ny103.out] at ho3)); have n0_ := Aside0.mk (Kd.R_lower ho3 (below_size (by repeat (first | (with_reducible first | exact HB.out | apply below_alloc | apply pw_below_drewN | apply below_drew1) | exact HB.out)))); have n1_ := Aside0.mk (below_step (by repeat (first | (with_reducible first | exact HB.out | apply below_alloc | apply pw_below_drewN | apply below_drew1) | exact HB.out)) hb); clear HB; have HO105 := n0_; have HB := n1_; clear n0_ n1_; clear hb ho3))
  go_loopg [3, 4] k (fun kq v3 v4 w' => ∃ (x3_1 : List Int) (x4_1 : Int), v4 = .int .i64 x4_1 ∧ Aside0 (deadfallref01_List.l0 kq a0 x3_1 x4_1 = some r) ∧ Aside0 (kq ≤ k) ∧ Aside0 (Kd.R (Kd.int .i64) 3 w' w.heap.size (fun _ => True) v3 x3_1) ∧ Aside0 (Below w.heap.size w w'))
  case atStart => exact ⟨(y103), (1), (by first | rfl | (simp; done) | (simp [*]; done)), H', ⟨Nat.le_refl _⟩, ⟨by (with_reducible repeat (first | apply Kd.R_alloc | apply Kd.R_drewN | apply Kd.R_drew)); exact HO105.out⟩, ⟨by repeat (first | (with_reducible first | exact HB.out | apply below_alloc | apply pw_below_drewN | apply below_drew1) | exact HB.out)⟩⟩
  case round =>
    clear H'
    try clear p2
    try clear c3
    obtain ⟨x3_1, x4_1, rfl, HA, HK1, HO_3, HB⟩ := hrel
    cases gk with
    | zero => exact absurd HA.out (by simp [deadfallref01_List.l0])
    | succ k1 =>
      have H := HA.out
      clear HA
      simp only [deadfallref01_List.l0] at H
      by_cases c4 : x4_1 ≤ 31
      · rw [if_pos c4] at H
        have c4b0 : decide (x4_1 ≤ 31) = true := decide_eq_true c4
        clear c4
        replace H := Option.bind_eq_some_iff.mp H
        obtain ⟨t106, A50, H⟩ := H
        replace H : (if t106 = true then (if x3_1.length < 17592186044416 then (deadfallref01_List.l0 k1 a0 (x3_1 ++ [x4_1]) (wrap64 (x4_1 + 1))) else (none)) else (deadfallref01_List.l0 k1 a0 x3_1 (wrap64 (x4_1 + 1)))) = some r := H
        have A5 := Aside0.mk A50
        clear A50
        by_cases c6 : t106 = true
        · subst c6
          have H1 : (if x3_1.length < 17592186044416 then (deadfallref01_List.l0 k1 a0 (x3_1 ++ [x4_1]) (wrap64 (x4_1 + 1))) else (none)) = some r := by rw [if_pos rfl] at H; exact H
          clear H
          have H := H1
          clear H1
          by_cases c7 : x3_1.length < 17592186044416
          · rw [if_pos c7] at H
            have LMc7 := Aside0.mk c7
            clear c7
            obtain ⟨y107, hy107⟩ : ∃ y_ : List Int, y_ = (x3_1 ++ [x4_1]) := ⟨_, rfl⟩
            replace H : (deadfallref01_List.l0 k1 a0 y107 (wrap64 (x4_1 + 1))) = some r := by first | (rw [hy107]; with_reducible exact H) | (have H2_ := (Option.bind_some _ _).symm.trans H; rw [hy107]; with_reducible exact H2_) | (have H2_ := (Option.bind_some _ _).symm.trans H; with_reducible exact H2_) | with_reducible exact H | (rw [hy107]; exact H) | exact H
            have Ny107 := Aside0.mk hy107
            clear hy107
            have H' := Aside0.mk H
            clear H
            go_wp2_with (first | ((with_reducible refine gate_callee (f := 56) rfl ?_); refine goesL_ (some 12) rfl rfl Tryd.func56 (by kernel_rfl) rfl #[.int .u32 a0, .int .i64 x4_1] rfl (by (try simp only [List.map_toArray, List.map_cons, List.map_nil]); first | done | rfl | (simp only [List.length_drop, List.length_take]; rfl)) ?_; (with_reducible refine (deadfallref01_Has.calls k1 a0 x4_1 true _ A5.out).mono ?_); rintro e w' ⟨rfl, ⟨nd, rfl⟩⟩; refine ⟨_, rfl, ?_⟩) | ((with_reducible refine gate_builtin (b := .append) (xs := #[.tmp 13, .tmp 15]) rfl ?_); at_builtin; refine Kd.R_append (Kd.int .i64) (w0 := w) w.heap.size rfl (.tmp 13) (.tmp 15) 36 3 (.int .i64 0) 8 rfl Tryd.underlying36 info3 rfl (by decide) (by omega) u3 x3_1 x4_1 [.int .i64 x4_1] (fun _ => True) (fun _ => False) rfl rfl ?aP (fun _ hk => hk.elim) ?aF ?aO ?aB ?aS ?aL ?_; (case aP => exact rfl); (case aB => exact (by repeat (first | (with_reducible first | exact HB.out | apply below_alloc | apply pw_below_drewN | apply below_drew1) | exact HB.out))); (case aF => exact (fun _ _ => trivial)); (case aO => exact (by (with_reducible repeat (first | apply Kd.R_alloc | apply Kd.R_drewN | apply Kd.R_drew)); exact HO_3.out)); (case aS => exact (below_size (by repeat (first | (with_reducible first | exact HB.out | apply below_alloc | apply pw_below_drewN | apply below_drew1) | exact HB.out)))); (case aL => have := LMc7.out; omega); intro v108 w8 ho hb hg hat; rw [← Ny107.out] at ho; have n0_ := Aside0.mk (hb); have n1_ := Aside0.mk (ho); clear HB; clear HO_3; have HB := n0_; have HO109 := n1_; clear n0_ n1_; clear ho hb hg hat))
            go_roundg k1
            case measure => have := HK1.out; omega
            case rel => exact ⟨(y107), (wrap64 (x4_1 + 1)), (by first | rfl | (simp; done) | (simp [*]; done)), H', ⟨by have := HK1.out; omega⟩, ⟨by (with_reducible repeat (first | apply Kd.R_alloc | apply Kd.R_drewN | apply Kd.R_drew)); exact HO109.out⟩, ⟨by repeat (first | (with_reducible first | exact HB.out | apply below_alloc | apply pw_below_drewN | apply below_drew1) | exact HB.out)⟩⟩
          · rw [if_neg c7] at H
            exact absurd H (by simp)
        · replace c6 := Bool.eq_false_iff.mpr c6
          subst c6
          have H1 : (deadfallref01_List.l0 k1 a0 x3_1 (wrap64 (x4_1 + 1))) = some r := by rw [if_neg (show ¬ (false = true) by decide)] at H; exact H
          clear H
          have H := H1
          clear H1
          have H' := Aside0.mk H
          clear H
          go_wp2_with (first | ((with_reducible refine gate_callee (f := 56) rfl ?_); refine goesL_ (some 12) rfl rfl Tryd.func56 (by kernel_rfl) rfl #[.int .u32 a0, .int .i64 x4_1] rfl (by (try simp only [List.map_toArray, List.map_cons, List.map_nil]); first | done | rfl | (simp only [List.length_drop, List.length_take]; rfl)) ?_; (with_reducible refine (deadfallref01_Has.calls k1 a0 x4_1 false _ A5.out).mono ?_); rintro e w' ⟨rfl, ⟨nd, rfl⟩⟩; refine ⟨_, rfl, ?_⟩))
          go_roundg k1
          case measure => have := HK1.out; omega
          case rel => exact ⟨(x3_1), (wrap64 (x4_1 + 1)), (by first | rfl | (simp; done) | (simp [*]; done)), H', ⟨by have := HK1.out; omega⟩, ⟨by (with_reducible repeat (first | apply Kd.R_alloc | apply Kd.R_drewN | apply Kd.R_drew)); exact HO_3.out⟩, ⟨by repeat (first | (with_reducible first | exact HB.out | apply below_alloc | apply pw_below_drewN | apply below_drew1) | exact HB.out)⟩⟩
      · rw [if_neg c4] at H
        have c4b0 : decide (x4_1 ≤ 31) = false := decide_eq_false c4
        clear c4
        obtain rfl := Option.some.inj H
        go_wp2
        go_ret
        exact ⟨_, by first | rfl | (simp [errW_none, errW_some] <;> rfl) | (simp [*, errW_none, errW_some] <;> rfl), by (with_reducible repeat (first | apply Kd.R_alloc | apply Kd.R_drewN | apply Kd.R_drew)); exact HO_3.out, by repeat (first | (with_reducible first | exact HB.out | apply below_alloc | apply pw_below_drewN | apply below_drew1) | exact HB.out)⟩

/-! ### deadfallref01_Names: function 69 -/
def deadfallref01_Names.f  : Option (List ByteArray) := some (([(⟨#[72, 85, 80]⟩ : ByteArray), (⟨#[73, 78, 84]⟩ : ByteArray), (⟨#[81, 85, 73, 84]⟩ : ByteArray), (⟨#[73, 76, 76]⟩ : ByteArray), (⟨#[84, 82, 65, 80]⟩ : ByteArray), (⟨#[65, 66, 82, 84]⟩ : ByteArray), (⟨#[66, 85, 83]⟩ : ByteArray), (⟨#[70, 80, 69]⟩ : ByteArray), (⟨#[75, 73, 76, 76]⟩ : ByteArray), (⟨#[85, 83, 82, 49]⟩ : ByteArray), (⟨#[83, 69, 71, 86]⟩ : ByteArray), (⟨#[85, 83, 82, 50]⟩ : ByteArray), (⟨#[80, 73, 80, 69]⟩ : ByteArray), (⟨#[65, 76, 82, 77]⟩ : ByteArray), (⟨#[84, 69, 82, 77]⟩ : ByteArray), (⟨#[83, 84, 75, 70, 76, 84]⟩ : ByteArray), (⟨#[67, 72, 76, 68]⟩ : ByteArray), (⟨#[67, 79, 78, 84]⟩ : ByteArray), (⟨#[83, 84, 79, 80]⟩ : ByteArray), (⟨#[84, 83, 84, 80]⟩ : ByteArray), (⟨#[84, 84, 73, 78]⟩ : ByteArray), (⟨#[84, 84, 79, 85]⟩ : ByteArray), (⟨#[85, 82, 71]⟩ : ByteArray), (⟨#[88, 67, 80, 85]⟩ : ByteArray), (⟨#[88, 70, 83, 90]⟩ : ByteArray), (⟨#[86, 84, 65, 76, 82, 77]⟩ : ByteArray), (⟨#[80, 82, 79, 70]⟩ : ByteArray), (⟨#[87, 73, 78, 67, 72]⟩ : ByteArray), (⟨#[73, 79]⟩ : ByteArray), (⟨#[80, 87, 82]⟩ : ByteArray), (⟨#[83, 89, 83]⟩ : ByteArray)] : List ByteArray))
set_option maxHeartbeats 8000000 in
set_option maxRecDepth 100000 in
theorem deadfallref01_Names.calls  (r : List ByteArray) (w : World) (h : deadfallref01_Names.f  = some r) :
    Calls Tryd.prog 69 #[] w fun e w' => ∃ v0_ : Value, e = .returned (v0_) ∧ Kd.R Kd.string 9 w' w.heap.size (fun _ => True) v0_ r ∧ Below w.heap.size w w' := by
  have HB := Aside0.mk (Below.refl w.heap.size w)
  have H : (some (([(⟨#[72, 85, 80]⟩ : ByteArray), (⟨#[73, 78, 84]⟩ : ByteArray), (⟨#[81, 85, 73, 84]⟩ : ByteArray), (⟨#[73, 76, 76]⟩ : ByteArray), (⟨#[84, 82, 65, 80]⟩ : ByteArray), (⟨#[65, 66, 82, 84]⟩ : ByteArray), (⟨#[66, 85, 83]⟩ : ByteArray), (⟨#[70, 80, 69]⟩ : ByteArray), (⟨#[75, 73, 76, 76]⟩ : ByteArray), (⟨#[85, 83, 82, 49]⟩ : ByteArray), (⟨#[83, 69, 71, 86]⟩ : ByteArray), (⟨#[85, 83, 82, 50]⟩ : ByteArray), (⟨#[80, 73, 80, 69]⟩ : ByteArray), (⟨#[65, 76, 82, 77]⟩ : ByteArray), (⟨#[84, 69, 82, 77]⟩ : ByteArray), (⟨#[83, 84, 75, 70, 76, 84]⟩ : ByteArray), (⟨#[67, 72, 76, 68]⟩ : ByteArray), (⟨#[67, 79, 78, 84]⟩ : ByteArray), (⟨#[83, 84, 79, 80]⟩ : ByteArray), (⟨#[84, 83, 84, 80]⟩ : ByteArray), (⟨#[84, 84, 73, 78]⟩ : ByteArray), (⟨#[84, 84, 79, 85]⟩ : ByteArray), (⟨#[85, 82, 71]⟩ : ByteArray), (⟨#[88, 67, 80, 85]⟩ : ByteArray), (⟨#[88, 70, 83, 90]⟩ : ByteArray), (⟨#[86, 84, 65, 76, 82, 77]⟩ : ByteArray), (⟨#[80, 82, 79, 70]⟩ : ByteArray), (⟨#[87, 73, 78, 67, 72]⟩ : ByteArray), (⟨#[73, 79]⟩ : ByteArray), (⟨#[80, 87, 82]⟩ : ByteArray), (⟨#[83, 89, 83]⟩ : ByteArray)] : List ByteArray))) = some r := h
  clear h
  obtain ⟨y110, hy110⟩ : ∃ y_ : List ByteArray, y_ = (([(⟨#[72, 85, 80]⟩ : ByteArray), (⟨#[73, 78, 84]⟩ : ByteArray), (⟨#[81, 85, 73, 84]⟩ : ByteArray), (⟨#[73, 76, 76]⟩ : ByteArray), (⟨#[84, 82, 65, 80]⟩ : ByteArray), (⟨#[65, 66, 82, 84]⟩ : ByteArray), (⟨#[66, 85, 83]⟩ : ByteArray), (⟨#[70, 80, 69]⟩ : ByteArray), (⟨#[75, 73, 76, 76]⟩ : ByteArray), (⟨#[85, 83, 82, 49]⟩ : ByteArray), (⟨#[83, 69, 71, 86]⟩ : ByteArray), (⟨#[85, 83, 82, 50]⟩ : ByteArray), (⟨#[80, 73, 80, 69]⟩ : ByteArray), (⟨#[65, 76, 82, 77]⟩ : ByteArray), (⟨#[84, 69, 82, 77]⟩ : ByteArray), (⟨#[83, 84, 75, 70, 76, 84]⟩ : ByteArray), (⟨#[67, 72, 76, 68]⟩ : ByteArray), (⟨#[67, 79, 78, 84]⟩ : ByteArray), (⟨#[83, 84, 79, 80]⟩ : ByteArray), (⟨#[84, 83, 84, 80]⟩ : ByteArray), (⟨#[84, 84, 73, 78]⟩ : ByteArray), (⟨#[84, 84, 79, 85]⟩ : ByteArray), (⟨#[85, 82, 71]⟩ : ByteArray), (⟨#[88, 67, 80, 85]⟩ : ByteArray), (⟨#[88, 70, 83, 90]⟩ : ByteArray), (⟨#[86, 84, 65, 76, 82, 77]⟩ : ByteArray), (⟨#[80, 82, 79, 70]⟩ : ByteArray), (⟨#[87, 73, 78, 67, 72]⟩ : ByteArray), (⟨#[73, 79]⟩ : ByteArray), (⟨#[80, 87, 82]⟩ : ByteArray), (⟨#[83, 89, 83]⟩ : ByteArray)] : List ByteArray)) := ⟨_, rfl⟩
  replace H : (some y110) = some r := by first | (rw [hy110]; with_reducible exact H) | (have H2_ := (Option.bind_some _ _).symm.trans H; rw [hy110]; with_reducible exact H2_) | (have H2_ := (Option.bind_some _ _).symm.trans H; with_reducible exact H2_) | with_reducible exact H | (rw [hy110]; exact H) | exact H
  have Ny110 := Aside0.mk hy110
  clear hy110
  obtain rfl := Option.some.inj H
  go_enter Tryd.func69, Tryd.ntmps69
  go_wp2_with (first | ((with_reducible refine gate_dst (N := 1) rfl ?_); refine Kd.R_lit Kd.string _ 9 ?hg (N := 1) ?hd (xs := ([(⟨#[72, 85, 80]⟩ : ByteArray), (⟨#[73, 78, 84]⟩ : ByteArray), (⟨#[81, 85, 73, 84]⟩ : ByteArray), (⟨#[73, 76, 76]⟩ : ByteArray), (⟨#[84, 82, 65, 80]⟩ : ByteArray), (⟨#[65, 66, 82, 84]⟩ : ByteArray), (⟨#[66, 85, 83]⟩ : ByteArray), (⟨#[70, 80, 69]⟩ : ByteArray), (⟨#[75, 73, 76, 76]⟩ : ByteArray), (⟨#[85, 83, 82, 49]⟩ : ByteArray), (⟨#[83, 69, 71, 86]⟩ : ByteArray), (⟨#[85, 83, 82, 50]⟩ : ByteArray), (⟨#[80, 73, 80, 69]⟩ : ByteArray), (⟨#[65, 76, 82, 77]⟩ : ByteArray), (⟨#[84, 69, 82, 77]⟩ : ByteArray), (⟨#[83, 84, 75, 70, 76, 84]⟩ : ByteArray), (⟨#[67, 72, 76, 68]⟩ : ByteArray), (⟨#[67, 79, 78, 84]⟩ : ByteArray), (⟨#[83, 84, 79, 80]⟩ : ByteArray), (⟨#[84, 83, 84, 80]⟩ : ByteArray), (⟨#[84, 84, 73, 78]⟩ : ByteArray), (⟨#[84, 84, 79, 85]⟩ : ByteArray), (⟨#[85, 82, 71]⟩ : ByteArray), (⟨#[88, 67, 80, 85]⟩ : ByteArray), (⟨#[88, 70, 83, 90]⟩ : ByteArray), (⟨#[86, 84, 65, 76, 82, 77]⟩ : ByteArray), (⟨#[80, 82, 79, 70]⟩ : ByteArray), (⟨#[87, 73, 78, 67, 72]⟩ : ByteArray), (⟨#[73, 79]⟩ : ByteArray), (⟨#[80, 87, 82]⟩ : ByteArray), (⟨#[83, 89, 83]⟩ : ByteArray)] : List ByteArray)) (inner := [.string (⟨#[72, 85, 80]⟩ : ByteArray), .string (⟨#[73, 78, 84]⟩ : ByteArray), .string (⟨#[81, 85, 73, 84]⟩ : ByteArray), .string (⟨#[73, 76, 76]⟩ : ByteArray), .string (⟨#[84, 82, 65, 80]⟩ : ByteArray), .string (⟨#[65, 66, 82, 84]⟩ : ByteArray), .string (⟨#[66, 85, 83]⟩ : ByteArray), .string (⟨#[70, 80, 69]⟩ : ByteArray), .string (⟨#[75, 73, 76, 76]⟩ : ByteArray), .string (⟨#[85, 83, 82, 49]⟩ : ByteArray), .string (⟨#[83, 69, 71, 86]⟩ : ByteArray), .string (⟨#[85, 83, 82, 50]⟩ : ByteArray), .string (⟨#[80, 73, 80, 69]⟩ : ByteArray), .string (⟨#[65, 76, 82, 77]⟩ : ByteArray), .string (⟨#[84, 69, 82, 77]⟩ : ByteArray), .string (⟨#[83, 84, 75, 70, 76, 84]⟩ : ByteArray), .string (⟨#[67, 72, 76, 68]⟩ : ByteArray), .string (⟨#[67, 79, 78, 84]⟩ : ByteArray), .string (⟨#[83, 84, 79, 80]⟩ : ByteArray), .string (⟨#[84, 83, 84, 80]⟩ : ByteArray), .string (⟨#[84, 84, 73, 78]⟩ : ByteArray), .string (⟨#[84, 84, 79, 85]⟩ : ByteArray), .string (⟨#[85, 82, 71]⟩ : ByteArray), .string (⟨#[88, 67, 80, 85]⟩ : ByteArray), .string (⟨#[88, 70, 83, 90]⟩ : ByteArray), .string (⟨#[86, 84, 65, 76, 82, 77]⟩ : ByteArray), .string (⟨#[80, 82, 79, 70]⟩ : ByteArray), .string (⟨#[87, 73, 78, 67, 72]⟩ : ByteArray), .string (⟨#[73, 79]⟩ : ByteArray), .string (⟨#[80, 87, 82]⟩ : ByteArray), .string (⟨#[83, 89, 83]⟩ : ByteArray)]) (ok := fun _ => True) (okp := fun _ => True) ?hr ?hp (fun _ hk => hk) trivial (Below.refl _ _) (Nat.le_refl _) (by simp) ?_; (case hd => rfl); (case hg => rfl); (case hr => first | (go_simp; done) | (go_simp; rfl)); (case hp => exact (Reps.one (show Kd.M Kd.string _ _ _ (⟨#[72, 85, 80]⟩ : ByteArray) [.string (⟨#[72, 85, 80]⟩ : ByteArray)] from rfl) (Reps.one (show Kd.M Kd.string _ _ _ (⟨#[73, 78, 84]⟩ : ByteArray) [.string (⟨#[73, 78, 84]⟩ : ByteArray)] from rfl) (Reps.one (show Kd.M Kd.string _ _ _ (⟨#[81, 85, 73, 84]⟩ : ByteArray) [.string (⟨#[81, 85, 73, 84]⟩ : ByteArray)] from rfl) (Reps.one (show Kd.M Kd.string _ _ _ (⟨#[73, 76, 76]⟩ : ByteArray) [.string (⟨#[73, 76, 76]⟩ : ByteArray)] from rfl) (Reps.one (show Kd.M Kd.string _ _ _ (⟨#[84, 82, 65, 80]⟩ : ByteArray) [.string (⟨#[84, 82, 65, 80]⟩ : ByteArray)] from rfl) (Reps.one (show Kd.M Kd.string _ _ _ (⟨#[65, 66, 82, 84]⟩ : ByteArray) [.string (⟨#[65, 66, 82, 84]⟩ : ByteArray)] from rfl) (Reps.one (show Kd.M Kd.string _ _ _ (⟨#[66, 85, 83]⟩ : ByteArray) [.string (⟨#[66, 85, 83]⟩ : ByteArray)] from rfl) (Reps.one (show Kd.M Kd.string _ _ _ (⟨#[70, 80, 69]⟩ : ByteArray) [.string (⟨#[70, 80, 69]⟩ : ByteArray)] from rfl) (Reps.one (show Kd.M Kd.string _ _ _ (⟨#[75, 73, 76, 76]⟩ : ByteArray) [.string (⟨#[75, 73, 76, 76]⟩ : ByteArray)] from rfl) (Reps.one (show Kd.M Kd.string _ _ _ (⟨#[85, 83, 82, 49]⟩ : ByteArray) [.string (⟨#[85, 83, 82, 49]⟩ : ByteArray)] from rfl) (Reps.one (show Kd.M Kd.string _ _ _ (⟨#[83, 69, 71, 86]⟩ : ByteArray) [.string (⟨#[83, 69, 71, 86]⟩ : ByteArray)] from rfl) (Reps.one (show Kd.M Kd.string _ _ _ (⟨#[85, 83, 82, 50]⟩ : ByteArray) [.string (⟨#[85, 83, 82, 50]⟩ : ByteArray)] from rfl) (Reps.one (show Kd.M Kd.string _ _ _ (⟨#[80, 73, 80, 69]⟩ : ByteArray) [.string (⟨#[80, 73, 80, 69]⟩ : ByteArray)] from rfl) (Reps.one (show Kd.M Kd.string _ _ _ (⟨#[65, 76, 82, 77]⟩ : ByteArray) [.string (⟨#[65, 76, 82, 77]⟩ : ByteArray)] from rfl) (Reps.one (show Kd.M Kd.string _ _ _ (⟨#[84, 69, 82, 77]⟩ : ByteArray) [.string (⟨#[84, 69, 82, 77]⟩ : ByteArray)] from rfl) (Reps.one (show Kd.M Kd.string _ _ _ (⟨#[83, 84, 75, 70, 76, 84]⟩ : ByteArray) [.string (⟨#[83, 84, 75, 70, 76, 84]⟩ : ByteArray)] from rfl) (Reps.one (show Kd.M Kd.string _ _ _ (⟨#[67, 72, 76, 68]⟩ : ByteArray) [.string (⟨#[67, 72, 76, 68]⟩ : ByteArray)] from rfl) (Reps.one (show Kd.M Kd.string _ _ _ (⟨#[67, 79, 78, 84]⟩ : ByteArray) [.string (⟨#[67, 79, 78, 84]⟩ : ByteArray)] from rfl) (Reps.one (show Kd.M Kd.string _ _ _ (⟨#[83, 84, 79, 80]⟩ : ByteArray) [.string (⟨#[83, 84, 79, 80]⟩ : ByteArray)] from rfl) (Reps.one (show Kd.M Kd.string _ _ _ (⟨#[84, 83, 84, 80]⟩ : ByteArray) [.string (⟨#[84, 83, 84, 80]⟩ : ByteArray)] from rfl) (Reps.one (show Kd.M Kd.string _ _ _ (⟨#[84, 84, 73, 78]⟩ : ByteArray) [.string (⟨#[84, 84, 73, 78]⟩ : ByteArray)] from rfl) (Reps.one (show Kd.M Kd.string _ _ _ (⟨#[84, 84, 79, 85]⟩ : ByteArray) [.string (⟨#[84, 84, 79, 85]⟩ : ByteArray)] from rfl) (Reps.one (show Kd.M Kd.string _ _ _ (⟨#[85, 82, 71]⟩ : ByteArray) [.string (⟨#[85, 82, 71]⟩ : ByteArray)] from rfl) (Reps.one (show Kd.M Kd.string _ _ _ (⟨#[88, 67, 80, 85]⟩ : ByteArray) [.string (⟨#[88, 67, 80, 85]⟩ : ByteArray)] from rfl) (Reps.one (show Kd.M Kd.string _ _ _ (⟨#[88, 70, 83, 90]⟩ : ByteArray) [.string (⟨#[88, 70, 83, 90]⟩ : ByteArray)] from rfl) (Reps.one (show Kd.M Kd.string _ _ _ (⟨#[86, 84, 65, 76, 82, 77]⟩ : ByteArray) [.string (⟨#[86, 84, 65, 76, 82, 77]⟩ : ByteArray)] from rfl) (Reps.one (show Kd.M Kd.string _ _ _ (⟨#[80, 82, 79, 70]⟩ : ByteArray) [.string (⟨#[80, 82, 79, 70]⟩ : ByteArray)] from rfl) (Reps.one (show Kd.M Kd.string _ _ _ (⟨#[87, 73, 78, 67, 72]⟩ : ByteArray) [.string (⟨#[87, 73, 78, 67, 72]⟩ : ByteArray)] from rfl) (Reps.one (show Kd.M Kd.string _ _ _ (⟨#[73, 79]⟩ : ByteArray) [.string (⟨#[73, 79]⟩ : ByteArray)] from rfl) (Reps.one (show Kd.M Kd.string _ _ _ (⟨#[80, 87, 82]⟩ : ByteArray) [.string (⟨#[80, 87, 82]⟩ : ByteArray)] from rfl) (Reps.one (show Kd.M Kd.string _ _ _ (⟨#[83, 89, 83]⟩ : ByteArray) [.string (⟨#[83, 89, 83]⟩ : ByteArray)] from rfl) (Reps.none _ _))))))))))))))))))))))))))))))))); intro v111 w1 ho2 hb hg_ hnew_; clear hg_ hnew_; (first | rw [← Ny110.out] at ho2 | (simp only [Int.reduceToNat] at ho2; rw [← Ny110.out] at ho2)); have n0_ := Aside0.mk (Kd.R_lower ho2 (below_size (by repeat (first | (with_reducible first | exact HB.out | apply below_alloc | apply pw_below_drewN | apply below_drew1) | exact HB.out)))); have n1_ := Aside0.mk (below_step (by repeat (first | (with_reducible first | exact HB.out | apply below_alloc | apply pw_below_drewN | apply below_drew1) | exact HB.out)) hb); clear HB; have HO112 := n0_; have HB := n1_; clear n0_ n1_; clear hb ho2))
  go_ret
  exact ⟨_, by first | rfl | (simp [errW_none, errW_some] <;> rfl) | (simp [*, errW_none, errW_some] <;> rfl), by (with_reducible repeat (first | apply Kd.R_alloc | apply Kd.R_drewN | apply Kd.R_drew)); exact HO112.out, by repeat (first | (with_reducible first | exact HB.out | apply below_alloc | apply pw_below_drewN | apply below_drew1) | exact HB.out)⟩

/-! ### deadfallref01_Name: function 62 -/
def deadfallref01_Name.f (a0 : Int) : Option (ByteArray) := (deadfallref01_Is.f a0).bind fun t113 => (if t113 = true then ((deadfallref01_Names.f).bind fun t114 => (if 0 ≤ (wrap64 (a0 - 1)) then (if (wrap64 (a0 - 1)) < (t114.length : Int) then (some (rdOf ByteArray.empty t114 (wrap64 (a0 - 1)))) else (none)) else (none))) else (some (⟨#[]⟩ : ByteArray)))
set_option maxHeartbeats 8000000 in
set_option maxRecDepth 100000 in
theorem deadfallref01_Name.calls (a0 : Int) (r : ByteArray) (w : World) (h : deadfallref01_Name.f a0 = some r) :
    Calls Tryd.prog 62 #[.int .i64 a0] w fun e w' => e = .returned (.string r) ∧ Below w.heap.size w w' := by
  have HB := Aside0.mk (Below.refl w.heap.size w)
  have H : ((deadfallref01_Is.f a0).bind fun t113 => (if t113 = true then ((deadfallref01_Names.f).bind fun t114 => (if 0 ≤ (wrap64 (a0 - 1)) then (if (wrap64 (a0 - 1)) < (t114.length : Int) then (some (rdOf ByteArray.empty t114 (wrap64 (a0 - 1)))) else (none)) else (none))) else (some (⟨#[]⟩ : ByteArray)))) = some r := h
  clear h
  replace H := Option.bind_eq_some_iff.mp H
  obtain ⟨t113, A20, H⟩ := H
  replace H : (if t113 = true then ((deadfallref01_Names.f).bind fun t114 => (if 0 ≤ (wrap64 (a0 - 1)) then (if (wrap64 (a0 - 1)) < (t114.length : Int) then (some (rdOf ByteArray.empty t114 (wrap64 (a0 - 1)))) else (none)) else (none))) else (some (⟨#[]⟩ : ByteArray))) = some r := H
  have A2 := Aside0.mk A20
  clear A20
  by_cases c3 : t113 = true
  · subst c3
    have H1 : ((deadfallref01_Names.f).bind fun t114 => (if 0 ≤ (wrap64 (a0 - 1)) then (if (wrap64 (a0 - 1)) < (t114.length : Int) then (some (rdOf ByteArray.empty t114 (wrap64 (a0 - 1)))) else (none)) else (none))) = some r := by rw [if_pos rfl] at H; exact H
    clear H
    have H := H1
    clear H1
    replace H := Option.bind_eq_some_iff.mp H
    obtain ⟨t114, A40, H⟩ := H
    replace H : (if 0 ≤ (wrap64 (a0 - 1)) then (if (wrap64 (a0 - 1)) < (t114.length : Int) then (some (rdOf ByteArray.empty t114 (wrap64 (a0 - 1)))) else (none)) else (none)) = some r := H
    have A4 := Aside0.mk A40
    clear A40
    obtain ⟨ji5, hji5⟩ : ∃ j_ : Int, (wrap64 (a0 - 1)) = j_ := ⟨_, rfl⟩
    replace H : (if 0 ≤ (ji5) then (if (ji5) < (t114.length : Int) then (some (rdOf ByteArray.empty t114 (ji5))) else (none)) else (none)) = some r := by first | (rw [hji5] at H; exact H) | (simp only [hji5] at H ⊢; exact H)
    (try rw [hji5] at A2)
    (try rw [hji5] at A4)
    have hji5w : (IntKind.i64.wrap (a0 - 1)) = ji5 := (i64_w _).trans hji5
    by_cases c6 : 0 ≤ (ji5)
    · rw [if_pos c6] at H
      have c6b0 : decide (0 ≤ (ji5)) = true := decide_eq_true c6
      clear c6
      by_cases c7 : (ji5) < (t114.length : Int)
      · rw [if_pos c7] at H
        have c7b0 : decide ((ji5) < (t114.length : Int)) = true := decide_eq_true c7
        clear c7
        obtain rfl := Option.some.inj H
        go_enter Tryd.func62, Tryd.ntmps62
        go_wp2_with (first | ((with_reducible refine gate_callee (f := 51) rfl ?_); refine goesL_ (some 4) rfl rfl Tryd.func51 (by kernel_rfl) rfl #[.int .i64 a0] rfl (by (try simp only [List.map_toArray, List.map_cons, List.map_nil]); first | done | rfl | (simp only [List.length_drop, List.length_take]; rfl)) ?_; (with_reducible refine (deadfallref01_Is.calls a0 true _ A2.out).mono ?_); rintro e w' ⟨rfl, ⟨nd, rfl⟩⟩; refine ⟨_, rfl, ?_⟩) | ((with_reducible refine gate_callee (f := 69) rfl ?_); refine goesL_ (some 6) rfl rfl Tryd.func69 (by kernel_rfl) rfl #[] rfl (by (try simp only [List.map_toArray, List.map_cons, List.map_nil]); first | done | rfl | (simp only [List.length_drop, List.length_take]; rfl)) ?_; (with_reducible refine (deadfallref01_Names.calls  t114 _ A4.out).mono ?_); rintro e w8 ⟨v115, rfl, ho0, hb⟩; refine ⟨_, rfl, ?_⟩; have n0_ := Aside0.mk (Kd.R_lower ho0 (below_size (by repeat (first | (with_reducible first | exact HB.out | apply below_alloc | apply pw_below_drewN | apply below_drew1) | exact HB.out)))); have n1_ := Aside0.mk (below_step (by repeat (first | (with_reducible first | exact HB.out | apply below_alloc | apply pw_below_drewN | apply below_drew1) | exact HB.out)) hb); clear HB; have HO116 := n0_; have HB := n1_; clear n0_ n1_; (try clear hb); (try clear hb2); (try clear hk); (try clear hi); (try clear ho0); obtain ⟨Ao9, co9, eo9⟩ := Kd.R_slice HO116.out; subst eo9; have p117 : 0 ≤ ((ji5) : Int) := of_decide_eq_true (by first | (with_reducible assumption) | assumption); have q117 : (ji5) < (t114.length : Int) := of_decide_eq_true (by first | (with_reducible assumption) | assumption); obtain ⟨ad117, e117, hx117_0⟩ := Kd.at_string (Kd.R_reads' HO116.out).2.2 (ji5) p117 q117; cases e117; replace p117 := eq_true p117; replace q117 := eq_true q117))
        go_ret
        exact ⟨by first | rfl | (simp [errW_none, errW_some] <;> rfl) | (simp only [← hji5]; first | rfl | (simp [errW_none, errW_some] <;> rfl)) | (simp [*, errW_none, errW_some] <;> rfl), by repeat (first | (with_reducible first | exact HB.out | apply below_alloc | apply pw_below_drewN | apply below_drew1) | exact HB.out)⟩
      · rw [if_neg c7] at H
        exact absurd H (by simp)
    · rw [if_neg c6] at H
      exact absurd H (by simp)
  · replace c3 := Bool.eq_false_iff.mpr c3
    subst c3
    have H1 : (some (⟨#[]⟩ : ByteArray)) = some r := by rw [if_neg (show ¬ (false = true) by decide)] at H; exact H
    clear H
    have H := H1
    clear H1
    obtain rfl := Option.some.inj H
    go_enter Tryd.func62, Tryd.ntmps62
    go_wp2_with (first | ((with_reducible refine gate_callee (f := 51) rfl ?_); refine goesL_ (some 4) rfl rfl Tryd.func51 (by kernel_rfl) rfl #[.int .i64 a0] rfl (by (try simp only [List.map_toArray, List.map_cons, List.map_nil]); first | done | rfl | (simp only [List.length_drop, List.length_take]; rfl)) ?_; (with_reducible refine (deadfallref01_Is.calls a0 false _ A2.out).mono ?_); rintro e w' ⟨rfl, ⟨nd, rfl⟩⟩; refine ⟨_, rfl, ?_⟩))
    go_ret
    exact ⟨by first | rfl | (simp [errW_none, errW_some] <;> rfl) | (simp [*, errW_none, errW_some] <;> rfl), by repeat (first | (with_reducible first | exact HB.out | apply below_alloc | apply pw_below_drewN | apply below_drew1) | exact HB.out)⟩

/-! ### deadfallref01_Fixed: function 40 -/
def deadfallref01_Fixed.f (a0 : Int) : Option (Bool) := (deadfallref01_Name.f a0).bind fun t118 => (if t118.toList = ([75, 73, 76, 76] : List UInt8) then (some true) else ((deadfallref01_Name.f a0).bind fun t119 => (some (t119.toList == ([83, 84, 79, 80] : List UInt8)))))
set_option maxHeartbeats 8000000 in
set_option maxRecDepth 100000 in
theorem deadfallref01_Fixed.calls (a0 : Int) (r : Bool) (w : World) (h : deadfallref01_Fixed.f a0 = some r) :
    Calls Tryd.prog 40 #[.int .i64 a0] w fun e w' => e = .returned (.bool r) ∧ Below w.heap.size w w' := by
  have HB := Aside0.mk (Below.refl w.heap.size w)
  have H : ((deadfallref01_Name.f a0).bind fun t118 => (if t118.toList = ([75, 73, 76, 76] : List UInt8) then (some true) else ((deadfallref01_Name.f a0).bind fun t119 => (some (t119.toList == ([83, 84, 79, 80] : List UInt8)))))) = some r := h
  clear h
  replace H := Option.bind_eq_some_iff.mp H
  obtain ⟨t118, A20, H⟩ := H
  replace H : (if t118.toList = ([75, 73, 76, 76] : List UInt8) then (some true) else ((deadfallref01_Name.f a0).bind fun t119 => (some (t119.toList == ([83, 84, 79, 80] : List UInt8))))) = some r := H
  have A2 := Aside0.mk A20
  clear A20
  by_cases c3 : t118.toList = ([75, 73, 76, 76] : List UInt8)
  · rw [if_pos c3] at H
    have c3b0 : (t118.toList == ([75, 73, 76, 76] : List UInt8)) = true := beq_iff_eq.mpr c3
    have c3b1 : (t118.toList != ([75, 73, 76, 76] : List UInt8)) = false := bne_eq_false_iff_eq.mpr c3
    clear c3
    obtain rfl := Option.some.inj H
    go_enter Tryd.func40, Tryd.ntmps40
    go_wp2_with (first | ((with_reducible refine gate_callee (f := 62) rfl ?_); refine goesL_ (some 4) rfl rfl Tryd.func62 (by kernel_rfl) rfl #[.int .i64 a0] rfl (by (try simp only [List.map_toArray, List.map_cons, List.map_nil]); first | done | rfl | (simp only [List.length_drop, List.length_take]; rfl)) ?_; (with_reducible refine (deadfallref01_Name.calls a0 t118 _ A2.out).mono ?_); rintro e w4 ⟨rfl, hb⟩; refine ⟨_, rfl, ?_⟩; have n0_ := Aside0.mk (below_step (by repeat (first | (with_reducible first | exact HB.out | apply below_alloc | apply pw_below_drewN | apply below_drew1) | exact HB.out)) hb); clear HB; have HB := n0_; clear n0_; (try clear hb); (try clear hb2); (try clear hk); (try clear hi)))
    go_ret
    exact ⟨by first | rfl | (simp [errW_none, errW_some] <;> rfl) | (simp [*, errW_none, errW_some] <;> rfl), by repeat (first | (with_reducible first | exact HB.out | apply below_alloc | apply pw_below_drewN | apply below_drew1) | exact HB.out)⟩
  · rw [if_neg c3] at H
    have c3b0 : (t118.toList == ([75, 73, 76, 76] : List UInt8)) = false := beq_eq_false_iff_ne.mpr c3
    have c3b1 : (t118.toList != ([75, 73, 76, 76] : List UInt8)) = true := bne_iff_ne.mpr c3
    replace H := Option.bind_eq_some_iff.mp H
    obtain ⟨t119, A50, H⟩ := H
    replace H : (some (t119.toList == ([83, 84, 79, 80] : List UInt8))) = some r := H
    have A5 := Aside0.mk A50
    clear A50
    obtain rfl := Option.some.inj H
    go_enter Tryd.func40, Tryd.ntmps40
    go_wp2_with (first | ((with_reducible refine gate_callee (f := 62) rfl ?_); refine goesL_ (some 4) rfl rfl Tryd.func62 (by kernel_rfl) rfl #[.int .i64 a0] rfl (by (try simp only [List.map_toArray, List.map_cons, List.map_nil]); first | done | rfl | (simp only [List.length_drop, List.length_take]; rfl)) ?_; (with_reducible refine (deadfallref01_Name.calls a0 t118 _ A2.out).mono ?_); rintro e w6 ⟨rfl, hb⟩; refine ⟨_, rfl, ?_⟩; have n0_ := Aside0.mk (below_step (by repeat (first | (with_reducible first | exact HB.out | apply below_alloc | apply pw_below_drewN | apply below_drew1) | exact HB.out)) hb); clear HB; have HB := n0_; clear n0_; (try clear hb); (try clear hb2); (try clear hk); (try clear hi)) | (go_at_call 62; (with_reducible refine (deadfallref01_Name.calls a0 t119 _ A5.out).mono ?_); rintro e w7 ⟨rfl, hb⟩; have n0_ := Aside0.mk (below_step (by repeat (first | (with_reducible first | exact HB.out | apply below_alloc | apply pw_below_drewN | apply below_drew1) | exact HB.out)) hb); clear HB; have HB := n0_; clear n0_; (try clear hb); (try clear hb2); (try clear hk); (try clear hi)))
    go_ret
    exact ⟨by first | rfl | (simp [errW_none, errW_some] <;> rfl) | (simp [*, errW_none, errW_some] <;> rfl), by repeat (first | (with_reducible first | exact HB.out | apply below_alloc | apply pw_below_drewN | apply below_drew1) | exact HB.out)⟩

/-- THE ONE PURE STATEMENT of deadfallref01_Fixed: yours. -/
def deadfallref01_Fixed.Pure : Prop := ∀ (a0 : Int), (Lit.int .i64 a0).wf = true → deadfallref01_Fixed.f a0 = some true
theorem deadfallref01_Fixed.walk (P : deadfallref01_Fixed.Pure) (a0 : Int) (w : World) (w0 : (Lit.int .i64 a0).wf = true) :
    Calls Tryd.prog 40 #[.int .i64 a0] w fun e w' => e = .returned (.bool true) ∧ Below w.heap.size w w' := by
  have h := P a0 w0
  refine (deadfallref01_Fixed.calls a0 true w h).mono ?_
  rintro e w' ⟨rfl, hd⟩
  exact ⟨rfl, hd⟩

/-! ### deadfallref01_With: function 41 -/
def deadfallref01_With.f (k : Nat) (a0 : Int) (a1 : Int) : Option (Int) := (deadfallref01_Is.f a1).bind fun t120 => (if t120 = true then ((deadfallref01_Has.f k a0 a1).bind fun t121 => (if t121 = true then (some a0) else ((deadfallref01_value.f k a1).bind fun t122 => (some ((IntKind.u64.wrap ((IntKind.u64.wrap (a0)) + t122)) % 4294967296))))) else (some a0))
theorem deadfallref01_With.mono : ∀ a0 a1 k, LeO (deadfallref01_With.f k a0 a1) (deadfallref01_With.f (k + 1) a0 a1) := by
  intro a0 a1 k
  unfold deadfallref01_With.f
  repeat' first
      | (with_reducible exact deadfallref01_Has.mono _ _ _)
      | (with_reducible exact deadfallref01_value.mono _ _)
      | (with_reducible exact LeO.refl _)
      | (with_reducible exact LeO.none _)
      | (with_reducible refine LeO.ite ?_ ?_)
      | (with_reducible refine LeO.bind ?_ (fun _ => ?_))
      | exact deadfallref01_Has.mono _ _ _
      | exact deadfallref01_value.mono _ _
      | exact LeO.none _
      | refine LeO.ite ?_ ?_
      | refine LeO.bind ?_ (fun _ => ?_)
set_option maxHeartbeats 8000000 in
set_option maxRecDepth 100000 in
theorem deadfallref01_With.calls (k : Nat) (a0 : Int) (a1 : Int) (r : Int) (w : World) (h : deadfallref01_With.f k a0 a1 = some r) :
    Calls Tryd.prog 41 #[.int .u32 a0, .int .i64 a1] w fun e w' => e = .returned (.int .u32 r) ∧ Drawn0 w w' := by
  have H : ((deadfallref01_Is.f a1).bind fun t120 => (if t120 = true then ((deadfallref01_Has.f k a0 a1).bind fun t121 => (if t121 = true then (some a0) else ((deadfallref01_value.f k a1).bind fun t122 => (some ((IntKind.u64.wrap ((IntKind.u64.wrap (a0)) + t122)) % 4294967296))))) else (some a0))) = some r := h
  clear h
  replace H := Option.bind_eq_some_iff.mp H
  obtain ⟨t120, A30, H⟩ := H
  replace H : (if t120 = true then ((deadfallref01_Has.f k a0 a1).bind fun t121 => (if t121 = true then (some a0) else ((deadfallref01_value.f k a1).bind fun t122 => (some ((IntKind.u64.wrap ((IntKind.u64.wrap (a0)) + t122)) % 4294967296))))) else (some a0)) = some r := H
  have A3 := Aside0.mk A30
  clear A30
  by_cases c4 : t120 = true
  · subst c4
    have H1 : ((deadfallref01_Has.f k a0 a1).bind fun t121 => (if t121 = true then (some a0) else ((deadfallref01_value.f k a1).bind fun t122 => (some ((IntKind.u64.wrap ((IntKind.u64.wrap (a0)) + t122)) % 4294967296))))) = some r := by rw [if_pos rfl] at H; exact H
    clear H
    have H := H1
    clear H1
    replace H := Option.bind_eq_some_iff.mp H
    obtain ⟨t121, A50, H⟩ := H
    replace H : (if t121 = true then (some a0) else ((deadfallref01_value.f k a1).bind fun t122 => (some ((IntKind.u64.wrap ((IntKind.u64.wrap (a0)) + t122)) % 4294967296)))) = some r := H
    have A5 := Aside0.mk A50
    clear A50
    by_cases c6 : t121 = true
    · subst c6
      have H1 : (some a0) = some r := by rw [if_pos rfl] at H; exact H
      clear H
      have H := H1
      clear H1
      obtain rfl := Option.some.inj H
      go_enter Tryd.func41, Tryd.ntmps41
      go_wp2_with (first | ((with_reducible refine gate_callee (f := 51) rfl ?_); refine goesL_ (some 6) rfl rfl Tryd.func51 (by kernel_rfl) rfl #[.int .i64 a1] rfl (by (try simp only [List.map_toArray, List.map_cons, List.map_nil]); first | done | rfl | (simp only [List.length_drop, List.length_take]; rfl)) ?_; (with_reducible refine (deadfallref01_Is.calls a1 true _ A3.out).mono ?_); rintro e w' ⟨rfl, ⟨nd, rfl⟩⟩; refine ⟨_, rfl, ?_⟩) | (go_at_call 56; (with_reducible refine (deadfallref01_Has.calls k a0 a1 true _ A5.out).mono ?_); rintro e w' ⟨rfl, ⟨nd, rfl⟩⟩))
      go_ret
      exact ⟨by first | rfl | (simp; done) | (simp [*]; done), by repeat (first | exact Drawn0.refl _ | apply Drawn0.step)⟩
    · replace c6 := Bool.eq_false_iff.mpr c6
      subst c6
      have H1 : ((deadfallref01_value.f k a1).bind fun t122 => (some ((IntKind.u64.wrap ((IntKind.u64.wrap (a0)) + t122)) % 4294967296))) = some r := by rw [if_neg (show ¬ (false = true) by decide)] at H; exact H
      clear H
      have H := H1
      clear H1
      replace H := Option.bind_eq_some_iff.mp H
      obtain ⟨t122, A70, H⟩ := H
      replace H : (some ((IntKind.u64.wrap ((IntKind.u64.wrap (a0)) + t122)) % 4294967296)) = some r := H
      have A7 := Aside0.mk A70
      clear A70
      obtain rfl := Option.some.inj H
      go_enter Tryd.func41, Tryd.ntmps41
      go_wp2_with (first | ((with_reducible refine gate_callee (f := 51) rfl ?_); refine goesL_ (some 6) rfl rfl Tryd.func51 (by kernel_rfl) rfl #[.int .i64 a1] rfl (by (try simp only [List.map_toArray, List.map_cons, List.map_nil]); first | done | rfl | (simp only [List.length_drop, List.length_take]; rfl)) ?_; (with_reducible refine (deadfallref01_Is.calls a1 true _ A3.out).mono ?_); rintro e w' ⟨rfl, ⟨nd, rfl⟩⟩; refine ⟨_, rfl, ?_⟩) | (go_at_call 56; (with_reducible refine (deadfallref01_Has.calls k a0 a1 false _ A5.out).mono ?_); rintro e w' ⟨rfl, ⟨nd, rfl⟩⟩) | ((with_reducible refine gate_callee (f := 63) rfl ?_); refine goesL_ (some 17) rfl rfl Tryd.func63 (by kernel_rfl) rfl #[.int .i64 a1] rfl (by (try simp only [List.map_toArray, List.map_cons, List.map_nil]); first | done | rfl | (simp only [List.length_drop, List.length_take]; rfl)) ?_; (with_reducible refine (deadfallref01_value.calls k a1 t122 _ A7.out).mono ?_); rintro e w' ⟨rfl, ⟨nd, rfl⟩⟩; refine ⟨_, rfl, ?_⟩))
      go_ret
      exact ⟨by first | rfl | (simp; done) | (simp [*]; done), by repeat (first | exact Drawn0.refl _ | apply Drawn0.step)⟩
  · replace c4 := Bool.eq_false_iff.mpr c4
    subst c4
    have H1 : (some a0) = some r := by rw [if_neg (show ¬ (false = true) by decide)] at H; exact H
    clear H
    have H := H1
    clear H1
    obtain rfl := Option.some.inj H
    go_enter Tryd.func41, Tryd.ntmps41
    go_wp2_with (first | ((with_reducible refine gate_callee (f := 51) rfl ?_); refine goesL_ (some 6) rfl rfl Tryd.func51 (by kernel_rfl) rfl #[.int .i64 a1] rfl (by (try simp only [List.map_toArray, List.map_cons, List.map_nil]); first | done | rfl | (simp only [List.length_drop, List.length_take]; rfl)) ?_; (with_reducible refine (deadfallref01_Is.calls a1 false _ A3.out).mono ?_); rintro e w' ⟨rfl, ⟨nd, rfl⟩⟩; refine ⟨_, rfl, ?_⟩))
    go_ret
    exact ⟨by first | rfl | (simp; done) | (simp [*]; done), by repeat (first | exact Drawn0.refl _ | apply Drawn0.step)⟩

/-! ### deadfallref12_New: function 13 -/
def deadfallref12_New.l0 : Nat → Int → List Int → Int → Int → Option ((List (S77)) × Int × (List (S73)))
  | 0, _, _, _, _ => none
  | k + 1, x3, x7, x8, x9 => if x9 < x8 then (if 0 ≤ x9 then (if x9 < (x7.length : Int) then ((deadfallref01_Fixed.f (rd x7 x9)).bind fun t131 => (if t131 = true then (deadfallref12_New.l0 k x3 x7 x8 (wrap64 (x9 + 1))) else ((deadfallref01_With.f k x3 (rd x7 x9)).bind fun t132 => (deadfallref12_New.l0 k t132 x7 x8 (wrap64 (x9 + 1)))))) else (none)) else (none)) else (some ((([(⟨1, 0, 0, true, x3, 0, 0⟩ : S77)] : List (S77))), 1, ([] : List (S73))))
def deadfallref12_New.f (k : Nat) (a0 : Int) : Option ((List (S77)) × Int × (List (S73))) := (deadfallref01_List.f k a0).bind fun t124 => (deadfallref12_New.l0 k 0 t124 (t124.length : Int) 0)
theorem deadfallref12_New.mono_l : ∀ k, (∀ y0 y1 y2 y3, LeO (deadfallref12_New.l0 k y0 y1 y2 y3) (deadfallref12_New.l0 (k + 1) y0 y1 y2 y3))
  | 0 => fun _ _ _ _ r h => by simp [deadfallref12_New.l0] at h
  | k + 1 => by
    have ih0 := deadfallref12_New.mono_l k
    · intro y0 y1 y2 y3
      unfold deadfallref12_New.l0
      repeat' first
      | (with_reducible exact ih0 _ _ _ _)
      | (with_reducible exact deadfallref01_List.mono _ _)
      | (with_reducible exact deadfallref01_With.mono _ _ _)
      | (with_reducible exact LeO.refl _)
      | (with_reducible exact LeO.none _)
      | (with_reducible refine LeO.ite ?_ ?_)
      | (with_reducible refine LeO.bind ?_ (fun _ => ?_))
      | exact ih0 _ _ _ _
      | exact deadfallref01_List.mono _ _
      | exact deadfallref01_With.mono _ _ _
      | exact LeO.none _
      | refine LeO.ite ?_ ?_
      | refine LeO.bind ?_ (fun _ => ?_)
theorem deadfallref12_New.mono : ∀ a0 k, LeO (deadfallref12_New.f k a0) (deadfallref12_New.f (k + 1) a0) := by
  intro a0 k
  have ih0 := deadfallref12_New.mono_l k
  unfold deadfallref12_New.f
  repeat' first
      | (with_reducible exact ih0 _ _ _ _)
      | (with_reducible exact deadfallref01_List.mono _ _)
      | (with_reducible exact deadfallref01_With.mono _ _ _)
      | (with_reducible exact LeO.refl _)
      | (with_reducible exact LeO.none _)
      | (with_reducible refine LeO.ite ?_ ?_)
      | (with_reducible refine LeO.bind ?_ (fun _ => ?_))
      | exact ih0 _ _ _ _
      | exact deadfallref01_List.mono _ _
      | exact deadfallref01_With.mono _ _ _
      | exact LeO.none _
      | refine LeO.ite ?_ ?_
      | refine LeO.bind ?_ (fun _ => ?_)
set_option maxHeartbeats 8000000 in
set_option maxRecDepth 100000 in
theorem deadfallref12_New.calls (k : Nat) (a0 : Int) (r1 : List (S77)) (r2 : Int) (r3 : List (S73)) (w : World) (h : deadfallref12_New.f k a0 = some (r1, r2, r3)) :
    Calls Tryd.prog 13 #[.int .u32 a0] w fun e w' => ∃ v0_ v2_ : Value, e = .returned (.agg #[v0_, .int .i64 r2, v2_]) ∧ Kd.R k77 77 w' w.heap.size (fun _ => True) v0_ r1 ∧ Kd.R k73 73 w' w.heap.size (fun _ => True) v2_ r3 ∧ Below w.heap.size w w' := by
  have hu42 := Tryd.underlying42
  have hu77 := Tryd.underlying77
  have HB := Aside0.mk (Below.refl w.heap.size w)
  have H : ((deadfallref01_List.f k a0).bind fun t124 => (deadfallref12_New.l0 k 0 t124 (t124.length : Int) 0)) = some (r1, r2, r3) := h
  clear h
  replace H := Option.bind_eq_some_iff.mp H
  obtain ⟨t124, A20, H⟩ := H
  replace H : (deadfallref12_New.l0 k 0 t124 (t124.length : Int) 0) = some (r1, r2, r3) := H
  have A2 := Aside0.mk A20
  clear A20
  have H' := Aside0.mk H
  clear H
  go_enter Tryd.func13, Tryd.ntmps13
  go_wp2_with (first | ((with_reducible refine gate_dst (N := 2) rfl ?_); refine box_event ?hg (N := 2) ?hd (cs := #[.slice none 0 0, .int .i64 0, .slice none 0 0]) (t := 42) ?hr ?_; (case hd => rfl); (case hg => rfl); (case hr => first | (go_simp; done) | (go_simp; rfl)); intro gb123 hg w3 hbox hb; have n0_ := Aside0.mk (below_step (by repeat (first | (with_reducible first | exact HB.out | apply below_alloc | apply pw_below_drewN | apply below_drew1) | exact HB.out)) hb); have n1_ := Aside0.mk (hbox); have n2_ := Aside0.mk ((by rw [hg]; exact (below_size (by repeat (first | (with_reducible first | exact HB.out | apply below_alloc | apply pw_below_drewN | apply below_drew1) | exact HB.out))) : w.heap.size ≤ gb123)); have n3_ := Aside0.mk ((by rw [hg]; exact (below_size (by repeat (first | (with_reducible first | exact HB.out | apply below_alloc | apply pw_below_drewN | apply below_drew1) | exact HB.out))) : w.heap.size ≤ gb123)); clear HB; have HB := n0_; have BK123 := n1_; have GW123 := n2_; have GE123 := n3_; clear n0_ n1_ n2_ n3_; clear hb hbox hg) | ((with_reducible refine gate_callee (f := 39) rfl ?_); refine goesL_ (some 7) rfl rfl Tryd.func39 (by kernel_rfl) rfl #[.int .u32 a0] rfl (by (try simp only [List.map_toArray, List.map_cons, List.map_nil]); first | done | rfl | (simp only [List.length_drop, List.length_take]; rfl)) ?_; (with_reducible refine (deadfallref01_List.calls k a0 t124 _ A2.out).mono ?_); rintro e w4 ⟨v125, rfl, ho0, hb⟩; refine ⟨_, rfl, ?_⟩; have n0_ := Aside0.mk (Kd.R_lower ho0 (below_size (by repeat (first | (with_reducible first | exact HB.out | apply below_alloc | apply pw_below_drewN | apply below_drew1 | refine below_set ?_ GE123.out) | exact HB.out)))); have n1_ := Aside0.mk (blk_below (g := gb123) (o := .cells #[.slice none 0 0, .int .i64 0, .slice none 0 0] 42 (0, 0)) (by (with_reducible repeat (first | refine blk_drewN ?_ _ | refine blk_drew ?_ | refine blk_alloc ?_ _)); exact BK123.out) hb); have n2_ := Aside0.mk (below_step (by repeat (first | (with_reducible first | exact HB.out | apply below_alloc | apply pw_below_drewN | apply below_drew1 | refine below_set ?_ GE123.out) | exact HB.out)) hb); clear BK123; clear HB; have HO126 := n0_; have BK123 := n1_; have HB := n2_; clear n0_ n1_ n2_; (try clear hb); (try clear hb2); (try clear hk); (try clear hi); (try clear ho0); obtain ⟨Ao5, co5, eo5⟩ := Kd.R_slice HO126.out; subst eo5))
  go_loopg [3, 9] k (fun kq v3 v9 w' => ∃ (x3_1 : Int) (x9_1 : Int), v3 = .int .u32 x3_1 ∧ v9 = .int .i64 x9_1 ∧ Aside0 (deadfallref12_New.l0 kq x3_1 t124 (t124.length : Int) x9_1 = some (r1, r2, r3)) ∧ Aside0 (kq ≤ k) ∧ Aside0 (Kd.R (Kd.int .i64) 3 w' w.heap.size (fun _ => True) (.slice Ao5 t124.length co5) t124) ∧ Aside0 (w'.heap[gb123]? = some (.cells #[(.slice none 0 0), .int .i64 0, (.slice none 0 0)] 42 (0, 0))) ∧ Aside0 (Below w.heap.size w w'))
  case atStart => exact ⟨(0), (0), (by first | rfl | (simp; done) | (simp [*]; done)), (by first | rfl | (simp; done) | (simp [*]; done)), H', ⟨Nat.le_refl _⟩, ⟨by (with_reducible repeat (first | apply Kd.R_alloc | apply Kd.R_drewN | apply Kd.R_drew)); exact HO126.out⟩, ⟨by (with_reducible repeat (first | refine blk_drewN ?_ _ | refine blk_drew ?_ | refine blk_alloc ?_ _)); exact BK123.out⟩, ⟨by repeat (first | (with_reducible first | exact HB.out | apply below_alloc | apply pw_below_drewN | apply below_drew1 | refine below_set ?_ GE123.out) | exact HB.out)⟩⟩
  case round =>
    clear H'
    try clear c1
    try clear p2
    try clear c3
    obtain ⟨x3_1, x9_1, rfl, rfl, HA, HK1, HO_7, BK123, HB⟩ := hrel
    cases gk with
    | zero => exact absurd HA.out (by simp [deadfallref12_New.l0])
    | succ k1 =>
      have H := HA.out
      clear HA
      simp only [deadfallref12_New.l0] at H
      by_cases c6 : x9_1 < (t124.length : Int)
      · rw [if_pos c6] at H
        have c6b0 : decide (x9_1 < (t124.length : Int)) = true := decide_eq_true c6
        clear c6
        by_cases c7 : 0 ≤ x9_1
        · rw [if_pos c7] at H
          have c7b0 : decide (0 ≤ x9_1) = true := decide_eq_true c7
          clear c7
          by_cases c8 : x9_1 < (t124.length : Int)
          · rw [if_pos c8] at H
            have c8b0 : decide (x9_1 < (t124.length : Int)) = true := decide_eq_true c8
            clear c8
            replace H := Option.bind_eq_some_iff.mp H
            obtain ⟨t131, A90, H⟩ := H
            replace H : (if t131 = true then (deadfallref12_New.l0 k1 x3_1 t124 (t124.length : Int) (wrap64 (x9_1 + 1))) else ((deadfallref01_With.f k1 x3_1 (rd t124 x9_1)).bind fun t132 => (deadfallref12_New.l0 k1 t132 t124 (t124.length : Int) (wrap64 (x9_1 + 1))))) = some (r1, r2, r3) := H
            have A9 := Aside0.mk A90
            clear A90
            by_cases c10 : t131 = true
            · subst c10
              have H1 : (deadfallref12_New.l0 k1 x3_1 t124 (t124.length : Int) (wrap64 (x9_1 + 1))) = some (r1, r2, r3) := by rw [if_pos rfl] at H; exact H
              clear H
              have H := H1
              clear H1
              have H' := Aside0.mk H
              clear H
              have p130 : 0 ≤ (x9_1 : Int) := of_decide_eq_true (by first | (with_reducible assumption) | assumption)
              have q130 : x9_1 < (t124.length : Int) := of_decide_eq_true (by first | (with_reducible assumption) | assumption)
              obtain ⟨ad130, e130, hx130_0⟩ := Kd.at_int (Kd.R_reads' HO_7.out).2.2 x9_1 p130 q130
              cases e130
              replace p130 := eq_true p130
              replace q130 := eq_true q130
              go_wp2_with (first | ((with_reducible refine gate_callee (f := 40) rfl ?_); refine goesL_ (some 14) rfl rfl Tryd.func40 (by kernel_rfl) rfl #[.int .i64 (rd t124 x9_1)] rfl (by (try simp only [List.map_toArray, List.map_cons, List.map_nil]); first | done | rfl | (simp only [List.length_drop, List.length_take]; rfl)) ?_; (with_reducible refine (deadfallref01_Fixed.calls (rd t124 x9_1) true _ A9.out).mono ?_); rintro e w11 ⟨rfl, hb⟩; refine ⟨_, rfl, ?_⟩; have n0_ := Aside0.mk (Kd.R_below (by (with_reducible repeat (first | apply Kd.R_alloc | apply Kd.R_drewN | apply Kd.R_drew)); exact HO_7.out) hb); have n1_ := Aside0.mk (blk_below (g := gb123) (o := .cells #[.slice none 0 0, .int .i64 0, .slice none 0 0] 42 (0, 0)) (by (with_reducible repeat (first | refine blk_drewN ?_ _ | refine blk_drew ?_ | refine blk_alloc ?_ _)); exact BK123.out) hb); have n2_ := Aside0.mk (below_step (by repeat (first | (with_reducible first | exact HB.out | apply below_alloc | apply pw_below_drewN | apply below_drew1 | refine below_set ?_ GE123.out) | exact HB.out)) hb); clear HO_7; clear BK123; clear HB; have HO_7 := n0_; have BK123 := n1_; have HB := n2_; clear n0_ n1_ n2_; (try clear hb); (try clear hb2); (try clear hk); (try clear hi)))
              go_roundg k1
              case measure => have := HK1.out; omega
              case rel => exact ⟨(x3_1), (wrap64 (x9_1 + 1)), (by first | rfl | (simp; done) | (simp [*]; done)), (by first | rfl | (simp; done) | (simp [*]; done)), H', ⟨by have := HK1.out; omega⟩, ⟨by (with_reducible repeat (first | apply Kd.R_alloc | apply Kd.R_drewN | apply Kd.R_drew)); exact HO_7.out⟩, ⟨by (with_reducible repeat (first | refine blk_drewN ?_ _ | refine blk_drew ?_ | refine blk_alloc ?_ _)); exact BK123.out⟩, ⟨by repeat (first | (with_reducible first | exact HB.out | apply below_alloc | apply pw_below_drewN | apply below_drew1 | refine below_set ?_ GE123.out) | exact HB.out)⟩⟩
            · replace c10 := Bool.eq_false_iff.mpr c10
              subst c10
              have H1 : ((deadfallref01_With.f k1 x3_1 (rd t124 x9_1)).bind fun t132 => (deadfallref12_New.l0 k1 t132 t124 (t124.length : Int) (wrap64 (x9_1 + 1)))) = some (r1, r2, r3) := by rw [if_neg (show ¬ (false = true) by decide)] at H; exact H
              clear H
              have H := H1
              clear H1
              replace H := Option.bind_eq_some_iff.mp H
              obtain ⟨t132, A120, H⟩ := H
              replace H : (deadfallref12_New.l0 k1 t132 t124 (t124.length : Int) (wrap64 (x9_1 + 1))) = some (r1, r2, r3) := H
              have A12 := Aside0.mk A120
              clear A120
              have H' := Aside0.mk H
              clear H
              have p130 : 0 ≤ (x9_1 : Int) := of_decide_eq_true (by first | (with_reducible assumption) | assumption)
              have q130 : x9_1 < (t124.length : Int) := of_decide_eq_true (by first | (with_reducible assumption) | assumption)
              obtain ⟨ad130, e130, hx130_0⟩ := Kd.at_int (Kd.R_reads' HO_7.out).2.2 x9_1 p130 q130
              cases e130
              replace p130 := eq_true p130
              replace q130 := eq_true q130
              go_wp2_with (first | ((with_reducible refine gate_callee (f := 40) rfl ?_); refine goesL_ (some 14) rfl rfl Tryd.func40 (by kernel_rfl) rfl #[.int .i64 (rd t124 x9_1)] rfl (by (try simp only [List.map_toArray, List.map_cons, List.map_nil]); first | done | rfl | (simp only [List.length_drop, List.length_take]; rfl)) ?_; (with_reducible refine (deadfallref01_Fixed.calls (rd t124 x9_1) false _ A9.out).mono ?_); rintro e w13 ⟨rfl, hb⟩; refine ⟨_, rfl, ?_⟩; have n0_ := Aside0.mk (Kd.R_below (by (with_reducible repeat (first | apply Kd.R_alloc | apply Kd.R_drewN | apply Kd.R_drew)); exact HO_7.out) hb); have n1_ := Aside0.mk (blk_below (g := gb123) (o := .cells #[.slice none 0 0, .int .i64 0, .slice none 0 0] 42 (0, 0)) (by (with_reducible repeat (first | refine blk_drewN ?_ _ | refine blk_drew ?_ | refine blk_alloc ?_ _)); exact BK123.out) hb); have n2_ := Aside0.mk (below_step (by repeat (first | (with_reducible first | exact HB.out | apply below_alloc | apply pw_below_drewN | apply below_drew1 | refine below_set ?_ GE123.out) | exact HB.out)) hb); clear HO_7; clear BK123; clear HB; have HO_7 := n0_; have BK123 := n1_; have HB := n2_; clear n0_ n1_ n2_; (try clear hb); (try clear hb2); (try clear hk); (try clear hi)) | ((with_reducible refine gate_callee (f := 41) rfl ?_); refine goesL_ (some 18) rfl rfl Tryd.func41 (by kernel_rfl) rfl #[.int .u32 x3_1, .int .i64 (rd t124 x9_1)] rfl (by (try simp only [List.map_toArray, List.map_cons, List.map_nil]); first | done | rfl | (simp only [List.length_drop, List.length_take]; rfl)) ?_; (with_reducible refine (deadfallref01_With.calls k1 x3_1 (rd t124 x9_1) t132 _ A12.out).mono ?_); rintro e w' ⟨rfl, ⟨nd, rfl⟩⟩; refine ⟨_, rfl, ?_⟩))
              go_roundg k1
              case measure => have := HK1.out; omega
              case rel => exact ⟨(t132), (wrap64 (x9_1 + 1)), (by first | rfl | (simp; done) | (simp [*]; done)), (by first | rfl | (simp; done) | (simp [*]; done)), H', ⟨by have := HK1.out; omega⟩, ⟨by (with_reducible repeat (first | apply Kd.R_alloc | apply Kd.R_drewN | apply Kd.R_drew)); exact HO_7.out⟩, ⟨by (with_reducible repeat (first | refine blk_drewN ?_ _ | refine blk_drew ?_ | refine blk_alloc ?_ _)); exact BK123.out⟩, ⟨by repeat (first | (with_reducible first | exact HB.out | apply below_alloc | apply pw_below_drewN | apply below_drew1 | refine below_set ?_ GE123.out) | exact HB.out)⟩⟩
          · rw [if_neg c8] at H
            exact absurd H (by simp)
        · rw [if_neg c7] at H
          exact absurd H (by simp)
      · rw [if_neg c6] at H
        have c6b0 : decide (x9_1 < (t124.length : Int)) = false := decide_eq_false c6
        clear c6
        obtain ⟨y127, hy127⟩ : ∃ y_ : List (S77), y_ = (([(⟨1, 0, 0, true, x3_1, 0, 0⟩ : S77)] : List (S77))) := ⟨_, rfl⟩
        replace H : (some (y127, 1, ([] : List (S73)))) = some (r1, r2, r3) := by first | (rw [hy127]; with_reducible exact H) | (have H2_ := (Option.bind_some _ _).symm.trans H; rw [hy127]; with_reducible exact H2_) | (have H2_ := (Option.bind_some _ _).symm.trans H; with_reducible exact H2_) | with_reducible exact H | (rw [hy127]; exact H) | exact H
        have Ny127 := Aside0.mk hy127
        clear hy127
        simp only [Option.some.injEq, Prod.mk.injEq] at H
        obtain ⟨rfl, rfl, rfl⟩ := H
        go_wp2_with (first | ((with_reducible refine gate_dst (N := 22) rfl ?_); refine Kd.R_lit k77 _ 77 ?hg (N := 22) ?hd (xs := ([(⟨1, 0, 0, true, x3_1, 0, 0⟩ : S77)] : List (S77))) (inner := [.int .i64 1, .int .i64 0, .int .i64 0, .bool true, .int .u32 x3_1, .int .u32 0, .int .u32 0]) (ok := fun _ => True) (okp := fun _ => True) ?hr ?hp (fun _ hk => hk) trivial (Below.refl _ _) (Nat.le_refl _) (by simp) ?_; (case hd => rfl); (case hg => rfl); (case hr => first | (go_simp; done) | (go_simp; rfl)); (case hp => exact (Reps.c7 (show Kd.M k77 _ _ _ (⟨1, 0, 0, true, x3_1, 0, 0⟩ : S77) [.int .i64 1, .int .i64 0, .int .i64 0, .bool true, .int .u32 x3_1, .int .u32 0, .int .u32 0] from (k77_mkM _ _ _ (⟨1, 0, 0, true, x3_1, 0, 0⟩ : S77) )) (Reps.none _ _))); intro v128 w14 ho15 hb hg_ hnew_; clear hg_ hnew_; (first | rw [← Ny127.out] at ho15 | (simp only [Int.reduceToNat] at ho15; rw [← Ny127.out] at ho15)); have n0_ := Aside0.mk (Kd.R_below (by (with_reducible repeat (first | apply Kd.R_alloc | apply Kd.R_drewN | apply Kd.R_drew)); exact HO_7.out) hb); have n1_ := Aside0.mk (Kd.R_lower ho15 (below_size (by repeat (first | (with_reducible first | exact HB.out | apply below_alloc | apply pw_below_drewN | apply below_drew1 | refine below_set ?_ GE123.out) | exact HB.out)))); have n2_ := Aside0.mk (blk_below (g := gb123) (o := .cells #[.slice none 0 0, .int .i64 0, .slice none 0 0] 42 (0, 0)) (by (with_reducible repeat (first | refine blk_drewN ?_ _ | refine blk_drew ?_ | refine blk_alloc ?_ _)); exact BK123.out) hb); have n3_ := Aside0.mk (below_step (by repeat (first | (with_reducible first | exact HB.out | apply below_alloc | apply pw_below_drewN | apply below_drew1 | refine below_set ?_ GE123.out) | exact HB.out)) hb); clear HO_7; clear BK123; clear HB; have HO_7 := n0_; have HO129 := n1_; have BK123 := n2_; have HB := n3_; clear n0_ n1_ n2_ n3_; clear hb ho15; obtain ⟨Ao16, co16, eo16⟩ := Kd.R_slice HO129.out; subst eo16; have hcz17_0 : w14.cell? ⟨gb123, 0, none⟩ = some (.slice none 0 0) := (blk_cell BK123.out 0).trans rfl; have hcz17_1 : w14.cell? ⟨gb123, 1, none⟩ = some (.int .i64 0) := (blk_cell BK123.out 1).trans rfl; have hcz17_2 : w14.cell? ⟨gb123, 2, none⟩ = some (.slice none 0 0) := (blk_cell BK123.out 2).trans rfl; have hfz17_0 := blk_frozen BK123.out 0; have hfz17_1 := blk_frozen BK123.out 1; have hfz17_2 := blk_frozen BK123.out 2))
        refine bodyPost_ret (results_cell_row rfl _ _ gb123 42 #[.slice Ao16 y127.length co16, .int .i64 1, .slice none 0 0] (0, 0) _ rfl (by (with_reducible repeat (first | refine blk_drewN ?_ _ | refine blk_drew ?_ | refine blk_alloc ?_ _)); refine blk_put (cs := #[.slice Ao16 y127.length co16, .int .i64 1, .slice none 0 0]) ?_ 2 _ rfl; (with_reducible repeat (first | refine blk_drewN ?_ _ | refine blk_drew ?_ | refine blk_alloc ?_ _)); refine blk_put (cs := #[.slice Ao16 y127.length co16, .int .i64 0, .slice none 0 0]) ?_ 1 _ rfl; (with_reducible repeat (first | refine blk_drewN ?_ _ | refine blk_drew ?_ | refine blk_alloc ?_ _)); refine blk_put (cs := #[.slice none 0 0, .int .i64 0, .slice none 0 0]) ?_ 0 _ rfl; (with_reducible repeat (first | refine blk_drewN ?_ _ | refine blk_drew ?_ | refine blk_alloc ?_ _)); exact BK123.out) Tryd.underlying42 rfl (by kernel_rfl)) rfl ?_
        exact ⟨_, _, by first | rfl | (simp [errW_none, errW_some] <;> rfl) | (simp [*, errW_none, errW_some] <;> rfl), by (with_reducible repeat (first | apply Kd.R_alloc | apply Kd.R_drewN | apply Kd.R_drew)); exact Kd.R_mono (Kd.R_far (p := ⟨gb123, 2, none⟩) (Kd.R_far (p := ⟨gb123, 1, none⟩) (Kd.R_far (p := ⟨gb123, 0, none⟩) (Kd.R_types HO129.out BK123.out (by decide)) (fun _ hk => hk.2) (.slice Ao16 y127.length co16)) (fun _ hk => hk.2) (.int .i64 1)) (fun _ hk => hk.2) (.slice none 0 0)) (fun _ hk => trivial), by first | exact Kd.R_nil _ _ _ _ _ | exact Kd.N_nil _ _ _ _ _ | exact Kd.V_nil _ _ _ _ _ | exact Kd.Q_nil _ _ _ _ _ | exact Kd.S_nil _ _ _ _ _, by repeat (first | (with_reducible first | exact HB.out | apply below_alloc | apply pw_below_drewN | apply below_drew1 | refine below_set ?_ GE123.out) | exact HB.out)⟩

/-! ### deadfallref12_At: function 47 -/
def deadfallref12_At.l0 : Nat → Int → List (S77) → Int → Int → Option (Int)
  | 0, _, _, _, _ => none
  | k + 1, x1, x8, x9, x10 => if x10 < x9 then (if 0 ≤ x10 then (if x10 < (x8.length : Int) then (if ((rd_T77 x8 x10).f0) = x1 then (some x10) else (deadfallref12_At.l0 k x1 x8 x9 (wrap64 (x10 + 1)))) else (none)) else (none)) else (some (-1))
def deadfallref12_At.f (k : Nat) (l0_0 : List (S77)) (a0_1 : Int) (l0_2 : List (S73)) (a1 : Int) : Option (Int) := deadfallref12_At.l0 k a1 l0_0 (l0_0.length : Int) 0
theorem deadfallref12_At.mono_l : ∀ k, (∀ y0 y1 y2 y3, LeO (deadfallref12_At.l0 k y0 y1 y2 y3) (deadfallref12_At.l0 (k + 1) y0 y1 y2 y3))
  | 0 => fun _ _ _ _ r h => by simp [deadfallref12_At.l0] at h
  | k + 1 => by
    have ih0 := deadfallref12_At.mono_l k
    · intro y0 y1 y2 y3
      unfold deadfallref12_At.l0
      repeat' first
      | (with_reducible exact ih0 _ _ _ _)
      | (with_reducible exact LeO.refl _)
      | (with_reducible exact LeO.none _)
      | (with_reducible refine LeO.ite ?_ ?_)
      | (with_reducible refine LeO.bind ?_ (fun _ => ?_))
      | exact ih0 _ _ _ _
      | exact LeO.none _
      | refine LeO.ite ?_ ?_
      | refine LeO.bind ?_ (fun _ => ?_)
theorem deadfallref12_At.mono : ∀ a0 a1 a2 a3 k, LeO (deadfallref12_At.f k a0 a1 a2 a3) (deadfallref12_At.f (k + 1) a0 a1 a2 a3) := by
  intro a0 a1 a2 a3 k
  have ih0 := deadfallref12_At.mono_l k
  unfold deadfallref12_At.f
  repeat' first
      | (with_reducible exact ih0 _ _ _ _)
      | (with_reducible exact LeO.refl _)
      | (with_reducible exact LeO.none _)
      | (with_reducible refine LeO.ite ?_ ?_)
      | (with_reducible refine LeO.bind ?_ (fun _ => ?_))
      | exact ih0 _ _ _ _
      | exact LeO.none _
      | refine LeO.ite ?_ ?_
      | refine LeO.bind ?_ (fun _ => ?_)
set_option maxHeartbeats 8000000 in
set_option maxRecDepth 100000 in
theorem deadfallref12_At.calls (k : Nat) (A0_0 : Option Addr) (c0_0 : Nat) (l0_0 : List (S77)) (a0_1 : Int) (A0_2 : Option Addr) (c0_2 : Nat) (l0_2 : List (S73)) (a1 : Int) (r : Int) (w : World) (hr0_0 : Kd.C k77 w A0_0 l0_0.length l0_0) (hc0_0 : l0_0.length ≤ c0_0) (hr0_2 : Kd.C k73 w A0_2 l0_2.length l0_2) (hc0_2 : l0_2.length ≤ c0_2) (h : deadfallref12_At.f k l0_0 a0_1 l0_2 a1 = some r) :
    Calls Tryd.prog 47 #[.agg #[.slice A0_0 l0_0.length c0_0, .int .i64 a0_1, .slice A0_2 l0_2.length c0_2], .int .i64 a1] w fun e w' => e = .returned (.int .i64 r) ∧ Below w.heap.size w w' := by
  have hu42 := Tryd.underlying42
  have hu77 := Tryd.underlying77
  have HR0_0 := Aside0.mk hr0_0
  have HC0_0 := Aside0.mk hc0_0
  clear hr0_0 hc0_0
  have HR0_2 := Aside0.mk hr0_2
  have HC0_2 := Aside0.mk hc0_2
  clear hr0_2 hc0_2
  have HB := Aside0.mk (Below.refl w.heap.size w)
  have H : (deadfallref12_At.l0 k a1 l0_0 (l0_0.length : Int) 0) = some r := h
  clear h
  have H' := Aside0.mk H
  clear H
  go_enter Tryd.func47, Tryd.ntmps47
  go_wp2_with (first | ((with_reducible refine gate_dst (N := 2) rfl ?_); refine box_event ?hg (N := 2) ?hd (cs := #[.slice A0_0 l0_0.length c0_0, .int .i64 a0_1, .slice A0_2 l0_2.length c0_2]) (t := 42) ?hr ?_; (case hd => rfl); (case hg => rfl); (case hr => first | (go_simp; done) | (go_simp; rfl)); intro gb133 hg w3 hbox hb; have n0_ := Aside0.mk (below_step (by repeat (first | (with_reducible first | exact HB.out | apply below_alloc | apply pw_below_drewN | apply below_drew1) | exact HB.out)) hb); have n1_ := Aside0.mk (hbox); have n2_ := Aside0.mk ((by rw [hg]; exact (below_size (by repeat (first | (with_reducible first | exact HB.out | apply below_alloc | apply pw_below_drewN | apply below_drew1) | exact HB.out))) : w.heap.size ≤ gb133)); have n3_ := Aside0.mk ((by rw [hg]; exact (below_size (by repeat (first | (with_reducible first | exact HB.out | apply below_alloc | apply pw_below_drewN | apply below_drew1) | exact HB.out))) : w.heap.size ≤ gb133)); clear HB; have HB := n0_; have BK133 := n1_; have GW133 := n2_; have GE133 := n3_; clear n0_ n1_ n2_ n3_; clear hb hbox hg; have hcz4_0 : w3.cell? ⟨gb133, 0, none⟩ = some (.slice A0_0 l0_0.length c0_0) := (blk_cell BK133.out 0).trans rfl; have hcz4_1 : w3.cell? ⟨gb133, 1, none⟩ = some (.int .i64 a0_1) := (blk_cell BK133.out 1).trans rfl; have hcz4_2 : w3.cell? ⟨gb133, 2, none⟩ = some (.slice A0_2 l0_2.length c0_2) := (blk_cell BK133.out 2).trans rfl; have hfz4_0 := blk_frozen BK133.out 0; have hfz4_1 := blk_frozen BK133.out 1; have hfz4_2 := blk_frozen BK133.out 2))
  go_loopg [10] k (fun kq v10 w' => ∃ (x10_1 : Int), v10 = .int .i64 x10_1 ∧ Aside0 (deadfallref12_At.l0 kq a1 l0_0 (l0_0.length : Int) x10_1 = some r) ∧ Aside0 (kq ≤ k) ∧ Aside0 (w'.heap[gb133]? = some (.cells #[(.slice A0_0 l0_0.length c0_0), .int .i64 a0_1, (.slice A0_2 l0_2.length c0_2)] 42 (0, 0))) ∧ Aside0 (Below w.heap.size w w'))
  case atStart => exact ⟨(0), (by first | rfl | (simp; done) | (simp [*]; done)), H', ⟨Nat.le_refl _⟩, ⟨by (with_reducible repeat (first | refine blk_drewN ?_ _ | refine blk_drew ?_ | refine blk_alloc ?_ _)); exact BK133.out⟩, ⟨by repeat (first | (with_reducible first | exact HB.out | apply below_alloc | apply pw_below_drewN | apply below_drew1 | refine below_set ?_ GE133.out) | exact HB.out)⟩⟩
  case round =>
    clear H'
    try clear p2
    try clear c4
    try clear hcz4_0
    try clear hcz4_1
    try clear hcz4_2
    try clear hfz4_0
    try clear hfz4_1
    try clear hfz4_2
    obtain ⟨x10_1, rfl, HA, HK1, BK133, HB⟩ := hrel
    cases gk with
    | zero => exact absurd HA.out (by simp [deadfallref12_At.l0])
    | succ k1 =>
      have H := HA.out
      clear HA
      simp only [deadfallref12_At.l0] at H
      by_cases c5 : x10_1 < (l0_0.length : Int)
      · rw [if_pos c5] at H
        have c5b0 : decide (x10_1 < (l0_0.length : Int)) = true := decide_eq_true c5
        clear c5
        by_cases c6 : 0 ≤ x10_1
        · rw [if_pos c6] at H
          have c6b0 : decide (0 ≤ x10_1) = true := decide_eq_true c6
          clear c6
          by_cases c7 : x10_1 < (l0_0.length : Int)
          · rw [if_pos c7] at H
            have c7b0 : decide (x10_1 < (l0_0.length : Int)) = true := decide_eq_true c7
            clear c7
            by_cases c8 : ((rd_T77 l0_0 x10_1).f0) = a1
            · rw [if_pos c8] at H
              have c8b0 : (((rd_T77 l0_0 x10_1).f0) == a1) = true := beq_iff_eq.mpr c8
              have c8b1 : (((rd_T77 l0_0 x10_1).f0) != a1) = false := bne_eq_false_iff_eq.mpr c8
              clear c8
              obtain rfl := Option.some.inj H
              have p134 : 0 ≤ (x10_1 : Int) := of_decide_eq_true (by first | (with_reducible assumption) | assumption)
              have q134 : x10_1 < (l0_0.length : Int) := of_decide_eq_true (by first | (with_reducible assumption) | assumption)
              obtain ⟨ad134, e134, hx134_0, hx134_1, hx134_2, hx134_3, hx134_4, hx134_5, hx134_6⟩ := at_T77 HR0_0.out x10_1 p134 q134
              cases e134
              replace hx134_0 := (HB.out.cell (World.block_lt_of_cell? w _ hx134_0)).trans hx134_0
              replace hx134_1 := (HB.out.cell (World.block_lt_of_cell? w _ hx134_1)).trans hx134_1
              replace hx134_2 := (HB.out.cell (World.block_lt_of_cell? w _ hx134_2)).trans hx134_2
              replace hx134_3 := (HB.out.cell (World.block_lt_of_cell? w _ hx134_3)).trans hx134_3
              replace hx134_4 := (HB.out.cell (World.block_lt_of_cell? w _ hx134_4)).trans hx134_4
              replace hx134_5 := (HB.out.cell (World.block_lt_of_cell? w _ hx134_5)).trans hx134_5
              replace hx134_6 := (HB.out.cell (World.block_lt_of_cell? w _ hx134_6)).trans hx134_6
              replace p134 := eq_true p134
              replace q134 := eq_true q134
              go_wp2_with (first | ((with_reducible refine gate_dst (N := 6) rfl ?_); refine box_event ?hg (N := 6) ?hd (cs := #[.int .i64 0, .int .i64 0, .int .i64 0, .bool false, .int .u32 0, .int .u32 0, .int .u32 0]) (t := 77) ?hr ?_; (case hd => rfl); (case hg => rfl); (case hr => first | (go_simp; done) | (go_simp; rfl)); intro gb135 hg w9 hbox hb; have n0_ := Aside0.mk (blk_below (g := gb133) (o := .cells #[.slice (some ad134) l0_0.length c0_0, .int .i64 a0_1, .slice A0_2 l0_2.length c0_2] 42 (0, 0)) (by (with_reducible repeat (first | refine blk_drewN ?_ _ | refine blk_drew ?_ | refine blk_alloc ?_ _)); exact BK133.out) hb); have n1_ := Aside0.mk (below_step (by repeat (first | (with_reducible first | exact HB.out | apply below_alloc | apply pw_below_drewN | apply below_drew1 | refine below_set ?_ GE133.out) | exact HB.out)) hb); have n2_ := Aside0.mk (hbox); have n3_ := Aside0.mk ((by rw [hg]; exact (below_size (by repeat (first | (with_reducible first | exact HB.out | apply below_alloc | apply pw_below_drewN | apply below_drew1 | refine below_set ?_ GE133.out) | exact HB.out))) : w.heap.size ≤ gb135)); have n4_ := Aside0.mk ((by rw [hg]; exact (below_size (by repeat (first | (with_reducible first | exact HB.out | apply below_alloc | apply pw_below_drewN | apply below_drew1 | refine below_set ?_ GE133.out) | exact HB.out))) : w.heap.size ≤ gb135)); have n5_ := Aside0.mk ((by rw [hg]; exact Nat.ne_of_lt (blk_lt (g := gb133) (o := .cells #[.slice (some ad134) l0_0.length c0_0, .int .i64 a0_1, .slice A0_2 l0_2.length c0_2] 42 (0, 0)) (by (with_reducible repeat (first | refine blk_drewN ?_ _ | refine blk_drew ?_ | refine blk_alloc ?_ _)); exact BK133.out)) : gb133 ≠ gb135)); have n6_ := Aside0.mk ((by rw [hg]; exact Nat.ne_of_gt (blk_lt (g := gb133) (o := .cells #[.slice (some ad134) l0_0.length c0_0, .int .i64 a0_1, .slice A0_2 l0_2.length c0_2] 42 (0, 0)) (by (with_reducible repeat (first | refine blk_drewN ?_ _ | refine blk_drew ?_ | refine blk_alloc ?_ _)); exact BK133.out)) : gb135 ≠ gb133)); clear BK133; clear HB; have BK133 := n0_; have HB := n1_; have BK135 := n2_; have GW135 := n3_; have GE135 := n4_; have NB133_135 := n5_; have NB135_133 := n6_; clear n0_ n1_ n2_ n3_ n4_ n5_ n6_; clear hb hbox hg; have hnb10 := NB135_133.out; have hnc10 := NB133_135.out; have hcz11_0 : w9.cell? ⟨gb135, 0, none⟩ = some (.int .i64 0) := (blk_cell BK135.out 0).trans rfl; have hcz11_1 : w9.cell? ⟨gb135, 1, none⟩ = some (.int .i64 0) := (blk_cell BK135.out 1).trans rfl; have hcz11_2 : w9.cell? ⟨gb135, 2, none⟩ = some (.int .i64 0) := (blk_cell BK135.out 2).trans rfl; have hcz11_3 : w9.cell? ⟨gb135, 3, none⟩ = some (.bool false) := (blk_cell BK135.out 3).trans rfl; have hcz11_4 : w9.cell? ⟨gb135, 4, none⟩ = some (.int .u32 0) := (blk_cell BK135.out 4).trans rfl; have hcz11_5 : w9.cell? ⟨gb135, 5, none⟩ = some (.int .u32 0) := (blk_cell BK135.out 5).trans rfl; have hcz11_6 : w9.cell? ⟨gb135, 6, none⟩ = some (.int .u32 0) := (blk_cell BK135.out 6).trans rfl; have hfz11_0 := blk_frozen BK135.out 0; have hfz11_1 := blk_frozen BK135.out 1; have hfz11_2 := blk_frozen BK135.out 2; have hfz11_3 := blk_frozen BK135.out 3; have hfz11_4 := blk_frozen BK135.out 4; have hfz11_5 := blk_frozen BK135.out 5; have hfz11_6 := blk_frozen BK135.out 6))
              go_ret
              exact ⟨by first | rfl | (simp [errW_none, errW_some] <;> rfl) | (simp [*, errW_none, errW_some] <;> rfl), by repeat (first | (with_reducible first | exact HB.out | apply below_alloc | apply pw_below_drewN | apply below_drew1 | refine below_set ?_ GE133.out | refine below_set ?_ GE135.out) | exact HB.out)⟩
            · rw [if_neg c8] at H
              have c8b0 : (((rd_T77 l0_0 x10_1).f0) == a1) = false := beq_eq_false_iff_ne.mpr c8
              have c8b1 : (((rd_T77 l0_0 x10_1).f0) != a1) = true := bne_iff_ne.mpr c8
              have H' := Aside0.mk H
              clear H
              have p134 : 0 ≤ (x10_1 : Int) := of_decide_eq_true (by first | (with_reducible assumption) | assumption)
              have q134 : x10_1 < (l0_0.length : Int) := of_decide_eq_true (by first | (with_reducible assumption) | assumption)
              obtain ⟨ad134, e134, hx134_0, hx134_1, hx134_2, hx134_3, hx134_4, hx134_5, hx134_6⟩ := at_T77 HR0_0.out x10_1 p134 q134
              cases e134
              replace hx134_0 := (HB.out.cell (World.block_lt_of_cell? w _ hx134_0)).trans hx134_0
              replace hx134_1 := (HB.out.cell (World.block_lt_of_cell? w _ hx134_1)).trans hx134_1
              replace hx134_2 := (HB.out.cell (World.block_lt_of_cell? w _ hx134_2)).trans hx134_2
              replace hx134_3 := (HB.out.cell (World.block_lt_of_cell? w _ hx134_3)).trans hx134_3
              replace hx134_4 := (HB.out.cell (World.block_lt_of_cell? w _ hx134_4)).trans hx134_4
              replace hx134_5 := (HB.out.cell (World.block_lt_of_cell? w _ hx134_5)).trans hx134_5
              replace hx134_6 := (HB.out.cell (World.block_lt_of_cell? w _ hx134_6)).trans hx134_6
              replace p134 := eq_true p134
              replace q134 := eq_true q134
              go_wp2_with (first | ((with_reducible refine gate_dst (N := 6) rfl ?_); refine box_event ?hg (N := 6) ?hd (cs := #[.int .i64 0, .int .i64 0, .int .i64 0, .bool false, .int .u32 0, .int .u32 0, .int .u32 0]) (t := 77) ?hr ?_; (case hd => rfl); (case hg => rfl); (case hr => first | (go_simp; done) | (go_simp; rfl)); intro gb135 hg w12 hbox hb; have n0_ := Aside0.mk (blk_below (g := gb133) (o := .cells #[.slice (some ad134) l0_0.length c0_0, .int .i64 a0_1, .slice A0_2 l0_2.length c0_2] 42 (0, 0)) (by (with_reducible repeat (first | refine blk_drewN ?_ _ | refine blk_drew ?_ | refine blk_alloc ?_ _)); exact BK133.out) hb); have n1_ := Aside0.mk (below_step (by repeat (first | (with_reducible first | exact HB.out | apply below_alloc | apply pw_below_drewN | apply below_drew1 | refine below_set ?_ GE133.out) | exact HB.out)) hb); have n2_ := Aside0.mk (hbox); have n3_ := Aside0.mk ((by rw [hg]; exact (below_size (by repeat (first | (with_reducible first | exact HB.out | apply below_alloc | apply pw_below_drewN | apply below_drew1 | refine below_set ?_ GE133.out) | exact HB.out))) : w.heap.size ≤ gb135)); have n4_ := Aside0.mk ((by rw [hg]; exact (below_size (by repeat (first | (with_reducible first | exact HB.out | apply below_alloc | apply pw_below_drewN | apply below_drew1 | refine below_set ?_ GE133.out) | exact HB.out))) : w.heap.size ≤ gb135)); have n5_ := Aside0.mk ((by rw [hg]; exact Nat.ne_of_lt (blk_lt (g := gb133) (o := .cells #[.slice (some ad134) l0_0.length c0_0, .int .i64 a0_1, .slice A0_2 l0_2.length c0_2] 42 (0, 0)) (by (with_reducible repeat (first | refine blk_drewN ?_ _ | refine blk_drew ?_ | refine blk_alloc ?_ _)); exact BK133.out)) : gb133 ≠ gb135)); have n6_ := Aside0.mk ((by rw [hg]; exact Nat.ne_of_gt (blk_lt (g := gb133) (o := .cells #[.slice (some ad134) l0_0.length c0_0, .int .i64 a0_1, .slice A0_2 l0_2.length c0_2] 42 (0, 0)) (by (with_reducible repeat (first | refine blk_drewN ?_ _ | refine blk_drew ?_ | refine blk_alloc ?_ _)); exact BK133.out)) : gb135 ≠ gb133)); clear BK133; clear HB; have BK133 := n0_; have HB := n1_; have BK135 := n2_; have GW135 := n3_; have GE135 := n4_; have NB133_135 := n5_; have NB135_133 := n6_; clear n0_ n1_ n2_ n3_ n4_ n5_ n6_; clear hb hbox hg; have hnb13 := NB135_133.out; have hnc13 := NB133_135.out; have hcz14_0 : w12.cell? ⟨gb135, 0, none⟩ = some (.int .i64 0) := (blk_cell BK135.out 0).trans rfl; have hcz14_1 : w12.cell? ⟨gb135, 1, none⟩ = some (.int .i64 0) := (blk_cell BK135.out 1).trans rfl; have hcz14_2 : w12.cell? ⟨gb135, 2, none⟩ = some (.int .i64 0) := (blk_cell BK135.out 2).trans rfl; have hcz14_3 : w12.cell? ⟨gb135, 3, none⟩ = some (.bool false) := (blk_cell BK135.out 3).trans rfl; have hcz14_4 : w12.cell? ⟨gb135, 4, none⟩ = some (.int .u32 0) := (blk_cell BK135.out 4).trans rfl; have hcz14_5 : w12.cell? ⟨gb135, 5, none⟩ = some (.int .u32 0) := (blk_cell BK135.out 5).trans rfl; have hcz14_6 : w12.cell? ⟨gb135, 6, none⟩ = some (.int .u32 0) := (blk_cell BK135.out 6).trans rfl; have hfz14_0 := blk_frozen BK135.out 0; have hfz14_1 := blk_frozen BK135.out 1; have hfz14_2 := blk_frozen BK135.out 2; have hfz14_3 := blk_frozen BK135.out 3; have hfz14_4 := blk_frozen BK135.out 4; have hfz14_5 := blk_frozen BK135.out 5; have hfz14_6 := blk_frozen BK135.out 6))
              go_roundg k1
              case measure => have := HK1.out; omega
              case rel => exact ⟨(wrap64 (x10_1 + 1)), (by first | rfl | (simp; done) | (simp [*]; done)), H', ⟨by have := HK1.out; omega⟩, ⟨by (with_reducible repeat (first | refine blk_drewN ?_ _ | refine blk_drew ?_ | refine blk_alloc ?_ _)); refine blk_far ?_ NB133_135.out _; (with_reducible repeat (first | refine blk_drewN ?_ _ | refine blk_drew ?_ | refine blk_alloc ?_ _)); refine blk_far ?_ NB133_135.out _; (with_reducible repeat (first | refine blk_drewN ?_ _ | refine blk_drew ?_ | refine blk_alloc ?_ _)); refine blk_far ?_ NB133_135.out _; (with_reducible repeat (first | refine blk_drewN ?_ _ | refine blk_drew ?_ | refine blk_alloc ?_ _)); refine blk_far ?_ NB133_135.out _; (with_reducible repeat (first | refine blk_drewN ?_ _ | refine blk_drew ?_ | refine blk_alloc ?_ _)); refine blk_far ?_ NB133_135.out _; (with_reducible repeat (first | refine blk_drewN ?_ _ | refine blk_drew ?_ | refine blk_alloc ?_ _)); refine blk_far ?_ NB133_135.out _; (with_reducible repeat (first | refine blk_drewN ?_ _ | refine blk_drew ?_ | refine blk_alloc ?_ _)); refine blk_far ?_ NB133_135.out _; (with_reducible repeat (first | refine blk_drewN ?_ _ | refine blk_drew ?_ | refine blk_alloc ?_ _)); exact BK133.out⟩, ⟨by repeat (first | (with_reducible first | exact HB.out | apply below_alloc | apply pw_below_drewN | apply below_drew1 | refine below_set ?_ GE133.out | refine below_set ?_ GE135.out) | exact HB.out)⟩⟩
          · rw [if_neg c7] at H
            exact absurd H (by simp)
        · rw [if_neg c6] at H
          exact absurd H (by simp)
      · rw [if_neg c5] at H
        have c5b0 : decide (x10_1 < (l0_0.length : Int)) = false := decide_eq_false c5
        clear c5
        obtain rfl := Option.some.inj H
        go_wp2
        go_ret
        exact ⟨by first | rfl | (simp [errW_none, errW_some] <;> rfl) | (simp [*, errW_none, errW_some] <;> rfl), by repeat (first | (with_reducible first | exact HB.out | apply below_alloc | apply pw_below_drewN | apply below_drew1 | refine below_set ?_ GE133.out) | exact HB.out)⟩

/-! ### deadfallref12_Live: function 25 -/
def deadfallref12_Live.f (k : Nat) (l0_0 : List (S77)) (a0_1 : Int) (l0_2 : List (S73)) (a1 : Int) : Option (Bool) := (deadfallref12_At.f k l0_0 a0_1 l0_2 a1).bind fun t137 => (if t137 ≥ 0 then (if 0 ≤ t137 then (if t137 < (l0_0.length : Int) then (some ((rd_T77 l0_0 t137).f3)) else (none)) else (none)) else (some false))
theorem deadfallref12_Live.mono : ∀ a0 a1 a2 a3 k, LeO (deadfallref12_Live.f k a0 a1 a2 a3) (deadfallref12_Live.f (k + 1) a0 a1 a2 a3) := by
  intro a0 a1 a2 a3 k
  unfold deadfallref12_Live.f
  repeat' first
      | (with_reducible exact deadfallref12_At.mono _ _ _ _ _)
      | (with_reducible exact LeO.refl _)
      | (with_reducible exact LeO.none _)
      | (with_reducible refine LeO.ite ?_ ?_)
      | (with_reducible refine LeO.bind ?_ (fun _ => ?_))
      | exact deadfallref12_At.mono _ _ _ _ _
      | exact LeO.none _
      | refine LeO.ite ?_ ?_
      | refine LeO.bind ?_ (fun _ => ?_)
set_option maxHeartbeats 8000000 in
set_option maxRecDepth 100000 in
theorem deadfallref12_Live.calls (k : Nat) (A0_0 : Option Addr) (c0_0 : Nat) (l0_0 : List (S77)) (a0_1 : Int) (A0_2 : Option Addr) (c0_2 : Nat) (l0_2 : List (S73)) (a1 : Int) (r : Bool) (w : World) (hr0_0 : Kd.C k77 w A0_0 l0_0.length l0_0) (hc0_0 : l0_0.length ≤ c0_0) (hr0_2 : Kd.C k73 w A0_2 l0_2.length l0_2) (hc0_2 : l0_2.length ≤ c0_2) (h : deadfallref12_Live.f k l0_0 a0_1 l0_2 a1 = some r) :
    Calls Tryd.prog 25 #[.agg #[.slice A0_0 l0_0.length c0_0, .int .i64 a0_1, .slice A0_2 l0_2.length c0_2], .int .i64 a1] w fun e w' => e = .returned (.bool r) ∧ Below w.heap.size w w' := by
  have hu42 := Tryd.underlying42
  have HR0_0 := Aside0.mk hr0_0
  have HC0_0 := Aside0.mk hc0_0
  clear hr0_0 hc0_0
  have HR0_2 := Aside0.mk hr0_2
  have HC0_2 := Aside0.mk hc0_2
  clear hr0_2 hc0_2
  have HB := Aside0.mk (Below.refl w.heap.size w)
  have H : ((deadfallref12_At.f k l0_0 a0_1 l0_2 a1).bind fun t137 => (if t137 ≥ 0 then (if 0 ≤ t137 then (if t137 < (l0_0.length : Int) then (some ((rd_T77 l0_0 t137).f3)) else (none)) else (none)) else (some false))) = some r := h
  clear h
  replace H := Option.bind_eq_some_iff.mp H
  obtain ⟨t137, A30, H⟩ := H
  replace H : (if t137 ≥ 0 then (if 0 ≤ t137 then (if t137 < (l0_0.length : Int) then (some ((rd_T77 l0_0 t137).f3)) else (none)) else (none)) else (some false)) = some r := H
  have A3 := Aside0.mk A30
  clear A30
  by_cases c4 : t137 ≥ 0
  · rw [if_pos c4] at H
    have c4b0 : decide (0 ≤ t137) = true := decide_eq_true c4
    clear c4
    by_cases c5 : 0 ≤ t137
    · rw [if_pos c5] at H
      have c5b0 : decide (0 ≤ t137) = true := decide_eq_true c5
      clear c5
      by_cases c6 : t137 < (l0_0.length : Int)
      · rw [if_pos c6] at H
        have c6b0 : decide (t137 < (l0_0.length : Int)) = true := decide_eq_true c6
        clear c6
        obtain rfl := Option.some.inj H
        go_enter Tryd.func25, Tryd.ntmps25
        go_wp2_with (first | ((with_reducible refine gate_dst (N := 2) rfl ?_); refine box_event ?hg (N := 2) ?hd (cs := #[.slice A0_0 l0_0.length c0_0, .int .i64 a0_1, .slice A0_2 l0_2.length c0_2]) (t := 42) ?hr ?_; (case hd => rfl); (case hg => rfl); (case hr => first | (go_simp; done) | (go_simp; rfl)); intro gb136 hg w7 hbox hb; have n0_ := Aside0.mk (below_step (by repeat (first | (with_reducible first | exact HB.out | apply below_alloc | apply pw_below_drewN | apply below_drew1) | exact HB.out)) hb); have n1_ := Aside0.mk (hbox); have n2_ := Aside0.mk ((by rw [hg]; exact (below_size (by repeat (first | (with_reducible first | exact HB.out | apply below_alloc | apply pw_below_drewN | apply below_drew1) | exact HB.out))) : w.heap.size ≤ gb136)); have n3_ := Aside0.mk ((by rw [hg]; exact (below_size (by repeat (first | (with_reducible first | exact HB.out | apply below_alloc | apply pw_below_drewN | apply below_drew1) | exact HB.out))) : w.heap.size ≤ gb136)); clear HB; have HB := n0_; have BK136 := n1_; have GW136 := n2_; have GE136 := n3_; clear n0_ n1_ n2_ n3_; clear hb hbox hg; have hcz8_0 : w7.cell? ⟨gb136, 0, none⟩ = some (.slice A0_0 l0_0.length c0_0) := (blk_cell BK136.out 0).trans rfl; have hcz8_1 : w7.cell? ⟨gb136, 1, none⟩ = some (.int .i64 a0_1) := (blk_cell BK136.out 1).trans rfl; have hcz8_2 : w7.cell? ⟨gb136, 2, none⟩ = some (.slice A0_2 l0_2.length c0_2) := (blk_cell BK136.out 2).trans rfl; have hfz8_0 := blk_frozen BK136.out 0; have hfz8_1 := blk_frozen BK136.out 1; have hfz8_2 := blk_frozen BK136.out 2) | ((with_reducible refine gate_callee (f := 47) rfl ?_); refine goesL_ (some 8) rfl rfl Tryd.func47 (by kernel_rfl) rfl #[.agg #[.slice A0_0 l0_0.length c0_0, .int .i64 a0_1, .slice A0_2 l0_2.length c0_2], .int .i64 a1] rfl (by (try simp only [List.map_toArray, List.map_cons, List.map_nil]); first | done | rfl | (simp only [List.length_drop, List.length_take]; rfl)) ?_; (with_reducible refine (deadfallref12_At.calls k _ _ l0_0 a0_1 _ _ l0_2 a1 t137 _ ?side1 ?side2 ?side3 ?side4 A3.out).mono ?_); (case side1 => repeat (first | exact (Kd.C_below HR0_0.out HB.out) | (with_reducible refine Kd.C_alloc ?_ _) | (with_reducible refine Kd.C_drewN ?_ _) | (with_reducible refine Kd.C_drew ?_))); (case side2 => exact HC0_0.out); (case side3 => repeat (first | exact (Kd.C_below HR0_2.out HB.out) | (with_reducible refine Kd.C_alloc ?_ _) | (with_reducible refine Kd.C_drewN ?_ _) | (with_reducible refine Kd.C_drew ?_))); (case side4 => exact HC0_2.out); rintro e w9 ⟨rfl, hb⟩; refine ⟨_, rfl, ?_⟩; have n0_ := Aside0.mk (blk_below (g := gb136) (o := .cells #[.slice A0_0 l0_0.length c0_0, .int .i64 a0_1, .slice A0_2 l0_2.length c0_2] 42 (0, 0)) (by (with_reducible repeat (first | refine blk_drewN ?_ _ | refine blk_drew ?_ | refine blk_alloc ?_ _)); exact BK136.out) hb); have n1_ := Aside0.mk (below_step (by repeat (first | (with_reducible first | exact HB.out | apply below_alloc | apply pw_below_drewN | apply below_drew1 | refine below_set ?_ GE136.out) | exact HB.out)) hb); clear BK136; clear HB; have BK136 := n0_; have HB := n1_; clear n0_ n1_; (try clear hb); (try clear hb2); (try clear hk); (try clear hi); have hcz10_0 : w9.cell? ⟨gb136, 0, none⟩ = some (.slice A0_0 l0_0.length c0_0) := (blk_cell BK136.out 0).trans rfl; have hcz10_1 : w9.cell? ⟨gb136, 1, none⟩ = some (.int .i64 a0_1) := (blk_cell BK136.out 1).trans rfl; have hcz10_2 : w9.cell? ⟨gb136, 2, none⟩ = some (.slice A0_2 l0_2.length c0_2) := (blk_cell BK136.out 2).trans rfl; have hfz10_0 := blk_frozen BK136.out 0; have hfz10_1 := blk_frozen BK136.out 1; have hfz10_2 := blk_frozen BK136.out 2; have p138 : 0 ≤ (t137 : Int) := of_decide_eq_true (by first | (with_reducible assumption) | assumption); have q138 : t137 < (l0_0.length : Int) := of_decide_eq_true (by first | (with_reducible assumption) | assumption); obtain ⟨ad138, e138, hx138_0, hx138_1, hx138_2, hx138_3, hx138_4, hx138_5, hx138_6⟩ := at_T77 HR0_0.out t137 p138 q138; cases e138; replace hx138_0 := (HB.out.cell (World.block_lt_of_cell? w _ hx138_0)).trans hx138_0; replace hx138_1 := (HB.out.cell (World.block_lt_of_cell? w _ hx138_1)).trans hx138_1; replace hx138_2 := (HB.out.cell (World.block_lt_of_cell? w _ hx138_2)).trans hx138_2; replace hx138_3 := (HB.out.cell (World.block_lt_of_cell? w _ hx138_3)).trans hx138_3; replace hx138_4 := (HB.out.cell (World.block_lt_of_cell? w _ hx138_4)).trans hx138_4; replace hx138_5 := (HB.out.cell (World.block_lt_of_cell? w _ hx138_5)).trans hx138_5; replace hx138_6 := (HB.out.cell (World.block_lt_of_cell? w _ hx138_6)).trans hx138_6; replace p138 := eq_true p138; replace q138 := eq_true q138))
        go_ret
        exact ⟨by first | rfl | (simp [errW_none, errW_some] <;> rfl) | (simp [*, errW_none, errW_some] <;> rfl), by repeat (first | (with_reducible first | exact HB.out | apply below_alloc | apply pw_below_drewN | apply below_drew1 | refine below_set ?_ GE136.out) | exact HB.out)⟩
      · rw [if_neg c6] at H
        exact absurd H (by simp)
    · rw [if_neg c5] at H
      exact absurd H (by simp)
  · rw [if_neg c4] at H
    have c4b0 : decide (0 ≤ t137) = false := decide_eq_false c4
    clear c4
    obtain rfl := Option.some.inj H
    go_enter Tryd.func25, Tryd.ntmps25
    go_wp2_with (first | ((with_reducible refine gate_dst (N := 2) rfl ?_); refine box_event ?hg (N := 2) ?hd (cs := #[.slice A0_0 l0_0.length c0_0, .int .i64 a0_1, .slice A0_2 l0_2.length c0_2]) (t := 42) ?hr ?_; (case hd => rfl); (case hg => rfl); (case hr => first | (go_simp; done) | (go_simp; rfl)); intro gb136 hg w11 hbox hb; have n0_ := Aside0.mk (below_step (by repeat (first | (with_reducible first | exact HB.out | apply below_alloc | apply pw_below_drewN | apply below_drew1) | exact HB.out)) hb); have n1_ := Aside0.mk (hbox); have n2_ := Aside0.mk ((by rw [hg]; exact (below_size (by repeat (first | (with_reducible first | exact HB.out | apply below_alloc | apply pw_below_drewN | apply below_drew1) | exact HB.out))) : w.heap.size ≤ gb136)); have n3_ := Aside0.mk ((by rw [hg]; exact (below_size (by repeat (first | (with_reducible first | exact HB.out | apply below_alloc | apply pw_below_drewN | apply below_drew1) | exact HB.out))) : w.heap.size ≤ gb136)); clear HB; have HB := n0_; have BK136 := n1_; have GW136 := n2_; have GE136 := n3_; clear n0_ n1_ n2_ n3_; clear hb hbox hg; have hcz12_0 : w11.cell? ⟨gb136, 0, none⟩ = some (.slice A0_0 l0_0.length c0_0) := (blk_cell BK136.out 0).trans rfl; have hcz12_1 : w11.cell? ⟨gb136, 1, none⟩ = some (.int .i64 a0_1) := (blk_cell BK136.out 1).trans rfl; have hcz12_2 : w11.cell? ⟨gb136, 2, none⟩ = some (.slice A0_2 l0_2.length c0_2) := (blk_cell BK136.out 2).trans rfl; have hfz12_0 := blk_frozen BK136.out 0; have hfz12_1 := blk_frozen BK136.out 1; have hfz12_2 := blk_frozen BK136.out 2) | ((with_reducible refine gate_callee (f := 47) rfl ?_); refine goesL_ (some 8) rfl rfl Tryd.func47 (by kernel_rfl) rfl #[.agg #[.slice A0_0 l0_0.length c0_0, .int .i64 a0_1, .slice A0_2 l0_2.length c0_2], .int .i64 a1] rfl (by (try simp only [List.map_toArray, List.map_cons, List.map_nil]); first | done | rfl | (simp only [List.length_drop, List.length_take]; rfl)) ?_; (with_reducible refine (deadfallref12_At.calls k _ _ l0_0 a0_1 _ _ l0_2 a1 t137 _ ?side1 ?side2 ?side3 ?side4 A3.out).mono ?_); (case side1 => repeat (first | exact (Kd.C_below HR0_0.out HB.out) | (with_reducible refine Kd.C_alloc ?_ _) | (with_reducible refine Kd.C_drewN ?_ _) | (with_reducible refine Kd.C_drew ?_))); (case side2 => exact HC0_0.out); (case side3 => repeat (first | exact (Kd.C_below HR0_2.out HB.out) | (with_reducible refine Kd.C_alloc ?_ _) | (with_reducible refine Kd.C_drewN ?_ _) | (with_reducible refine Kd.C_drew ?_))); (case side4 => exact HC0_2.out); rintro e w13 ⟨rfl, hb⟩; refine ⟨_, rfl, ?_⟩; have n0_ := Aside0.mk (blk_below (g := gb136) (o := .cells #[.slice A0_0 l0_0.length c0_0, .int .i64 a0_1, .slice A0_2 l0_2.length c0_2] 42 (0, 0)) (by (with_reducible repeat (first | refine blk_drewN ?_ _ | refine blk_drew ?_ | refine blk_alloc ?_ _)); exact BK136.out) hb); have n1_ := Aside0.mk (below_step (by repeat (first | (with_reducible first | exact HB.out | apply below_alloc | apply pw_below_drewN | apply below_drew1 | refine below_set ?_ GE136.out) | exact HB.out)) hb); clear BK136; clear HB; have BK136 := n0_; have HB := n1_; clear n0_ n1_; (try clear hb); (try clear hb2); (try clear hk); (try clear hi)))
    go_ret
    exact ⟨by first | rfl | (simp [errW_none, errW_some] <;> rfl) | (simp [*, errW_none, errW_some] <;> rfl), by repeat (first | (with_reducible first | exact HB.out | apply below_alloc | apply pw_below_drewN | apply below_drew1 | refine below_set ?_ GE136.out) | exact HB.out)⟩

end Go.Proofs.YtbgodajbdbgdfaaDoor.V
-- printed by a program of this session (wip/pp): a Lean function and a proof for each Go function
namespace Go.Proofs.YtbgodajbdbgdfaaDoor.V
open Go.RowKit Go.Proofs.YtbgodajbdbgdfaaDoorW.PrintWords Go.Proofs.YtbgodajbdbgdfaaDoorW.PrintLast Go.Proofs.YtbgodajbdbgdfaaDoorW.PrintMore
attribute [local go_sem] max2_int min2_int max_two min_two max_three min_three max_four min_four   -- for this text's walks alone
set_option linter.unusedVariables false
set_option linter.unusedSimpArgs false

attribute [local go_sem high] eqA73
/-! ### deadfallref12_Child: function 29 -/
def deadfallref12_Child.f (k : Nat) (l0_0 : List (S77)) (a0_1 : Int) (l0_2 : List (S73)) (a1 : Int) (a2 : Int) : Option (Bool) := (deadfallref12_At.f k l0_0 a0_1 l0_2 a2).bind fun t140 => (if t140 ≥ 0 then (if 0 ≤ t140 then (if t140 < (l0_0.length : Int) then (if ((rd_T77 l0_0 t140).f1) = a1 then ((deadfallref12_Live.f k l0_0 a0_1 l0_2 a1).bind fun t142 => (some t142)) else (some false)) else (none)) else (none)) else (some false))
theorem deadfallref12_Child.mono : ∀ a0 a1 a2 a3 a4 k, LeO (deadfallref12_Child.f k a0 a1 a2 a3 a4) (deadfallref12_Child.f (k + 1) a0 a1 a2 a3 a4) := by
  intro a0 a1 a2 a3 a4 k
  unfold deadfallref12_Child.f
  repeat' first
      | (with_reducible exact deadfallref12_At.mono _ _ _ _ _)
      | (with_reducible exact deadfallref12_Live.mono _ _ _ _ _)
      | (with_reducible exact LeO.refl _)
      | (with_reducible exact LeO.none _)
      | (with_reducible refine LeO.ite ?_ ?_)
      | (with_reducible refine LeO.bind ?_ (fun _ => ?_))
      | exact deadfallref12_At.mono _ _ _ _ _
      | exact deadfallref12_Live.mono _ _ _ _ _
      | exact LeO.none _
      | refine LeO.ite ?_ ?_
      | refine LeO.bind ?_ (fun _ => ?_)
set_option maxHeartbeats 8000000 in
set_option maxRecDepth 100000 in
theorem deadfallref12_Child.calls (k : Nat) (A0_0 : Option Addr) (c0_0 : Nat) (l0_0 : List (S77)) (a0_1 : Int) (A0_2 : Option Addr) (c0_2 : Nat) (l0_2 : List (S73)) (a1 : Int) (a2 : Int) (r : Bool) (w : World) (hr0_0 : Kd.C k77 w A0_0 l0_0.length l0_0) (hc0_0 : l0_0.length ≤ c0_0) (hr0_2 : Kd.C k73 w A0_2 l0_2.length l0_2) (hc0_2 : l0_2.length ≤ c0_2) (h : deadfallref12_Child.f k l0_0 a0_1 l0_2 a1 a2 = some r) :
    Calls Tryd.prog 29 #[.agg #[.slice A0_0 l0_0.length c0_0, .int .i64 a0_1, .slice A0_2 l0_2.length c0_2], .int .i64 a1, .int .i64 a2] w fun e w' => e = .returned (.bool r) ∧ Below w.heap.size w w' := by
  have hu42 := Tryd.underlying42
  have HR0_0 := Aside0.mk hr0_0
  have HC0_0 := Aside0.mk hc0_0
  clear hr0_0 hc0_0
  have HR0_2 := Aside0.mk hr0_2
  have HC0_2 := Aside0.mk hc0_2
  clear hr0_2 hc0_2
  have HB := Aside0.mk (Below.refl w.heap.size w)
  have H : ((deadfallref12_At.f k l0_0 a0_1 l0_2 a2).bind fun t140 => (if t140 ≥ 0 then (if 0 ≤ t140 then (if t140 < (l0_0.length : Int) then (if ((rd_T77 l0_0 t140).f1) = a1 then ((deadfallref12_Live.f k l0_0 a0_1 l0_2 a1).bind fun t142 => (some t142)) else (some false)) else (none)) else (none)) else (some false))) = some r := h
  clear h
  replace H := Option.bind_eq_some_iff.mp H
  obtain ⟨t140, A40, H⟩ := H
  replace H : (if t140 ≥ 0 then (if 0 ≤ t140 then (if t140 < (l0_0.length : Int) then (if ((rd_T77 l0_0 t140).f1) = a1 then ((deadfallref12_Live.f k l0_0 a0_1 l0_2 a1).bind fun t142 => (some t142)) else (some false)) else (none)) else (none)) else (some false)) = some r := H
  have A4 := Aside0.mk A40
  clear A40
  by_cases c5 : t140 ≥ 0
  · rw [if_pos c5] at H
    have c5b0 : decide (0 ≤ t140) = true := decide_eq_true c5
    clear c5
    by_cases c6 : 0 ≤ t140
    · rw [if_pos c6] at H
      have c6b0 : decide (0 ≤ t140) = true := decide_eq_true c6
      clear c6
      by_cases c7 : t140 < (l0_0.length : Int)
      · rw [if_pos c7] at H
        have c7b0 : decide (t140 < (l0_0.length : Int)) = true := decide_eq_true c7
        clear c7
        by_cases c8 : ((rd_T77 l0_0 t140).f1) = a1
        · rw [if_pos c8] at H
          have c8b0 : (((rd_T77 l0_0 t140).f1) == a1) = true := beq_iff_eq.mpr c8
          have c8b1 : (((rd_T77 l0_0 t140).f1) != a1) = false := bne_eq_false_iff_eq.mpr c8
          clear c8
          replace H := Option.bind_eq_some_iff.mp H
          obtain ⟨t142, A90, H⟩ := H
          replace H : (some t142) = some r := H
          have A9 := Aside0.mk A90
          clear A90
          obtain rfl := Option.some.inj H
          go_enter Tryd.func29, Tryd.ntmps29
          go_wp2_with (first | ((with_reducible refine gate_dst (N := 3) rfl ?_); refine box_event ?hg (N := 3) ?hd (cs := #[.slice A0_0 l0_0.length c0_0, .int .i64 a0_1, .slice A0_2 l0_2.length c0_2]) (t := 42) ?hr ?_; (case hd => rfl); (case hg => rfl); (case hr => first | (go_simp; done) | (go_simp; rfl)); intro gb139 hg w10 hbox hb; have n0_ := Aside0.mk (below_step (by repeat (first | (with_reducible first | exact HB.out | apply below_alloc | apply pw_below_drewN | apply below_drew1) | exact HB.out)) hb); have n1_ := Aside0.mk (hbox); have n2_ := Aside0.mk ((by rw [hg]; exact (below_size (by repeat (first | (with_reducible first | exact HB.out | apply below_alloc | apply pw_below_drewN | apply below_drew1) | exact HB.out))) : w.heap.size ≤ gb139)); have n3_ := Aside0.mk ((by rw [hg]; exact (below_size (by repeat (first | (with_reducible first | exact HB.out | apply below_alloc | apply pw_below_drewN | apply below_drew1) | exact HB.out))) : w.heap.size ≤ gb139)); clear HB; have HB := n0_; have BK139 := n1_; have GW139 := n2_; have GE139 := n3_; clear n0_ n1_ n2_ n3_; clear hb hbox hg; have hcz11_0 : w10.cell? ⟨gb139, 0, none⟩ = some (.slice A0_0 l0_0.length c0_0) := (blk_cell BK139.out 0).trans rfl; have hcz11_1 : w10.cell? ⟨gb139, 1, none⟩ = some (.int .i64 a0_1) := (blk_cell BK139.out 1).trans rfl; have hcz11_2 : w10.cell? ⟨gb139, 2, none⟩ = some (.slice A0_2 l0_2.length c0_2) := (blk_cell BK139.out 2).trans rfl; have hfz11_0 := blk_frozen BK139.out 0; have hfz11_1 := blk_frozen BK139.out 1; have hfz11_2 := blk_frozen BK139.out 2) | ((with_reducible refine gate_callee (f := 47) rfl ?_); refine goesL_ (some 10) rfl rfl Tryd.func47 (by kernel_rfl) rfl #[.agg #[.slice A0_0 l0_0.length c0_0, .int .i64 a0_1, .slice A0_2 l0_2.length c0_2], .int .i64 a2] rfl (by (try simp only [List.map_toArray, List.map_cons, List.map_nil]); first | done | rfl | (simp only [List.length_drop, List.length_take]; rfl)) ?_; (with_reducible refine (deadfallref12_At.calls k _ _ l0_0 a0_1 _ _ l0_2 a2 t140 _ ?side1 ?side2 ?side3 ?side4 A4.out).mono ?_); (case side1 => repeat (first | exact (Kd.C_below HR0_0.out HB.out) | (with_reducible refine Kd.C_alloc ?_ _) | (with_reducible refine Kd.C_drewN ?_ _) | (with_reducible refine Kd.C_drew ?_))); (case side2 => exact HC0_0.out); (case side3 => repeat (first | exact (Kd.C_below HR0_2.out HB.out) | (with_reducible refine Kd.C_alloc ?_ _) | (with_reducible refine Kd.C_drewN ?_ _) | (with_reducible refine Kd.C_drew ?_))); (case side4 => exact HC0_2.out); rintro e w12 ⟨rfl, hb⟩; refine ⟨_, rfl, ?_⟩; have n0_ := Aside0.mk (blk_below (g := gb139) (o := .cells #[.slice A0_0 l0_0.length c0_0, .int .i64 a0_1, .slice A0_2 l0_2.length c0_2] 42 (0, 0)) (by (with_reducible repeat (first | refine blk_drewN ?_ _ | refine blk_drew ?_ | refine blk_alloc ?_ _)); exact BK139.out) hb); have n1_ := Aside0.mk (below_step (by repeat (first | (with_reducible first | exact HB.out | apply below_alloc | apply pw_below_drewN | apply below_drew1 | refine below_set ?_ GE139.out) | exact HB.out)) hb); clear BK139; clear HB; have BK139 := n0_; have HB := n1_; clear n0_ n1_; (try clear hb); (try clear hb2); (try clear hk); (try clear hi); have hcz13_0 : w12.cell? ⟨gb139, 0, none⟩ = some (.slice A0_0 l0_0.length c0_0) := (blk_cell BK139.out 0).trans rfl; have hcz13_1 : w12.cell? ⟨gb139, 1, none⟩ = some (.int .i64 a0_1) := (blk_cell BK139.out 1).trans rfl; have hcz13_2 : w12.cell? ⟨gb139, 2, none⟩ = some (.slice A0_2 l0_2.length c0_2) := (blk_cell BK139.out 2).trans rfl; have hfz13_0 := blk_frozen BK139.out 0; have hfz13_1 := blk_frozen BK139.out 1; have hfz13_2 := blk_frozen BK139.out 2; have p141 : 0 ≤ (t140 : Int) := of_decide_eq_true (by first | (with_reducible assumption) | assumption); have q141 : t140 < (l0_0.length : Int) := of_decide_eq_true (by first | (with_reducible assumption) | assumption); obtain ⟨ad141, e141, hx141_0, hx141_1, hx141_2, hx141_3, hx141_4, hx141_5, hx141_6⟩ := at_T77 HR0_0.out t140 p141 q141; cases e141; replace hx141_0 := (HB.out.cell (World.block_lt_of_cell? w _ hx141_0)).trans hx141_0; replace hx141_1 := (HB.out.cell (World.block_lt_of_cell? w _ hx141_1)).trans hx141_1; replace hx141_2 := (HB.out.cell (World.block_lt_of_cell? w _ hx141_2)).trans hx141_2; replace hx141_3 := (HB.out.cell (World.block_lt_of_cell? w _ hx141_3)).trans hx141_3; replace hx141_4 := (HB.out.cell (World.block_lt_of_cell? w _ hx141_4)).trans hx141_4; replace hx141_5 := (HB.out.cell (World.block_lt_of_cell? w _ hx141_5)).trans hx141_5; replace hx141_6 := (HB.out.cell (World.block_lt_of_cell? w _ hx141_6)).trans hx141_6; replace p141 := eq_true p141; replace q141 := eq_true q141) | (go_at_call 25; (with_reducible refine (deadfallref12_Live.calls k _ _ l0_0 a0_1 _ _ l0_2 a1 t142 _ ?side1 ?side2 ?side3 ?side4 A9.out).mono ?_); (case side1 => repeat (first | exact (Kd.C_below HR0_0.out HB.out) | (with_reducible refine Kd.C_alloc ?_ _) | (with_reducible refine Kd.C_drewN ?_ _) | (with_reducible refine Kd.C_drew ?_))); (case side2 => exact HC0_0.out); (case side3 => repeat (first | exact (Kd.C_below HR0_2.out HB.out) | (with_reducible refine Kd.C_alloc ?_ _) | (with_reducible refine Kd.C_drewN ?_ _) | (with_reducible refine Kd.C_drew ?_))); (case side4 => exact HC0_2.out); rintro e w14 ⟨rfl, hb⟩; have n0_ := Aside0.mk (blk_below (g := gb139) (o := .cells #[.slice (some ad141) l0_0.length c0_0, .int .i64 a0_1, .slice A0_2 l0_2.length c0_2] 42 (0, 0)) (by (with_reducible repeat (first | refine blk_drewN ?_ _ | refine blk_drew ?_ | refine blk_alloc ?_ _)); exact BK139.out) hb); have n1_ := Aside0.mk (below_step (by repeat (first | (with_reducible first | exact HB.out | apply below_alloc | apply pw_below_drewN | apply below_drew1 | refine below_set ?_ GE139.out) | exact HB.out)) hb); clear BK139; clear HB; have BK139 := n0_; have HB := n1_; clear n0_ n1_; (try clear hb); (try clear hb2); (try clear hk); (try clear hi)))
          go_ret
          exact ⟨by first | rfl | (simp [errW_none, errW_some] <;> rfl) | (simp [*, errW_none, errW_some] <;> rfl), by repeat (first | (with_reducible first | exact HB.out | apply below_alloc | apply pw_below_drewN | apply below_drew1 | refine below_set ?_ GE139.out) | exact HB.out)⟩
        · rw [if_neg c8] at H
          have c8b0 : (((rd_T77 l0_0 t140).f1) == a1) = false := beq_eq_false_iff_ne.mpr c8
          have c8b1 : (((rd_T77 l0_0 t140).f1) != a1) = true := bne_iff_ne.mpr c8
          obtain rfl := Option.some.inj H
          go_enter Tryd.func29, Tryd.ntmps29
          go_wp2_with (first | ((with_reducible refine gate_dst (N := 3) rfl ?_); refine box_event ?hg (N := 3) ?hd (cs := #[.slice A0_0 l0_0.length c0_0, .int .i64 a0_1, .slice A0_2 l0_2.length c0_2]) (t := 42) ?hr ?_; (case hd => rfl); (case hg => rfl); (case hr => first | (go_simp; done) | (go_simp; rfl)); intro gb139 hg w15 hbox hb; have n0_ := Aside0.mk (below_step (by repeat (first | (with_reducible first | exact HB.out | apply below_alloc | apply pw_below_drewN | apply below_drew1) | exact HB.out)) hb); have n1_ := Aside0.mk (hbox); have n2_ := Aside0.mk ((by rw [hg]; exact (below_size (by repeat (first | (with_reducible first | exact HB.out | apply below_alloc | apply pw_below_drewN | apply below_drew1) | exact HB.out))) : w.heap.size ≤ gb139)); have n3_ := Aside0.mk ((by rw [hg]; exact (below_size (by repeat (first | (with_reducible first | exact HB.out | apply below_alloc | apply pw_below_drewN | apply below_drew1) | exact HB.out))) : w.heap.size ≤ gb139)); clear HB; have HB := n0_; have BK139 := n1_; have GW139 := n2_; have GE139 := n3_; clear n0_ n1_ n2_ n3_; clear hb hbox hg; have hcz16_0 : w15.cell? ⟨gb139, 0, none⟩ = some (.slice A0_0 l0_0.length c0_0) := (blk_cell BK139.out 0).trans rfl; have hcz16_1 : w15.cell? ⟨gb139, 1, none⟩ = some (.int .i64 a0_1) := (blk_cell BK139.out 1).trans rfl; have hcz16_2 : w15.cell? ⟨gb139, 2, none⟩ = some (.slice A0_2 l0_2.length c0_2) := (blk_cell BK139.out 2).trans rfl; have hfz16_0 := blk_frozen BK139.out 0; have hfz16_1 := blk_frozen BK139.out 1; have hfz16_2 := blk_frozen BK139.out 2) | ((with_reducible refine gate_callee (f := 47) rfl ?_); refine goesL_ (some 10) rfl rfl Tryd.func47 (by kernel_rfl) rfl #[.agg #[.slice A0_0 l0_0.length c0_0, .int .i64 a0_1, .slice A0_2 l0_2.length c0_2], .int .i64 a2] rfl (by (try simp only [List.map_toArray, List.map_cons, List.map_nil]); first | done | rfl | (simp only [List.length_drop, List.length_take]; rfl)) ?_; (with_reducible refine (deadfallref12_At.calls k _ _ l0_0 a0_1 _ _ l0_2 a2 t140 _ ?side1 ?side2 ?side3 ?side4 A4.out).mono ?_); (case side1 => repeat (first | exact (Kd.C_below HR0_0.out HB.out) | (with_reducible refine Kd.C_alloc ?_ _) | (with_reducible refine Kd.C_drewN ?_ _) | (with_reducible refine Kd.C_drew ?_))); (case side2 => exact HC0_0.out); (case side3 => repeat (first | exact (Kd.C_below HR0_2.out HB.out) | (with_reducible refine Kd.C_alloc ?_ _) | (with_reducible refine Kd.C_drewN ?_ _) | (with_reducible refine Kd.C_drew ?_))); (case side4 => exact HC0_2.out); rintro e w17 ⟨rfl, hb⟩; refine ⟨_, rfl, ?_⟩; have n0_ := Aside0.mk (blk_below (g := gb139) (o := .cells #[.slice A0_0 l0_0.length c0_0, .int .i64 a0_1, .slice A0_2 l0_2.length c0_2] 42 (0, 0)) (by (with_reducible repeat (first | refine blk_drewN ?_ _ | refine blk_drew ?_ | refine blk_alloc ?_ _)); exact BK139.out) hb); have n1_ := Aside0.mk (below_step (by repeat (first | (with_reducible first | exact HB.out | apply below_alloc | apply pw_below_drewN | apply below_drew1 | refine below_set ?_ GE139.out) | exact HB.out)) hb); clear BK139; clear HB; have BK139 := n0_; have HB := n1_; clear n0_ n1_; (try clear hb); (try clear hb2); (try clear hk); (try clear hi); have hcz18_0 : w17.cell? ⟨gb139, 0, none⟩ = some (.slice A0_0 l0_0.length c0_0) := (blk_cell BK139.out 0).trans rfl; have hcz18_1 : w17.cell? ⟨gb139, 1, none⟩ = some (.int .i64 a0_1) := (blk_cell BK139.out 1).trans rfl; have hcz18_2 : w17.cell? ⟨gb139, 2, none⟩ = some (.slice A0_2 l0_2.length c0_2) := (blk_cell BK139.out 2).trans rfl; have hfz18_0 := blk_frozen BK139.out 0; have hfz18_1 := blk_frozen BK139.out 1; have hfz18_2 := blk_frozen BK139.out 2; have p141 : 0 ≤ (t140 : Int) := of_decide_eq_true (by first | (with_reducible assumption) | assumption); have q141 : t140 < (l0_0.length : Int) := of_decide_eq_true (by first | (with_reducible assumption) | assumption); obtain ⟨ad141, e141, hx141_0, hx141_1, hx141_2, hx141_3, hx141_4, hx141_5, hx141_6⟩ := at_T77 HR0_0.out t140 p141 q141; cases e141; replace hx141_0 := (HB.out.cell (World.block_lt_of_cell? w _ hx141_0)).trans hx141_0; replace hx141_1 := (HB.out.cell (World.block_lt_of_cell? w _ hx141_1)).trans hx141_1; replace hx141_2 := (HB.out.cell (World.block_lt_of_cell? w _ hx141_2)).trans hx141_2; replace hx141_3 := (HB.out.cell (World.block_lt_of_cell? w _ hx141_3)).trans hx141_3; replace hx141_4 := (HB.out.cell (World.block_lt_of_cell? w _ hx141_4)).trans hx141_4; replace hx141_5 := (HB.out.cell (World.block_lt_of_cell? w _ hx141_5)).trans hx141_5; replace hx141_6 := (HB.out.cell (World.block_lt_of_cell? w _ hx141_6)).trans hx141_6; replace p141 := eq_true p141; replace q141 := eq_true q141))
          go_ret
          exact ⟨by first | rfl | (simp [errW_none, errW_some] <;> rfl) | (simp [*, errW_none, errW_some] <;> rfl), by repeat (first | (with_reducible first | exact HB.out | apply below_alloc | apply pw_below_drewN | apply below_drew1 | refine below_set ?_ GE139.out) | exact HB.out)⟩
      · rw [if_neg c7] at H
        exact absurd H (by simp)
    · rw [if_neg c6] at H
      exact absurd H (by simp)
  · rw [if_neg c5] at H
    have c5b0 : decide (0 ≤ t140) = false := decide_eq_false c5
    clear c5
    obtain rfl := Option.some.inj H
    go_enter Tryd.func29, Tryd.ntmps29
    go_wp2_with (first | ((with_reducible refine gate_dst (N := 3) rfl ?_); refine box_event ?hg (N := 3) ?hd (cs := #[.slice A0_0 l0_0.length c0_0, .int .i64 a0_1, .slice A0_2 l0_2.length c0_2]) (t := 42) ?hr ?_; (case hd => rfl); (case hg => rfl); (case hr => first | (go_simp; done) | (go_simp; rfl)); intro gb139 hg w19 hbox hb; have n0_ := Aside0.mk (below_step (by repeat (first | (with_reducible first | exact HB.out | apply below_alloc | apply pw_below_drewN | apply below_drew1) | exact HB.out)) hb); have n1_ := Aside0.mk (hbox); have n2_ := Aside0.mk ((by rw [hg]; exact (below_size (by repeat (first | (with_reducible first | exact HB.out | apply below_alloc | apply pw_below_drewN | apply below_drew1) | exact HB.out))) : w.heap.size ≤ gb139)); have n3_ := Aside0.mk ((by rw [hg]; exact (below_size (by repeat (first | (with_reducible first | exact HB.out | apply below_alloc | apply pw_below_drewN | apply below_drew1) | exact HB.out))) : w.heap.size ≤ gb139)); clear HB; have HB := n0_; have BK139 := n1_; have GW139 := n2_; have GE139 := n3_; clear n0_ n1_ n2_ n3_; clear hb hbox hg; have hcz20_0 : w19.cell? ⟨gb139, 0, none⟩ = some (.slice A0_0 l0_0.length c0_0) := (blk_cell BK139.out 0).trans rfl; have hcz20_1 : w19.cell? ⟨gb139, 1, none⟩ = some (.int .i64 a0_1) := (blk_cell BK139.out 1).trans rfl; have hcz20_2 : w19.cell? ⟨gb139, 2, none⟩ = some (.slice A0_2 l0_2.length c0_2) := (blk_cell BK139.out 2).trans rfl; have hfz20_0 := blk_frozen BK139.out 0; have hfz20_1 := blk_frozen BK139.out 1; have hfz20_2 := blk_frozen BK139.out 2) | ((with_reducible refine gate_callee (f := 47) rfl ?_); refine goesL_ (some 10) rfl rfl Tryd.func47 (by kernel_rfl) rfl #[.agg #[.slice A0_0 l0_0.length c0_0, .int .i64 a0_1, .slice A0_2 l0_2.length c0_2], .int .i64 a2] rfl (by (try simp only [List.map_toArray, List.map_cons, List.map_nil]); first | done | rfl | (simp only [List.length_drop, List.length_take]; rfl)) ?_; (with_reducible refine (deadfallref12_At.calls k _ _ l0_0 a0_1 _ _ l0_2 a2 t140 _ ?side1 ?side2 ?side3 ?side4 A4.out).mono ?_); (case side1 => repeat (first | exact (Kd.C_below HR0_0.out HB.out) | (with_reducible refine Kd.C_alloc ?_ _) | (with_reducible refine Kd.C_drewN ?_ _) | (with_reducible refine Kd.C_drew ?_))); (case side2 => exact HC0_0.out); (case side3 => repeat (first | exact (Kd.C_below HR0_2.out HB.out) | (with_reducible refine Kd.C_alloc ?_ _) | (with_reducible refine Kd.C_drewN ?_ _) | (with_reducible refine Kd.C_drew ?_))); (case side4 => exact HC0_2.out); rintro e w21 ⟨rfl, hb⟩; refine ⟨_, rfl, ?_⟩; have n0_ := Aside0.mk (blk_below (g := gb139) (o := .cells #[.slice A0_0 l0_0.length c0_0, .int .i64 a0_1, .slice A0_2 l0_2.length c0_2] 42 (0, 0)) (by (with_reducible repeat (first | refine blk_drewN ?_ _ | refine blk_drew ?_ | refine blk_alloc ?_ _)); exact BK139.out) hb); have n1_ := Aside0.mk (below_step (by repeat (first | (with_reducible first | exact HB.out | apply below_alloc | apply pw_below_drewN | apply below_drew1 | refine below_set ?_ GE139.out) | exact HB.out)) hb); clear BK139; clear HB; have BK139 := n0_; have HB := n1_; clear n0_ n1_; (try clear hb); (try clear hb2); (try clear hk); (try clear hi)))
    go_ret
    exact ⟨by first | rfl | (simp [errW_none, errW_some] <;> rfl) | (simp [*, errW_none, errW_some] <;> rfl), by repeat (first | (with_reducible first | exact HB.out | apply below_alloc | apply pw_below_drewN | apply below_drew1 | refine below_set ?_ GE139.out) | exact HB.out)⟩

/-! ### deadfallref12_Pending: function 31 -/
/-! ### deadfallref12_SameInts: function 42 -/
def deadfallref12_SameInts.l0 : Nat → List Int → List Int → Int → Int → Option (Bool)
  | 0, _, _, _, _ => none
  | k + 1, x0, x1, x12, x13 => if x13 < x12 then (if 0 ≤ x13 then (if x13 < (x0.length : Int) then (if x13 < (x1.length : Int) then (if (rd x0 x13) = (rd x1 x13) then (deadfallref12_SameInts.l0 k x0 x1 x12 (wrap64 (x13 + 1))) else (some false)) else (none)) else (none)) else (none)) else (some true)
def deadfallref12_SameInts.f (k : Nat) (l0 : List Int) (l1 : List Int) : Option (Bool) := if (l0.length : Int) = (l1.length : Int) then (deadfallref12_SameInts.l0 k l0 l1 (l0.length : Int) 0) else (some false)
theorem deadfallref12_SameInts.mono_l : ∀ k, (∀ y0 y1 y2 y3, LeO (deadfallref12_SameInts.l0 k y0 y1 y2 y3) (deadfallref12_SameInts.l0 (k + 1) y0 y1 y2 y3))
  | 0 => fun _ _ _ _ r h => by simp [deadfallref12_SameInts.l0] at h
  | k + 1 => by
    have ih0 := deadfallref12_SameInts.mono_l k
    · intro y0 y1 y2 y3
      unfold deadfallref12_SameInts.l0
      repeat' first
      | (with_reducible exact ih0 _ _ _ _)
      | (with_reducible exact LeO.refl _)
      | (with_reducible exact LeO.none _)
      | (with_reducible refine LeO.ite ?_ ?_)
      | (with_reducible refine LeO.bind ?_ (fun _ => ?_))
      | exact ih0 _ _ _ _
      | exact LeO.none _
      | refine LeO.ite ?_ ?_
      | refine LeO.bind ?_ (fun _ => ?_)
theorem deadfallref12_SameInts.mono : ∀ a0 a1 k, LeO (deadfallref12_SameInts.f k a0 a1) (deadfallref12_SameInts.f (k + 1) a0 a1) := by
  intro a0 a1 k
  have ih0 := deadfallref12_SameInts.mono_l k
  unfold deadfallref12_SameInts.f
  repeat' first
      | (with_reducible exact ih0 _ _ _ _)
      | (with_reducible exact LeO.refl _)
      | (with_reducible exact LeO.none _)
      | (with_reducible refine LeO.ite ?_ ?_)
      | (with_reducible refine LeO.bind ?_ (fun _ => ?_))
      | exact ih0 _ _ _ _
      | exact LeO.none _
      | refine LeO.ite ?_ ?_
      | refine LeO.bind ?_ (fun _ => ?_)
set_option maxHeartbeats 8000000 in
set_option maxRecDepth 100000 in
theorem deadfallref12_SameInts.calls (k : Nat) (A0 : Option Addr) (c0 : Nat) (l0 : List Int) (A1 : Option Addr) (c1 : Nat) (l1 : List Int) (r : Bool) (w : World) (hr0 : Kd.C (Kd.int .i64) w A0 l0.length l0) (hc0 : l0.length ≤ c0) (hr1 : Kd.C (Kd.int .i64) w A1 l1.length l1) (hc1 : l1.length ≤ c1) (h : deadfallref12_SameInts.f k l0 l1 = some r) :
    Calls Tryd.prog 42 #[.slice A0 l0.length c0, .slice A1 l1.length c1] w fun e w' => e = .returned (.bool r) ∧ Drawn0 w w' := by
  have HR0 := Aside0.mk hr0
  have HC0 := Aside0.mk hc0
  clear hr0 hc0
  have HR1 := Aside0.mk hr1
  have HC1 := Aside0.mk hc1
  clear hr1 hc1
  have H : (if (l0.length : Int) = (l1.length : Int) then (deadfallref12_SameInts.l0 k l0 l1 (l0.length : Int) 0) else (some false)) = some r := h
  clear h
  by_cases c3 : (l0.length : Int) = (l1.length : Int)
  · rw [if_pos c3] at H
    have c3b0 : ((l0.length : Int) == (l1.length : Int)) = true := beq_iff_eq.mpr c3
    have c3b1 : ((l0.length : Int) != (l1.length : Int)) = false := bne_eq_false_iff_eq.mpr c3
    have c3b2 : (l0.length == l1.length) = true := by first | simpa using c3 | (simp at c3 ⊢; omega)
    clear c3
    have H' := Aside0.mk H
    clear H
    go_enter Tryd.func42, Tryd.ntmps42
    go_wp2
    repeat (go_quiet (fail); try go_wp2)
    go_loopg [13] k (fun kq v13 w' => ∃ (x13_1 : Int), v13 = .int .i64 x13_1 ∧ Aside0 (deadfallref12_SameInts.l0 kq l0 l1 (l0.length : Int) x13_1 = some r) ∧ Aside0 (kq ≤ k) ∧ Drawn0 w w')
    case atStart => exact ⟨(0), (by first | rfl | (simp; done) | (simp [*]; done)), H', ⟨Nat.le_refl _⟩, by repeat (first | exact Drawn0.refl _ | apply Drawn0.step)⟩
    case round =>
      clear H'
      try clear c1
      try clear p2
      try clear c3
      try clear c3b0
      try clear c3b1
      try clear c3b2
      obtain ⟨x13_1, rfl, HA, HK1, ⟨m1, rfl⟩⟩ := hrel
      cases gk with
      | zero => exact absurd HA.out (by simp [deadfallref12_SameInts.l0])
      | succ k1 =>
        have H := HA.out
        clear HA
        simp only [deadfallref12_SameInts.l0] at H
        by_cases c4 : x13_1 < (l0.length : Int)
        · rw [if_pos c4] at H
          have c4b0 : decide (x13_1 < (l0.length : Int)) = true := decide_eq_true c4
          clear c4
          by_cases c5 : 0 ≤ x13_1
          · rw [if_pos c5] at H
            have c5b0 : decide (0 ≤ x13_1) = true := decide_eq_true c5
            clear c5
            by_cases c6 : x13_1 < (l0.length : Int)
            · rw [if_pos c6] at H
              have c6b0 : decide (x13_1 < (l0.length : Int)) = true := decide_eq_true c6
              clear c6
              by_cases c7 : x13_1 < (l1.length : Int)
              · rw [if_pos c7] at H
                have c7b0 : decide (x13_1 < (l1.length : Int)) = true := decide_eq_true c7
                clear c7
                by_cases c8 : (rd l0 x13_1) = (rd l1 x13_1)
                · rw [if_pos c8] at H
                  have c8b0 : ((rd l0 x13_1) == (rd l1 x13_1)) = true := beq_iff_eq.mpr c8
                  have c8b1 : ((rd l0 x13_1) != (rd l1 x13_1)) = false := bne_eq_false_iff_eq.mpr c8
                  clear c8
                  have H' := Aside0.mk H
                  clear H
                  have p147 : 0 ≤ (x13_1 : Int) := of_decide_eq_true (by first | (with_reducible assumption) | assumption)
                  have q147 : x13_1 < (l0.length : Int) := of_decide_eq_true (by first | (with_reducible assumption) | assumption)
                  obtain ⟨ad147, e147, hx147_0⟩ := Kd.at_int HR0.out x13_1 p147 q147
                  cases e147
                  replace p147 := eq_true p147
                  replace q147 := eq_true q147
                  have p148 : 0 ≤ (x13_1 : Int) := of_decide_eq_true (by first | (with_reducible assumption) | assumption)
                  have q148 : x13_1 < (l1.length : Int) := of_decide_eq_true (by first | (with_reducible assumption) | assumption)
                  obtain ⟨ad148, e148, hx148_0⟩ := Kd.at_int HR1.out x13_1 p148 q148
                  cases e148
                  replace p148 := eq_true p148
                  replace q148 := eq_true q148
                  go_wp2
                  repeat (go_quiet (fail); try go_wp2)
                  go_roundg k1
                  case measure => have := HK1.out; omega
                  case rel => exact ⟨(wrap64 (x13_1 + 1)), (by first | rfl | (simp; done) | (simp [*]; done)), H', ⟨by have := HK1.out; omega⟩, by repeat (first | exact Drawn0.refl _ | apply Drawn0.step)⟩
                · rw [if_neg c8] at H
                  have c8b0 : ((rd l0 x13_1) == (rd l1 x13_1)) = false := beq_eq_false_iff_ne.mpr c8
                  have c8b1 : ((rd l0 x13_1) != (rd l1 x13_1)) = true := bne_iff_ne.mpr c8
                  obtain rfl := Option.some.inj H
                  have p147 : 0 ≤ (x13_1 : Int) := of_decide_eq_true (by first | (with_reducible assumption) | assumption)
                  have q147 : x13_1 < (l0.length : Int) := of_decide_eq_true (by first | (with_reducible assumption) | assumption)
                  obtain ⟨ad147, e147, hx147_0⟩ := Kd.at_int HR0.out x13_1 p147 q147
                  cases e147
                  replace p147 := eq_true p147
                  replace q147 := eq_true q147
                  have p148 : 0 ≤ (x13_1 : Int) := of_decide_eq_true (by first | (with_reducible assumption) | assumption)
                  have q148 : x13_1 < (l1.length : Int) := of_decide_eq_true (by first | (with_reducible assumption) | assumption)
                  obtain ⟨ad148, e148, hx148_0⟩ := Kd.at_int HR1.out x13_1 p148 q148
                  cases e148
                  replace p148 := eq_true p148
                  replace q148 := eq_true q148
                  go_wp2
                  repeat (go_quiet (fail); try go_wp2)
                  go_ret
                  exact ⟨by first | rfl | (simp; done) | (simp [*]; done), by repeat (first | exact Drawn0.refl _ | apply Drawn0.step)⟩
              · rw [if_neg c7] at H
                exact absurd H (by simp)
            · rw [if_neg c6] at H
              exact absurd H (by simp)
          · rw [if_neg c5] at H
            exact absurd H (by simp)
        · rw [if_neg c4] at H
          have c4b0 : decide (x13_1 < (l0.length : Int)) = false := decide_eq_false c4
          clear c4
          obtain rfl := Option.some.inj H
          go_wp2
          repeat (go_quiet (fail); try go_wp2)
          go_ret
          exact ⟨by first | rfl | (simp; done) | (simp [*]; done), by repeat (first | exact Drawn0.refl _ | apply Drawn0.step)⟩
  · rw [if_neg c3] at H
    have c3b0 : ((l0.length : Int) == (l1.length : Int)) = false := beq_eq_false_iff_ne.mpr c3
    have c3b1 : ((l0.length : Int) != (l1.length : Int)) = true := bne_iff_ne.mpr c3
    have c3b2 : (l0.length == l1.length) = false := by first | simpa using c3 | (simp at c3 ⊢; omega)
    obtain rfl := Option.some.inj H
    go_enter Tryd.func42, Tryd.ntmps42
    go_wp2
    repeat (go_quiet (fail); try go_wp2)
    go_ret
    exact ⟨by first | rfl | (simp; done) | (simp [*]; done), by repeat (first | exact Drawn0.refl _ | apply Drawn0.step)⟩

/-- THE ONE PURE STATEMENT of deadfallref12_SameInts: yours. -/
def deadfallref12_SameInts.Pure : Prop := ∀ (l0 : List Int) (l1 : List Int), l0.length ≤ maxLen → l0.length * 8 ≤ 140737488351232 → (∀ x ∈ l0, (Lit.int .i64 x).wf = true) → l1.length ≤ maxLen → l1.length * 8 ≤ 140737488351232 → (∀ x ∈ l1, (Lit.int .i64 x).wf = true) → ∃ k, deadfallref12_SameInts.f k l0 l1 = some true
theorem deadfallref12_SameInts.walk (P : deadfallref12_SameInts.Pure) (a0 : Option Addr) (len0 cap0 : Nat) (z0 : List Int) (a1 : Option Addr) (len1 cap1 : Nat) (z1 : List Int) (w : World) (w0 : (a0 = none ∧ len0 = 0 ∧ cap0 = 0 ∧ z0 = []) ∨ ∃ x, a0 = some x ∧ len0 ≤ cap0 ∧ cap0 ≤ maxLen ∧ z0.length = cap0 ∧ (∀ i, i < z0.length → w.cell? (x.add i) = some (.int .i64 (z0.getD i 0))) ∧ ∀ n ∈ z0, (Lit.int .i64 n).wf = true) (y0 : len0 * 8 ≤ 140737488351232) (w1 : (a1 = none ∧ len1 = 0 ∧ cap1 = 0 ∧ z1 = []) ∨ ∃ x, a1 = some x ∧ len1 ≤ cap1 ∧ cap1 ≤ maxLen ∧ z1.length = cap1 ∧ (∀ i, i < z1.length → w.cell? (x.add i) = some (.int .i64 (z1.getD i 0))) ∧ ∀ n ∈ z1, (Lit.int .i64 n).wf = true) (y1 : len1 * 8 ≤ 140737488351232) :
    Calls Tryd.prog 42 #[.slice a0 len0 cap0, .slice a1 len1 cap1] w fun e w' => e = .returned (.bool true) ∧ Below w.heap.size w w' := by
  obtain ⟨l0, rfl, hr0, hm0, hw0, hc0⟩ := ReadsInt.ofRowC w0
  obtain ⟨l1, rfl, hr1, hm1, hw1, hc1⟩ := ReadsInt.ofRowC w1
  obtain ⟨k, h⟩ := P l0 l1 hm0 y0 hw0 hm1 y1 hw1
  refine (deadfallref12_SameInts.calls k _ _ l0 _ _ l1 true w (Kd.C_of_reads (d := (0 : Int)) (h1 := fun _ => rfl) hr0) hc0 (Kd.C_of_reads (d := (0 : Int)) (h1 := fun _ => rfl) hr1) hc1 h).mono ?_
  rintro e w' ⟨rfl, hd⟩
  exact ⟨rfl, hd.below⟩

/-! ### deadfallref12_Procs: function 44 -/
def deadfallref12_Procs.l0 : Nat → List Int → List (S77) → Int → Int → Option (List Int)
  | 0, _, _, _, _ => none
  | k + 1, x3, x8, x9, x10 => if x10 < x9 then (if 0 ≤ x10 then (if x10 < (x8.length : Int) then (if (rd_T77 x8 x10).f3 = true then (if x3.length < 17592186044416 then (deadfallref12_Procs.l0 k (x3 ++ [(rd_T77 x8 x10).f0]) x8 x9 (wrap64 (x10 + 1))) else (none)) else (deadfallref12_Procs.l0 k x3 x8 x9 (wrap64 (x10 + 1)))) else (none)) else (none)) else (some x3)
def deadfallref12_Procs.f (k : Nat) (l0_0 : List (S77)) (a0_1 : Int) (l0_2 : List (S73)) : Option (List Int) := deadfallref12_Procs.l0 k (([] : List Int)) l0_0 (l0_0.length : Int) 0
theorem deadfallref12_Procs.mono_l : ∀ k, (∀ y0 y1 y2 y3, LeO (deadfallref12_Procs.l0 k y0 y1 y2 y3) (deadfallref12_Procs.l0 (k + 1) y0 y1 y2 y3))
  | 0 => fun _ _ _ _ r h => by simp [deadfallref12_Procs.l0] at h
  | k + 1 => by
    have ih0 := deadfallref12_Procs.mono_l k
    · intro y0 y1 y2 y3
      unfold deadfallref12_Procs.l0
      repeat' first
      | (with_reducible exact ih0 _ _ _ _)
      | (with_reducible exact LeO.refl _)
      | (with_reducible exact LeO.none _)
      | (with_reducible refine LeO.ite ?_ ?_)
      | (with_reducible refine LeO.bind ?_ (fun _ => ?_))
      | exact ih0 _ _ _ _
      | exact LeO.none _
      | refine LeO.ite ?_ ?_
      | refine LeO.bind ?_ (fun _ => ?_)
theorem deadfallref12_Procs.mono : ∀ a0 a1 a2 k, LeO (deadfallref12_Procs.f k a0 a1 a2) (deadfallref12_Procs.f (k + 1) a0 a1 a2) := by
  intro a0 a1 a2 k
  have ih0 := deadfallref12_Procs.mono_l k
  unfold deadfallref12_Procs.f
  repeat' first
      | (with_reducible exact ih0 _ _ _ _)
      | (with_reducible exact LeO.refl _)
      | (with_reducible exact LeO.none _)
      | (with_reducible refine LeO.ite ?_ ?_)
      | (with_reducible refine LeO.bind ?_ (fun _ => ?_))
      | exact ih0 _ _ _ _
      | exact LeO.none _
      | refine LeO.ite ?_ ?_
      | refine LeO.bind ?_ (fun _ => ?_)
set_option maxHeartbeats 8000000 in
set_option maxRecDepth 100000 in
theorem deadfallref12_Procs.calls (k : Nat) (A0_0 : Option Addr) (c0_0 : Nat) (l0_0 : List (S77)) (a0_1 : Int) (A0_2 : Option Addr) (c0_2 : Nat) (l0_2 : List (S73)) (r : List Int) (w : World) (hr0_0 : Kd.C k77 w A0_0 l0_0.length l0_0) (hc0_0 : l0_0.length ≤ c0_0) (hr0_2 : Kd.C k73 w A0_2 l0_2.length l0_2) (hc0_2 : l0_2.length ≤ c0_2) (h : deadfallref12_Procs.f k l0_0 a0_1 l0_2 = some r) :
    Calls Tryd.prog 44 #[.agg #[.slice A0_0 l0_0.length c0_0, .int .i64 a0_1, .slice A0_2 l0_2.length c0_2]] w fun e w' => ∃ v0_ : Value, e = .returned (v0_) ∧ Kd.R (Kd.int .i64) 3 w' w.heap.size (fun _ => True) v0_ r ∧ Below w.heap.size w w' := by
  have hu42 := Tryd.underlying42
  have hu77 := Tryd.underlying77
  have HR0_0 := Aside0.mk hr0_0
  have HC0_0 := Aside0.mk hc0_0
  clear hr0_0 hc0_0
  have HR0_2 := Aside0.mk hr0_2
  have HC0_2 := Aside0.mk hc0_2
  clear hr0_2 hc0_2
  have HB := Aside0.mk (Below.refl w.heap.size w)
  have H : (deadfallref12_Procs.l0 k (([] : List Int)) l0_0 (l0_0.length : Int) 0) = some r := h
  clear h
  obtain ⟨y150, hy150⟩ : ∃ y_ : List Int, y_ = (([] : List Int)) := ⟨_, rfl⟩
  replace H : (deadfallref12_Procs.l0 k y150 l0_0 (l0_0.length : Int) 0) = some r := by first | (rw [hy150]; with_reducible exact H) | (have H2_ := (Option.bind_some _ _).symm.trans H; rw [hy150]; with_reducible exact H2_) | (have H2_ := (Option.bind_some _ _).symm.trans H; with_reducible exact H2_) | with_reducible exact H | (rw [hy150]; exact H) | exact H
  have Ny150 := Aside0.mk hy150
  clear hy150
  have H' := Aside0.mk H
  clear H
  go_enter Tryd.func44, Tryd.ntmps44
  go_wp2_with (first | ((with_reducible refine gate_dst (N := 1) rfl ?_); refine box_event ?hg (N := 1) ?hd (cs := #[.slice A0_0 l0_0.length c0_0, .int .i64 a0_1, .slice A0_2 l0_2.length c0_2]) (t := 42) ?hr ?_; (case hd => rfl); (case hg => rfl); (case hr => first | (go_simp; done) | (go_simp; rfl)); intro gb149 hg w2 hbox hb; have n0_ := Aside0.mk (below_step (by repeat (first | (with_reducible first | exact HB.out | apply below_alloc | apply pw_below_drewN | apply below_drew1) | exact HB.out)) hb); have n1_ := Aside0.mk (hbox); have n2_ := Aside0.mk ((by rw [hg]; exact (below_size (by repeat (first | (with_reducible first | exact HB.out | apply below_alloc | apply pw_below_drewN | apply below_drew1) | exact HB.out))) : w.heap.size ≤ gb149)); have n3_ := Aside0.mk ((by rw [hg]; exact (below_size (by repeat (first | (with_reducible first | exact HB.out | apply below_alloc | apply pw_below_drewN | apply below_drew1) | exact HB.out))) : w.heap.size ≤ gb149)); clear HB; have HB := n0_; have BK149 := n1_; have GW149 := n2_; have GE149 := n3_; clear n0_ n1_ n2_ n3_; clear hb hbox hg) | ((with_reducible refine gate_dst (N := 6) rfl ?_); refine Kd.R_lit (Kd.int .i64) _ 3 ?hg (N := 6) ?hd (xs := ([] : List Int)) (inner := []) (ok := fun _ => True) (okp := fun _ => True) ?hr ?hp (fun _ hk => hk) trivial (Below.refl _ _) (Nat.le_refl _) (by simp) ?_; (case hd => rfl); (case hg => rfl); (case hr => first | (go_simp; done) | (go_simp; rfl)); (case hp => exact (Reps.none _ _)); intro v151 w3 ho4 hb hg_ hnew_; clear hg_ hnew_; (first | rw [← Ny150.out] at ho4 | (simp only [Int.reduceToNat] at ho4; rw [← Ny150.out] at ho4)); have n0_ := Aside0.mk (Kd.R_lower ho4 (below_size (by repeat (first | (with_reducible first | exact HB.out | apply below_alloc | apply pw_below_drewN | apply below_drew1 | refine below_set ?_ GE149.out) | exact HB.out)))); have n1_ := Aside0.mk (blk_below (g := gb149) (o := .cells #[.slice A0_0 l0_0.length c0_0, .int .i64 a0_1, .slice A0_2 l0_2.length c0_2] 42 (0, 0)) (by (with_reducible repeat (first | refine blk_drewN ?_ _ | refine blk_drew ?_ | refine blk_alloc ?_ _)); exact BK149.out) hb); have n2_ := Aside0.mk (below_step (by repeat (first | (with_reducible first | exact HB.out | apply below_alloc | apply pw_below_drewN | apply below_drew1 | refine below_set ?_ GE149.out) | exact HB.out)) hb); clear BK149; clear HB; have HO152 := n0_; have BK149 := n1_; have HB := n2_; clear n0_ n1_ n2_; clear hb ho4; have hcz5_0 : w3.cell? ⟨gb149, 0, none⟩ = some (.slice A0_0 l0_0.length c0_0) := (blk_cell BK149.out 0).trans rfl; have hcz5_1 : w3.cell? ⟨gb149, 1, none⟩ = some (.int .i64 a0_1) := (blk_cell BK149.out 1).trans rfl; have hcz5_2 : w3.cell? ⟨gb149, 2, none⟩ = some (.slice A0_2 l0_2.length c0_2) := (blk_cell BK149.out 2).trans rfl; have hfz5_0 := blk_frozen BK149.out 0; have hfz5_1 := blk_frozen BK149.out 1; have hfz5_2 := blk_frozen BK149.out 2))
  go_loopg [3, 10] k (fun kq v3 v10 w' => ∃ (x3_1 : List Int) (x10_1 : Int), v10 = .int .i64 x10_1 ∧ Aside0 (deadfallref12_Procs.l0 kq x3_1 l0_0 (l0_0.length : Int) x10_1 = some r) ∧ Aside0 (kq ≤ k) ∧ Aside0 (Kd.R (Kd.int .i64) 3 w' w.heap.size (fun _ => True) v3 x3_1) ∧ Aside0 (w'.heap[gb149]? = some (.cells #[(.slice A0_0 l0_0.length c0_0), .int .i64 a0_1, (.slice A0_2 l0_2.length c0_2)] 42 (0, 0))) ∧ Aside0 (Below w.heap.size w w'))
  case atStart => exact ⟨(y150), (0), (by first | rfl | (simp; done) | (simp [*]; done)), H', ⟨Nat.le_refl _⟩, ⟨by (with_reducible repeat (first | apply Kd.R_alloc | apply Kd.R_drewN | apply Kd.R_drew)); exact HO152.out⟩, ⟨by (with_reducible repeat (first | refine blk_drewN ?_ _ | refine blk_drew ?_ | refine blk_alloc ?_ _)); exact BK149.out⟩, ⟨by repeat (first | (with_reducible first | exact HB.out | apply below_alloc | apply pw_below_drewN | apply below_drew1 | refine below_set ?_ GE149.out) | exact HB.out)⟩⟩
  case round =>
    clear H'
    try clear p2
    try clear c4
    try clear hcz5_0
    try clear hcz5_1
    try clear hcz5_2
    try clear hfz5_0
    try clear hfz5_1
    try clear hfz5_2
    obtain ⟨x3_1, x10_1, rfl, HA, HK1, HO_3, BK149, HB⟩ := hrel
    cases gk with
    | zero => exact absurd HA.out (by simp [deadfallref12_Procs.l0])
    | succ k1 =>
      have H := HA.out
      clear HA
      simp only [deadfallref12_Procs.l0] at H
      by_cases c6 : x10_1 < (l0_0.length : Int)
      · rw [if_pos c6] at H
        have c6b0 : decide (x10_1 < (l0_0.length : Int)) = true := decide_eq_true c6
        clear c6
        by_cases c7 : 0 ≤ x10_1
        · rw [if_pos c7] at H
          have c7b0 : decide (0 ≤ x10_1) = true := decide_eq_true c7
          clear c7
          by_cases c8 : x10_1 < (l0_0.length : Int)
          · rw [if_pos c8] at H
            have c8b0 : decide (x10_1 < (l0_0.length : Int)) = true := decide_eq_true c8
            clear c8
            obtain ⟨bq9, hbq9⟩ : ∃ b_ : Bool, b_ = ((rd_T77 l0_0 x10_1).f3) := ⟨_, rfl⟩
            replace H : (if bq9 = true then (if x3_1.length < 17592186044416 then (deadfallref12_Procs.l0 k1 (x3_1 ++ [(rd_T77 l0_0 x10_1).f0]) l0_0 (l0_0.length : Int) (wrap64 (x10_1 + 1))) else (none)) else (deadfallref12_Procs.l0 k1 x3_1 l0_0 (l0_0.length : Int) (wrap64 (x10_1 + 1)))) = some r := by rw [← hbq9] at H; exact H
            have Nbq9 := Aside0.mk hbq9
            clear hbq9
            by_cases c10 : bq9 = true
            · subst c10
              have H1 : (if x3_1.length < 17592186044416 then (deadfallref12_Procs.l0 k1 (x3_1 ++ [(rd_T77 l0_0 x10_1).f0]) l0_0 (l0_0.length : Int) (wrap64 (x10_1 + 1))) else (none)) = some r := by rw [if_pos rfl] at H; exact H
              clear H
              have H := H1
              clear H1
              by_cases c11 : x3_1.length < 17592186044416
              · rw [if_pos c11] at H
                have LMc11 := Aside0.mk c11
                clear c11
                obtain ⟨y155, hy155⟩ : ∃ y_ : List Int, y_ = (x3_1 ++ [(rd_T77 l0_0 x10_1).f0]) := ⟨_, rfl⟩
                replace H : (deadfallref12_Procs.l0 k1 y155 l0_0 (l0_0.length : Int) (wrap64 (x10_1 + 1))) = some r := by first | (rw [hy155]; with_reducible exact H) | (have H2_ := (Option.bind_some _ _).symm.trans H; rw [hy155]; with_reducible exact H2_) | (have H2_ := (Option.bind_some _ _).symm.trans H; with_reducible exact H2_) | with_reducible exact H | (rw [hy155]; exact H) | exact H
                have Ny155 := Aside0.mk hy155
                clear hy155
                have H' := Aside0.mk H
                clear H
                have p153 : 0 ≤ (x10_1 : Int) := of_decide_eq_true (by first | (with_reducible assumption) | assumption)
                have q153 : x10_1 < (l0_0.length : Int) := of_decide_eq_true (by first | (with_reducible assumption) | assumption)
                obtain ⟨ad153, e153, hx153_0, hx153_1, hx153_2, hx153_3, hx153_4, hx153_5, hx153_6⟩ := at_T77 HR0_0.out x10_1 p153 q153
                (try rw [← Nbq9.out] at hx153_3)
                cases e153
                replace hx153_0 := (HB.out.cell (World.block_lt_of_cell? w _ hx153_0)).trans hx153_0
                replace hx153_1 := (HB.out.cell (World.block_lt_of_cell? w _ hx153_1)).trans hx153_1
                replace hx153_2 := (HB.out.cell (World.block_lt_of_cell? w _ hx153_2)).trans hx153_2
                replace hx153_3 := (HB.out.cell (World.block_lt_of_cell? w _ hx153_3)).trans hx153_3
                replace hx153_4 := (HB.out.cell (World.block_lt_of_cell? w _ hx153_4)).trans hx153_4
                replace hx153_5 := (HB.out.cell (World.block_lt_of_cell? w _ hx153_5)).trans hx153_5
                replace hx153_6 := (HB.out.cell (World.block_lt_of_cell? w _ hx153_6)).trans hx153_6
                replace p153 := eq_true p153
                replace q153 := eq_true q153
                go_wp2_with (first | ((with_reducible refine gate_dst (N := 5) rfl ?_); refine box_event ?hg (N := 5) ?hd (cs := #[.int .i64 0, .int .i64 0, .int .i64 0, .bool false, .int .u32 0, .int .u32 0, .int .u32 0]) (t := 77) ?hr ?_; (case hd => rfl); (case hg => rfl); (case hr => first | (go_simp; done) | (go_simp; rfl)); intro gb154 hg w12 hbox hb; have n0_ := Aside0.mk (Kd.R_below (by (with_reducible repeat (first | apply Kd.R_alloc | apply Kd.R_drewN | apply Kd.R_drew)); exact HO_3.out) hb); have n1_ := Aside0.mk (blk_below (g := gb149) (o := .cells #[.slice (some ad153) l0_0.length c0_0, .int .i64 a0_1, .slice A0_2 l0_2.length c0_2] 42 (0, 0)) (by (with_reducible repeat (first | refine blk_drewN ?_ _ | refine blk_drew ?_ | refine blk_alloc ?_ _)); exact BK149.out) hb); have n2_ := Aside0.mk (below_step (by repeat (first | (with_reducible first | exact HB.out | apply below_alloc | apply pw_below_drewN | apply below_drew1 | refine below_set ?_ GE149.out) | exact HB.out)) hb); have n3_ := Aside0.mk (hbox); have n4_ := Aside0.mk ((by rw [hg]; exact (below_size (by repeat (first | (with_reducible first | exact HB.out | apply below_alloc | apply pw_below_drewN | apply below_drew1 | refine below_set ?_ GE149.out) | exact HB.out))) : w.heap.size ≤ gb154)); have n5_ := Aside0.mk ((by rw [hg]; exact (below_size (by repeat (first | (with_reducible first | exact HB.out | apply below_alloc | apply pw_below_drewN | apply below_drew1 | refine below_set ?_ GE149.out) | exact HB.out))) : w.heap.size ≤ gb154)); have n6_ := Aside0.mk ((by rw [hg]; exact Nat.ne_of_lt (blk_lt (g := gb149) (o := .cells #[.slice (some ad153) l0_0.length c0_0, .int .i64 a0_1, .slice A0_2 l0_2.length c0_2] 42 (0, 0)) (by (with_reducible repeat (first | refine blk_drewN ?_ _ | refine blk_drew ?_ | refine blk_alloc ?_ _)); exact BK149.out)) : gb149 ≠ gb154)); have n7_ := Aside0.mk ((by rw [hg]; exact Nat.ne_of_gt (blk_lt (g := gb149) (o := .cells #[.slice (some ad153) l0_0.length c0_0, .int .i64 a0_1, .slice A0_2 l0_2.length c0_2] 42 (0, 0)) (by (with_reducible repeat (first | refine blk_drewN ?_ _ | refine blk_drew ?_ | refine blk_alloc ?_ _)); exact BK149.out)) : gb154 ≠ gb149)); clear HO_3; clear BK149; clear HB; have HO_3 := n0_; have BK149 := n1_; have HB := n2_; have BK154 := n3_; have GW154 := n4_; have GE154 := n5_; have NB149_154 := n6_; have NB154_149 := n7_; clear n0_ n1_ n2_ n3_ n4_ n5_ n6_ n7_; clear hb hbox hg; have hnb13 := NB154_149.out; have hnc13 := NB149_154.out; have hcz14_0 : w12.cell? ⟨gb154, 0, none⟩ = some (.int .i64 0) := (blk_cell BK154.out 0).trans rfl; have hcz14_1 : w12.cell? ⟨gb154, 1, none⟩ = some (.int .i64 0) := (blk_cell BK154.out 1).trans rfl; have hcz14_2 : w12.cell? ⟨gb154, 2, none⟩ = some (.int .i64 0) := (blk_cell BK154.out 2).trans rfl; have hcz14_3 : w12.cell? ⟨gb154, 3, none⟩ = some (.bool false) := (blk_cell BK154.out 3).trans rfl; have hcz14_4 : w12.cell? ⟨gb154, 4, none⟩ = some (.int .u32 0) := (blk_cell BK154.out 4).trans rfl; have hcz14_5 : w12.cell? ⟨gb154, 5, none⟩ = some (.int .u32 0) := (blk_cell BK154.out 5).trans rfl; have hcz14_6 : w12.cell? ⟨gb154, 6, none⟩ = some (.int .u32 0) := (blk_cell BK154.out 6).trans rfl; have hfz14_0 := blk_frozen BK154.out 0; have hfz14_1 := blk_frozen BK154.out 1; have hfz14_2 := blk_frozen BK154.out 2; have hfz14_3 := blk_frozen BK154.out 3; have hfz14_4 := blk_frozen BK154.out 4; have hfz14_5 := blk_frozen BK154.out 5; have hfz14_6 := blk_frozen BK154.out 6) | ((with_reducible refine gate_builtin (b := .append) (xs := #[.tmp 16, .tmp 19]) rfl ?_); at_builtin; refine Kd.R_append (Kd.int .i64) (w0 := w) w.heap.size rfl (.tmp 16) (.tmp 19) 36 3 (.int .i64 0) 8 rfl Tryd.underlying36 info3 rfl (by decide) (by omega) u3 x3_1 ((rd_T77 l0_0 x10_1).f0) [.int .i64 ((rd_T77 l0_0 x10_1).f0)] (fun _ => True) (fun _ => False) rfl (by first | (go_simp; done) | (go_simp; rfl)) ?aP (fun _ hk => hk.elim) ?aF ?aO ?aB ?aS ?aL ?_; (case aP => exact rfl); (case aB => exact (by repeat (first | (with_reducible first | exact HB.out | apply below_alloc | apply pw_below_drewN | apply below_drew1 | refine below_set ?_ GE149.out | refine below_set ?_ GE154.out) | exact HB.out))); (case aF => exact (fun _ _ => trivial)); (case aO => exact (by (with_reducible repeat (first | apply Kd.R_alloc | apply Kd.R_drewN | apply Kd.R_drew)); exact Kd.R_mono (Kd.R_far (p := ⟨gb154, 6, none⟩) (Kd.R_far (p := ⟨gb154, 5, none⟩) (Kd.R_far (p := ⟨gb154, 4, none⟩) (Kd.R_far (p := ⟨gb154, 3, none⟩) (Kd.R_far (p := ⟨gb154, 2, none⟩) (Kd.R_far (p := ⟨gb154, 1, none⟩) (Kd.R_far (p := ⟨gb154, 0, none⟩) (Kd.R_types HO_3.out BK154.out (by decide)) (fun _ hk => hk.2) (.int .i64 ((rd_T77 l0_0 x10_1).f0))) (fun _ hk => hk.2) (.int .i64 ((rd_T77 l0_0 x10_1).f1))) (fun _ hk => hk.2) (.int .i64 ((rd_T77 l0_0 x10_1).f2))) (fun _ hk => hk.2) (.bool true)) (fun _ hk => hk.2) (.int .u32 ((rd_T77 l0_0 x10_1).f4))) (fun _ hk => hk.2) (.int .u32 ((rd_T77 l0_0 x10_1).f5))) (fun _ hk => hk.2) (.int .u32 ((rd_T77 l0_0 x10_1).f6))) (fun _ hk => trivial))); (case aS => exact (below_size (by repeat (first | (with_reducible first | exact HB.out | apply below_alloc | apply pw_below_drewN | apply below_drew1 | refine below_set ?_ GE149.out | refine below_set ?_ GE154.out) | exact HB.out)))); (case aL => have := LMc11.out; omega); intro v156 w15 ho hb hg hat; rw [← Ny155.out] at ho; have n0_ := Aside0.mk (blk_grown (g := gb149) (o := .cells #[.slice (some ad153) l0_0.length c0_0, .int .i64 a0_1, .slice A0_2 l0_2.length c0_2] 42 (0, 0)) (by (with_reducible repeat (first | refine blk_drewN ?_ _ | refine blk_drew ?_ | refine blk_alloc ?_ _)); refine blk_far ?_ NB149_154.out _; (with_reducible repeat (first | refine blk_drewN ?_ _ | refine blk_drew ?_ | refine blk_alloc ?_ _)); refine blk_far ?_ NB149_154.out _; (with_reducible repeat (first | refine blk_drewN ?_ _ | refine blk_drew ?_ | refine blk_alloc ?_ _)); refine blk_far ?_ NB149_154.out _; (with_reducible repeat (first | refine blk_drewN ?_ _ | refine blk_drew ?_ | refine blk_alloc ?_ _)); refine blk_far ?_ NB149_154.out _; (with_reducible repeat (first | refine blk_drewN ?_ _ | refine blk_drew ?_ | refine blk_alloc ?_ _)); refine blk_far ?_ NB149_154.out _; (with_reducible repeat (first | refine blk_drewN ?_ _ | refine blk_drew ?_ | refine blk_alloc ?_ _)); refine blk_far ?_ NB149_154.out _; (with_reducible repeat (first | refine blk_drewN ?_ _ | refine blk_drew ?_ | refine blk_alloc ?_ _)); refine blk_far ?_ NB149_154.out _; (with_reducible repeat (first | refine blk_drewN ?_ _ | refine blk_drew ?_ | refine blk_alloc ?_ _)); exact BK149.out) hg (Kd.R_ne HO_3.out BK149.out (by decide))); have n1_ := Aside0.mk (blk_grown (g := gb154) (o := .cells #[.int .i64 ((rd_T77 l0_0 x10_1).f0), .int .i64 ((rd_T77 l0_0 x10_1).f1), .int .i64 ((rd_T77 l0_0 x10_1).f2), .bool true, .int .u32 ((rd_T77 l0_0 x10_1).f4), .int .u32 ((rd_T77 l0_0 x10_1).f5), .int .u32 ((rd_T77 l0_0 x10_1).f6)] 77 (0, 0)) (by (with_reducible repeat (first | refine blk_drewN ?_ _ | refine blk_drew ?_ | refine blk_alloc ?_ _)); refine blk_put (cs := #[.int .i64 ((rd_T77 l0_0 x10_1).f0), .int .i64 ((rd_T77 l0_0 x10_1).f1), .int .i64 ((rd_T77 l0_0 x10_1).f2), .bool true, .int .u32 ((rd_T77 l0_0 x10_1).f4), .int .u32 ((rd_T77 l0_0 x10_1).f5), .int .u32 0]) ?_ 6 _ rfl; (with_reducible repeat (first | refine blk_drewN ?_ _ | refine blk_drew ?_ | refine blk_alloc ?_ _)); refine blk_put (cs := #[.int .i64 ((rd_T77 l0_0 x10_1).f0), .int .i64 ((rd_T77 l0_0 x10_1).f1), .int .i64 ((rd_T77 l0_0 x10_1).f2), .bool true, .int .u32 ((rd_T77 l0_0 x10_1).f4), .int .u32 0, .int .u32 0]) ?_ 5 _ rfl; (with_reducible repeat (first | refine blk_drewN ?_ _ | refine blk_drew ?_ | refine blk_alloc ?_ _)); refine blk_put (cs := #[.int .i64 ((rd_T77 l0_0 x10_1).f0), .int .i64 ((rd_T77 l0_0 x10_1).f1), .int .i64 ((rd_T77 l0_0 x10_1).f2), .bool true, .int .u32 0, .int .u32 0, .int .u32 0]) ?_ 4 _ rfl; (with_reducible repeat (first | refine blk_drewN ?_ _ | refine blk_drew ?_ | refine blk_alloc ?_ _)); refine blk_put (cs := #[.int .i64 ((rd_T77 l0_0 x10_1).f0), .int .i64 ((rd_T77 l0_0 x10_1).f1), .int .i64 ((rd_T77 l0_0 x10_1).f2), .bool false, .int .u32 0, .int .u32 0, .int .u32 0]) ?_ 3 _ rfl; (with_reducible repeat (first | refine blk_drewN ?_ _ | refine blk_drew ?_ | refine blk_alloc ?_ _)); refine blk_put (cs := #[.int .i64 ((rd_T77 l0_0 x10_1).f0), .int .i64 ((rd_T77 l0_0 x10_1).f1), .int .i64 0, .bool false, .int .u32 0, .int .u32 0, .int .u32 0]) ?_ 2 _ rfl; (with_reducible repeat (first | refine blk_drewN ?_ _ | refine blk_drew ?_ | refine blk_alloc ?_ _)); refine blk_put (cs := #[.int .i64 ((rd_T77 l0_0 x10_1).f0), .int .i64 0, .int .i64 0, .bool false, .int .u32 0, .int .u32 0, .int .u32 0]) ?_ 1 _ rfl; (with_reducible repeat (first | refine blk_drewN ?_ _ | refine blk_drew ?_ | refine blk_alloc ?_ _)); refine blk_put (cs := #[.int .i64 0, .int .i64 0, .int .i64 0, .bool false, .int .u32 0, .int .u32 0, .int .u32 0]) ?_ 0 _ rfl; (with_reducible repeat (first | refine blk_drewN ?_ _ | refine blk_drew ?_ | refine blk_alloc ?_ _)); exact BK154.out) hg (Kd.R_ne HO_3.out BK154.out (by decide))); have n2_ := Aside0.mk (hb); have n3_ := Aside0.mk (ho); clear BK149; clear BK154; clear HB; clear HO_3; have BK149 := n0_; have BK154 := n1_; have HB := n2_; have HO157 := n3_; clear n0_ n1_ n2_ n3_; clear ho hb hg hat))
                go_roundg k1
                case measure => have := HK1.out; omega
                case rel => exact ⟨(y155), (wrap64 (x10_1 + 1)), (by first | rfl | (simp; done) | (simp [*]; done)), H', ⟨by have := HK1.out; omega⟩, ⟨by (with_reducible repeat (first | apply Kd.R_alloc | apply Kd.R_drewN | apply Kd.R_drew)); exact HO157.out⟩, ⟨by (with_reducible repeat (first | refine blk_drewN ?_ _ | refine blk_drew ?_ | refine blk_alloc ?_ _)); exact BK149.out⟩, ⟨by repeat (first | (with_reducible first | exact HB.out | apply below_alloc | apply pw_below_drewN | apply below_drew1 | refine below_set ?_ GE149.out | refine below_set ?_ GE154.out) | exact HB.out)⟩⟩
              · rw [if_neg c11] at H
                exact absurd H (by simp)
            · replace c10 := Bool.eq_false_iff.mpr c10
              subst c10
              have H1 : (deadfallref12_Procs.l0 k1 x3_1 l0_0 (l0_0.length : Int) (wrap64 (x10_1 + 1))) = some r := by rw [if_neg (show ¬ (false = true) by decide)] at H; exact H
              clear H
              have H := H1
              clear H1
              have H' := Aside0.mk H
              clear H
              have p153 : 0 ≤ (x10_1 : Int) := of_decide_eq_true (by first | (with_reducible assumption) | assumption)
              have q153 : x10_1 < (l0_0.length : Int) := of_decide_eq_true (by first | (with_reducible assumption) | assumption)
              obtain ⟨ad153, e153, hx153_0, hx153_1, hx153_2, hx153_3, hx153_4, hx153_5, hx153_6⟩ := at_T77 HR0_0.out x10_1 p153 q153
              (try rw [← Nbq9.out] at hx153_3)
              cases e153
              replace hx153_0 := (HB.out.cell (World.block_lt_of_cell? w _ hx153_0)).trans hx153_0
              replace hx153_1 := (HB.out.cell (World.block_lt_of_cell? w _ hx153_1)).trans hx153_1
              replace hx153_2 := (HB.out.cell (World.block_lt_of_cell? w _ hx153_2)).trans hx153_2
              replace hx153_3 := (HB.out.cell (World.block_lt_of_cell? w _ hx153_3)).trans hx153_3
              replace hx153_4 := (HB.out.cell (World.block_lt_of_cell? w _ hx153_4)).trans hx153_4
              replace hx153_5 := (HB.out.cell (World.block_lt_of_cell? w _ hx153_5)).trans hx153_5
              replace hx153_6 := (HB.out.cell (World.block_lt_of_cell? w _ hx153_6)).trans hx153_6
              replace p153 := eq_true p153
              replace q153 := eq_true q153
              go_wp2_with (first | ((with_reducible refine gate_dst (N := 5) rfl ?_); refine box_event ?hg (N := 5) ?hd (cs := #[.int .i64 0, .int .i64 0, .int .i64 0, .bool false, .int .u32 0, .int .u32 0, .int .u32 0]) (t := 77) ?hr ?_; (case hd => rfl); (case hg => rfl); (case hr => first | (go_simp; done) | (go_simp; rfl)); intro gb154 hg w16 hbox hb; have n0_ := Aside0.mk (Kd.R_below (by (with_reducible repeat (first | apply Kd.R_alloc | apply Kd.R_drewN | apply Kd.R_drew)); exact HO_3.out) hb); have n1_ := Aside0.mk (blk_below (g := gb149) (o := .cells #[.slice (some ad153) l0_0.length c0_0, .int .i64 a0_1, .slice A0_2 l0_2.length c0_2] 42 (0, 0)) (by (with_reducible repeat (first | refine blk_drewN ?_ _ | refine blk_drew ?_ | refine blk_alloc ?_ _)); exact BK149.out) hb); have n2_ := Aside0.mk (below_step (by repeat (first | (with_reducible first | exact HB.out | apply below_alloc | apply pw_below_drewN | apply below_drew1 | refine below_set ?_ GE149.out) | exact HB.out)) hb); have n3_ := Aside0.mk (hbox); have n4_ := Aside0.mk ((by rw [hg]; exact (below_size (by repeat (first | (with_reducible first | exact HB.out | apply below_alloc | apply pw_below_drewN | apply below_drew1 | refine below_set ?_ GE149.out) | exact HB.out))) : w.heap.size ≤ gb154)); have n5_ := Aside0.mk ((by rw [hg]; exact (below_size (by repeat (first | (with_reducible first | exact HB.out | apply below_alloc | apply pw_below_drewN | apply below_drew1 | refine below_set ?_ GE149.out) | exact HB.out))) : w.heap.size ≤ gb154)); have n6_ := Aside0.mk ((by rw [hg]; exact Nat.ne_of_lt (blk_lt (g := gb149) (o := .cells #[.slice (some ad153) l0_0.length c0_0, .int .i64 a0_1, .slice A0_2 l0_2.length c0_2] 42 (0, 0)) (by (with_reducible repeat (first | refine blk_drewN ?_ _ | refine blk_drew ?_ | refine blk_alloc ?_ _)); exact BK149.out)) : gb149 ≠ gb154)); have n7_ := Aside0.mk ((by rw [hg]; exact Nat.ne_of_gt (blk_lt (g := gb149) (o := .cells #[.slice (some ad153) l0_0.length c0_0, .int .i64 a0_1, .slice A0_2 l0_2.length c0_2] 42 (0, 0)) (by (with_reducible repeat (first | refine blk_drewN ?_ _ | refine blk_drew ?_ | refine blk_alloc ?_ _)); exact BK149.out)) : gb154 ≠ gb149)); clear HO_3; clear BK149; clear HB; have HO_3 := n0_; have BK149 := n1_; have HB := n2_; have BK154 := n3_; have GW154 := n4_; have GE154 := n5_; have NB149_154 := n6_; have NB154_149 := n7_; clear n0_ n1_ n2_ n3_ n4_ n5_ n6_ n7_; clear hb hbox hg; have hnb17 := NB154_149.out; have hnc17 := NB149_154.out; have hcz18_0 : w16.cell? ⟨gb154, 0, none⟩ = some (.int .i64 0) := (blk_cell BK154.out 0).trans rfl; have hcz18_1 : w16.cell? ⟨gb154, 1, none⟩ = some (.int .i64 0) := (blk_cell BK154.out 1).trans rfl; have hcz18_2 : w16.cell? ⟨gb154, 2, none⟩ = some (.int .i64 0) := (blk_cell BK154.out 2).trans rfl; have hcz18_3 : w16.cell? ⟨gb154, 3, none⟩ = some (.bool false) := (blk_cell BK154.out 3).trans rfl; have hcz18_4 : w16.cell? ⟨gb154, 4, none⟩ = some (.int .u32 0) := (blk_cell BK154.out 4).trans rfl; have hcz18_5 : w16.cell? ⟨gb154, 5, none⟩ = some (.int .u32 0) := (blk_cell BK154.out 5).trans rfl; have hcz18_6 : w16.cell? ⟨gb154, 6, none⟩ = some (.int .u32 0) := (blk_cell BK154.out 6).trans rfl; have hfz18_0 := blk_frozen BK154.out 0; have hfz18_1 := blk_frozen BK154.out 1; have hfz18_2 := blk_frozen BK154.out 2; have hfz18_3 := blk_frozen BK154.out 3; have hfz18_4 := blk_frozen BK154.out 4; have hfz18_5 := blk_frozen BK154.out 5; have hfz18_6 := blk_frozen BK154.out 6))
              go_roundg k1
              case measure => have := HK1.out; omega
              case rel => exact ⟨(x3_1), (wrap64 (x10_1 + 1)), (by first | rfl | (simp; done) | (simp [*]; done)), H', ⟨by have := HK1.out; omega⟩, ⟨by (with_reducible repeat (first | apply Kd.R_alloc | apply Kd.R_drewN | apply Kd.R_drew)); exact Kd.R_mono (Kd.R_far (p := ⟨gb154, 6, none⟩) (Kd.R_far (p := ⟨gb154, 5, none⟩) (Kd.R_far (p := ⟨gb154, 4, none⟩) (Kd.R_far (p := ⟨gb154, 3, none⟩) (Kd.R_far (p := ⟨gb154, 2, none⟩) (Kd.R_far (p := ⟨gb154, 1, none⟩) (Kd.R_far (p := ⟨gb154, 0, none⟩) (Kd.R_types HO_3.out BK154.out (by decide)) (fun _ hk => hk.2) (.int .i64 ((rd_T77 l0_0 x10_1).f0))) (fun _ hk => hk.2) (.int .i64 ((rd_T77 l0_0 x10_1).f1))) (fun _ hk => hk.2) (.int .i64 ((rd_T77 l0_0 x10_1).f2))) (fun _ hk => hk.2) (.bool false)) (fun _ hk => hk.2) (.int .u32 ((rd_T77 l0_0 x10_1).f4))) (fun _ hk => hk.2) (.int .u32 ((rd_T77 l0_0 x10_1).f5))) (fun _ hk => hk.2) (.int .u32 ((rd_T77 l0_0 x10_1).f6))) (fun _ hk => trivial)⟩, ⟨by (with_reducible repeat (first | refine blk_drewN ?_ _ | refine blk_drew ?_ | refine blk_alloc ?_ _)); refine blk_far ?_ NB149_154.out _; (with_reducible repeat (first | refine blk_drewN ?_ _ | refine blk_drew ?_ | refine blk_alloc ?_ _)); refine blk_far ?_ NB149_154.out _; (with_reducible repeat (first | refine blk_drewN ?_ _ | refine blk_drew ?_ | refine blk_alloc ?_ _)); refine blk_far ?_ NB149_154.out _; (with_reducible repeat (first | refine blk_drewN ?_ _ | refine blk_drew ?_ | refine blk_alloc ?_ _)); refine blk_far ?_ NB149_154.out _; (with_reducible repeat (first | refine blk_drewN ?_ _ | refine blk_drew ?_ | refine blk_alloc ?_ _)); refine blk_far ?_ NB149_154.out _; (with_reducible repeat (first | refine blk_drewN ?_ _ | refine blk_drew ?_ | refine blk_alloc ?_ _)); refine blk_far ?_ NB149_154.out _; (with_reducible repeat (first | refine blk_drewN ?_ _ | refine blk_drew ?_ | refine blk_alloc ?_ _)); refine blk_far ?_ NB149_154.out _; (with_reducible repeat (first | refine blk_drewN ?_ _ | refine blk_drew ?_ | refine blk_alloc ?_ _)); exact BK149.out⟩, ⟨by repeat (first | (with_reducible first | exact HB.out | apply below_alloc | apply pw_below_drewN | apply below_drew1 | refine below_set ?_ GE149.out | refine below_set ?_ GE154.out) | exact HB.out)⟩⟩
          · rw [if_neg c8] at H
            exact absurd H (by simp)
        · rw [if_neg c7] at H
          exact absurd H (by simp)
      · rw [if_neg c6] at H
        have c6b0 : decide (x10_1 < (l0_0.length : Int)) = false := decide_eq_false c6
        clear c6
        obtain rfl := Option.some.inj H
        go_wp2
        go_ret
        exact ⟨_, by first | rfl | (simp [errW_none, errW_some] <;> rfl) | (simp [*, errW_none, errW_some] <;> rfl), by (with_reducible repeat (first | apply Kd.R_alloc | apply Kd.R_drewN | apply Kd.R_drew)); exact HO_3.out, by repeat (first | (with_reducible first | exact HB.out | apply below_alloc | apply pw_below_drewN | apply below_drew1 | refine below_set ?_ GE149.out) | exact HB.out)⟩

/-! ### deadfallref12_SameEnds: function 45 -/
def deadfallref12_SameEnds.l0 : Nat → List (S73) → List (S73) → Int → Int → Option (Bool)
  | 0, _, _, _, _ => none
  | k + 1, x0, x1, x12, x13 => if x13 < x12 then (if 0 ≤ x13 then (if x13 < (x0.length : Int) then (if x13 < (x1.length : Int) then (if (!(((rd_T73 x0 x13).f0) == ((rd_T73 x1 x13).f0)) || (!(((rd_T73 x0 x13).f1) == ((rd_T73 x1 x13).f1)))) = true then (some false) else (deadfallref12_SameEnds.l0 k x0 x1 x12 (wrap64 (x13 + 1)))) else (none)) else (none)) else (none)) else (some true)
def deadfallref12_SameEnds.f (k : Nat) (l0 : List (S73)) (l1 : List (S73)) : Option (Bool) := if (l0.length : Int) = (l1.length : Int) then (deadfallref12_SameEnds.l0 k l0 l1 (l0.length : Int) 0) else (some false)
theorem deadfallref12_SameEnds.mono_l : ∀ k, (∀ y0 y1 y2 y3, LeO (deadfallref12_SameEnds.l0 k y0 y1 y2 y3) (deadfallref12_SameEnds.l0 (k + 1) y0 y1 y2 y3))
  | 0 => fun _ _ _ _ r h => by simp [deadfallref12_SameEnds.l0] at h
  | k + 1 => by
    have ih0 := deadfallref12_SameEnds.mono_l k
    · intro y0 y1 y2 y3
      unfold deadfallref12_SameEnds.l0
      repeat' first
      | (with_reducible exact ih0 _ _ _ _)
      | (with_reducible exact LeO.refl _)
      | (with_reducible exact LeO.none _)
      | (with_reducible refine LeO.ite ?_ ?_)
      | (with_reducible refine LeO.bind ?_ (fun _ => ?_))
      | exact ih0 _ _ _ _
      | exact LeO.none _
      | refine LeO.ite ?_ ?_
      | refine LeO.bind ?_ (fun _ => ?_)
theorem deadfallref12_SameEnds.mono : ∀ a0 a1 k, LeO (deadfallref12_SameEnds.f k a0 a1) (deadfallref12_SameEnds.f (k + 1) a0 a1) := by
  intro a0 a1 k
  have ih0 := deadfallref12_SameEnds.mono_l k
  unfold deadfallref12_SameEnds.f
  repeat' first
      | (with_reducible exact ih0 _ _ _ _)
      | (with_reducible exact LeO.refl _)
      | (with_reducible exact LeO.none _)
      | (with_reducible refine LeO.ite ?_ ?_)
      | (with_reducible refine LeO.bind ?_ (fun _ => ?_))
      | exact ih0 _ _ _ _
      | exact LeO.none _
      | refine LeO.ite ?_ ?_
      | refine LeO.bind ?_ (fun _ => ?_)
set_option maxHeartbeats 8000000 in
set_option maxRecDepth 100000 in
theorem deadfallref12_SameEnds.calls (k : Nat) (A0 : Option Addr) (c0 : Nat) (l0 : List (S73)) (A1 : Option Addr) (c1 : Nat) (l1 : List (S73)) (r : Bool) (w : World) (hr0 : Kd.C k73 w A0 l0.length l0) (hc0 : l0.length ≤ c0) (hr1 : Kd.C k73 w A1 l1.length l1) (hc1 : l1.length ≤ c1) (h : deadfallref12_SameEnds.f k l0 l1 = some r) :
    Calls Tryd.prog 45 #[.slice A0 l0.length c0, .slice A1 l1.length c1] w fun e w' => e = .returned (.bool r) ∧ Drawn0 w w' := by
  have hu73 := Tryd.underlying73
  have HR0 := Aside0.mk hr0
  have HC0 := Aside0.mk hc0
  clear hr0 hc0
  have HR1 := Aside0.mk hr1
  have HC1 := Aside0.mk hc1
  clear hr1 hc1
  have H : (if (l0.length : Int) = (l1.length : Int) then (deadfallref12_SameEnds.l0 k l0 l1 (l0.length : Int) 0) else (some false)) = some r := h
  clear h
  by_cases c3 : (l0.length : Int) = (l1.length : Int)
  · rw [if_pos c3] at H
    have c3b0 : ((l0.length : Int) == (l1.length : Int)) = true := beq_iff_eq.mpr c3
    have c3b1 : ((l0.length : Int) != (l1.length : Int)) = false := bne_eq_false_iff_eq.mpr c3
    have c3b2 : (l0.length == l1.length) = true := by first | simpa using c3 | (simp at c3 ⊢; omega)
    clear c3
    have H' := Aside0.mk H
    clear H
    go_enter Tryd.func45, Tryd.ntmps45
    go_wp2
    repeat (go_quiet (fail); try go_wp2)
    go_loopg [13] k (fun kq v13 w' => ∃ (x13_1 : Int), v13 = .int .i64 x13_1 ∧ Aside0 (deadfallref12_SameEnds.l0 kq l0 l1 (l0.length : Int) x13_1 = some r) ∧ Aside0 (kq ≤ k) ∧ Drawn0 w w')
    case atStart => exact ⟨(0), (by first | rfl | (simp; done) | (simp [*]; done)), H', ⟨Nat.le_refl _⟩, by repeat (first | exact Drawn0.refl _ | apply Drawn0.step)⟩
    case round =>
      clear H'
      try clear c1
      try clear p2
      try clear c3
      try clear c3b0
      try clear c3b1
      try clear c3b2
      obtain ⟨x13_1, rfl, HA, HK1, ⟨m1, rfl⟩⟩ := hrel
      cases gk with
      | zero => exact absurd HA.out (by simp [deadfallref12_SameEnds.l0])
      | succ k1 =>
        have H := HA.out
        clear HA
        simp only [deadfallref12_SameEnds.l0] at H
        by_cases c4 : x13_1 < (l0.length : Int)
        · rw [if_pos c4] at H
          have c4b0 : decide (x13_1 < (l0.length : Int)) = true := decide_eq_true c4
          clear c4
          by_cases c5 : 0 ≤ x13_1
          · rw [if_pos c5] at H
            have c5b0 : decide (0 ≤ x13_1) = true := decide_eq_true c5
            clear c5
            by_cases c6 : x13_1 < (l0.length : Int)
            · rw [if_pos c6] at H
              have c6b0 : decide (x13_1 < (l0.length : Int)) = true := decide_eq_true c6
              clear c6
              by_cases c7 : x13_1 < (l1.length : Int)
              · rw [if_pos c7] at H
                have c7b0 : decide (x13_1 < (l1.length : Int)) = true := decide_eq_true c7
                clear c7
                by_cases c8 : (!(((rd_T73 l0 x13_1).f0) == ((rd_T73 l1 x13_1).f0)) || (!(((rd_T73 l0 x13_1).f1) == ((rd_T73 l1 x13_1).f1)))) = true
                · rw [if_pos c8] at H
                  have c8b0 : (!(((rd_T73 l0 x13_1).f0) == ((rd_T73 l1 x13_1).f0)) || (!(((rd_T73 l0 x13_1).f1) == ((rd_T73 l1 x13_1).f1)))) = true := c8
                  clear c8
                  obtain rfl := Option.some.inj H
                  have p158 : 0 ≤ (x13_1 : Int) := of_decide_eq_true (by first | (with_reducible assumption) | assumption)
                  have q158 : x13_1 < (l0.length : Int) := of_decide_eq_true (by first | (with_reducible assumption) | assumption)
                  obtain ⟨ad158, e158, hx158_0, hx158_1⟩ := at_T73 HR0.out x13_1 p158 q158
                  cases e158
                  replace p158 := eq_true p158
                  replace q158 := eq_true q158
                  have p159 : 0 ≤ (x13_1 : Int) := of_decide_eq_true (by first | (with_reducible assumption) | assumption)
                  have q159 : x13_1 < (l1.length : Int) := of_decide_eq_true (by first | (with_reducible assumption) | assumption)
                  obtain ⟨ad159, e159, hx159_0, hx159_1⟩ := at_T73 HR1.out x13_1 p159 q159
                  cases e159
                  replace p159 := eq_true p159
                  replace q159 := eq_true q159
                  go_wp2
                  repeat (go_quiet (fail); try go_wp2)
                  go_ret
                  exact ⟨by first | rfl | (simp; done) | (simp [*]; done), by repeat (first | exact Drawn0.refl _ | apply Drawn0.step)⟩
                · rw [if_neg c8] at H
                  have c8b0 : (!(((rd_T73 l0 x13_1).f0) == ((rd_T73 l1 x13_1).f0)) || (!(((rd_T73 l0 x13_1).f1) == ((rd_T73 l1 x13_1).f1)))) = false := by simpa using c8
                  clear c8
                  have H' := Aside0.mk H
                  clear H
                  have p158 : 0 ≤ (x13_1 : Int) := of_decide_eq_true (by first | (with_reducible assumption) | assumption)
                  have q158 : x13_1 < (l0.length : Int) := of_decide_eq_true (by first | (with_reducible assumption) | assumption)
                  obtain ⟨ad158, e158, hx158_0, hx158_1⟩ := at_T73 HR0.out x13_1 p158 q158
                  cases e158
                  replace p158 := eq_true p158
                  replace q158 := eq_true q158
                  have p159 : 0 ≤ (x13_1 : Int) := of_decide_eq_true (by first | (with_reducible assumption) | assumption)
                  have q159 : x13_1 < (l1.length : Int) := of_decide_eq_true (by first | (with_reducible assumption) | assumption)
                  obtain ⟨ad159, e159, hx159_0, hx159_1⟩ := at_T73 HR1.out x13_1 p159 q159
                  cases e159
                  replace p159 := eq_true p159
                  replace q159 := eq_true q159
                  go_wp2
                  repeat (go_quiet (fail); try go_wp2)
                  go_roundg k1
                  case measure => have := HK1.out; omega
                  case rel => exact ⟨(wrap64 (x13_1 + 1)), (by first | rfl | (simp; done) | (simp [*]; done)), H', ⟨by have := HK1.out; omega⟩, by repeat (first | exact Drawn0.refl _ | apply Drawn0.step)⟩
              · rw [if_neg c7] at H
                exact absurd H (by simp)
            · rw [if_neg c6] at H
              exact absurd H (by simp)
          · rw [if_neg c5] at H
            exact absurd H (by simp)
        · rw [if_neg c4] at H
          have c4b0 : decide (x13_1 < (l0.length : Int)) = false := decide_eq_false c4
          clear c4
          obtain rfl := Option.some.inj H
          go_wp2
          repeat (go_quiet (fail); try go_wp2)
          go_ret
          exact ⟨by first | rfl | (simp; done) | (simp [*]; done), by repeat (first | exact Drawn0.refl _ | apply Drawn0.step)⟩
  · rw [if_neg c3] at H
    have c3b0 : ((l0.length : Int) == (l1.length : Int)) = false := beq_eq_false_iff_ne.mpr c3
    have c3b1 : ((l0.length : Int) != (l1.length : Int)) = true := bne_iff_ne.mpr c3
    have c3b2 : (l0.length == l1.length) = false := by first | simpa using c3 | (simp at c3 ⊢; omega)
    obtain rfl := Option.some.inj H
    go_enter Tryd.func45, Tryd.ntmps45
    go_wp2
    repeat (go_quiet (fail); try go_wp2)
    go_ret
    exact ⟨by first | rfl | (simp; done) | (simp [*]; done), by repeat (first | exact Drawn0.refl _ | apply Drawn0.step)⟩

end Go.Proofs.YtbgodajbdbgdfaaDoor.V
-- printed by a program of this session (wip/pp): a Lean function and a proof for each Go function
namespace Go.Proofs.YtbgodajbdbgdfaaDoor.V
open Go.RowKit Go.Proofs.YtbgodajbdbgdfaaDoorW.PrintWords Go.Proofs.YtbgodajbdbgdfaaDoorW.PrintLast Go.Proofs.YtbgodajbdbgdfaaDoorW.PrintMore
attribute [local go_sem] max2_int min2_int max_two min_two max_three min_three max_four min_four   -- for this text's walks alone
set_option linter.unusedVariables false
set_option linter.unusedSimpArgs false

/-! ### deadfallref12_Children: function 46 -/
def deadfallref12_Children.l0 : Nat → Int → List Int → List (S77) → Int → Int → List (S77) → Int → List (S73) → Option (List Int)
  | 0, _, _, _, _, _, _, _, _ => none
  | k + 1, x1, x5, x10, x11, x12, x161000, x161001, x161002 => if x12 < x11 then (if 0 ≤ x12 then (if x12 < (x10.length : Int) then ((deadfallref12_Child.f k x161000 x161001 x161002 x1 ((rd_T77 x10 x12).f0)).bind fun t166 => (if t166 = true then (if x5.length < 17592186044416 then (deadfallref12_Children.l0 k x1 (x5 ++ [(rd_T77 x10 x12).f0]) x10 x11 (wrap64 (x12 + 1)) x161000 x161001 x161002) else (none)) else (deadfallref12_Children.l0 k x1 x5 x10 x11 (wrap64 (x12 + 1)) x161000 x161001 x161002))) else (none)) else (none)) else (some x5)
def deadfallref12_Children.f (k : Nat) (l0_0 : List (S77)) (a0_1 : Int) (l0_2 : List (S73)) (a1 : Int) : Option (List Int) := deadfallref12_Children.l0 k a1 (([] : List Int)) l0_0 (l0_0.length : Int) 0 l0_0 a0_1 l0_2
theorem deadfallref12_Children.mono_l : ∀ k, (∀ y0 y1 y2 y3 y4 y5 y6 y7, LeO (deadfallref12_Children.l0 k y0 y1 y2 y3 y4 y5 y6 y7) (deadfallref12_Children.l0 (k + 1) y0 y1 y2 y3 y4 y5 y6 y7))
  | 0 => fun _ _ _ _ _ _ _ _ r h => by simp [deadfallref12_Children.l0] at h
  | k + 1 => by
    have ih0 := deadfallref12_Children.mono_l k
    · intro y0 y1 y2 y3 y4 y5 y6 y7
      unfold deadfallref12_Children.l0
      repeat' first
      | (with_reducible exact ih0 _ _ _ _ _ _ _ _)
      | (with_reducible exact deadfallref12_Child.mono _ _ _ _ _ _)
      | (with_reducible exact LeO.refl _)
      | (with_reducible exact LeO.none _)
      | (with_reducible refine LeO.ite ?_ ?_)
      | (with_reducible refine LeO.bind ?_ (fun _ => ?_))
      | exact ih0 _ _ _ _ _ _ _ _
      | exact deadfallref12_Child.mono _ _ _ _ _ _
      | exact LeO.none _
      | refine LeO.ite ?_ ?_
      | refine LeO.bind ?_ (fun _ => ?_)
theorem deadfallref12_Children.mono : ∀ a0 a1 a2 a3 k, LeO (deadfallref12_Children.f k a0 a1 a2 a3) (deadfallref12_Children.f (k + 1) a0 a1 a2 a3) := by
  intro a0 a1 a2 a3 k
  have ih0 := deadfallref12_Children.mono_l k
  unfold deadfallref12_Children.f
  repeat' first
      | (with_reducible exact ih0 _ _ _ _ _ _ _ _)
      | (with_reducible exact deadfallref12_Child.mono _ _ _ _ _ _)
      | (with_reducible exact LeO.refl _)
      | (with_reducible exact LeO.none _)
      | (with_reducible refine LeO.ite ?_ ?_)
      | (with_reducible refine LeO.bind ?_ (fun _ => ?_))
      | exact ih0 _ _ _ _ _ _ _ _
      | exact deadfallref12_Child.mono _ _ _ _ _ _
      | exact LeO.none _
      | refine LeO.ite ?_ ?_
      | refine LeO.bind ?_ (fun _ => ?_)
set_option maxHeartbeats 8000000 in
set_option maxRecDepth 100000 in
theorem deadfallref12_Children.calls (k : Nat) (A0_0 : Option Addr) (c0_0 : Nat) (l0_0 : List (S77)) (a0_1 : Int) (A0_2 : Option Addr) (c0_2 : Nat) (l0_2 : List (S73)) (a1 : Int) (r : List Int) (w : World) (hr0_0 : Kd.C k77 w A0_0 l0_0.length l0_0) (hc0_0 : l0_0.length ≤ c0_0) (hr0_2 : Kd.C k73 w A0_2 l0_2.length l0_2) (hc0_2 : l0_2.length ≤ c0_2) (h : deadfallref12_Children.f k l0_0 a0_1 l0_2 a1 = some r) :
    Calls Tryd.prog 46 #[.agg #[.slice A0_0 l0_0.length c0_0, .int .i64 a0_1, .slice A0_2 l0_2.length c0_2], .int .i64 a1] w fun e w' => ∃ v0_ : Value, e = .returned (v0_) ∧ Kd.R (Kd.int .i64) 3 w' w.heap.size (fun _ => True) v0_ r ∧ Below w.heap.size w w' := by
  have hu42 := Tryd.underlying42
  have hu77 := Tryd.underlying77
  have HR0_0 := Aside0.mk hr0_0
  have HC0_0 := Aside0.mk hc0_0
  clear hr0_0 hc0_0
  have HR0_2 := Aside0.mk hr0_2
  have HC0_2 := Aside0.mk hc0_2
  clear hr0_2 hc0_2
  have HB := Aside0.mk (Below.refl w.heap.size w)
  have H : (deadfallref12_Children.l0 k a1 (([] : List Int)) l0_0 (l0_0.length : Int) 0 l0_0 a0_1 l0_2) = some r := h
  clear h
  obtain ⟨y161, hy161⟩ : ∃ y_ : List Int, y_ = (([] : List Int)) := ⟨_, rfl⟩
  replace H : (deadfallref12_Children.l0 k a1 y161 l0_0 (l0_0.length : Int) 0 l0_0 a0_1 l0_2) = some r := by first | (rw [hy161]; with_reducible exact H) | (have H2_ := (Option.bind_some _ _).symm.trans H; rw [hy161]; with_reducible exact H2_) | (have H2_ := (Option.bind_some _ _).symm.trans H; with_reducible exact H2_) | with_reducible exact H | (rw [hy161]; exact H) | exact H
  have Ny161 := Aside0.mk hy161
  clear hy161
  have H' := Aside0.mk H
  clear H
  go_enter Tryd.func46, Tryd.ntmps46
  go_wp2_with (first | ((with_reducible refine gate_dst (N := 2) rfl ?_); refine box_event ?hg (N := 2) ?hd (cs := #[.slice A0_0 l0_0.length c0_0, .int .i64 a0_1, .slice A0_2 l0_2.length c0_2]) (t := 42) ?hr ?_; (case hd => rfl); (case hg => rfl); (case hr => first | (go_simp; done) | (go_simp; rfl)); intro gb160 hg w3 hbox hb; have n0_ := Aside0.mk (below_step (by repeat (first | (with_reducible first | exact HB.out | apply below_alloc | apply pw_below_drewN | apply below_drew1) | exact HB.out)) hb); have n1_ := Aside0.mk (hbox); have n2_ := Aside0.mk ((by rw [hg]; exact (below_size (by repeat (first | (with_reducible first | exact HB.out | apply below_alloc | apply pw_below_drewN | apply below_drew1) | exact HB.out))) : w.heap.size ≤ gb160)); have n3_ := Aside0.mk ((by rw [hg]; exact (below_size (by repeat (first | (with_reducible first | exact HB.out | apply below_alloc | apply pw_below_drewN | apply below_drew1) | exact HB.out))) : w.heap.size ≤ gb160)); clear HB; have HB := n0_; have BK160 := n1_; have GW160 := n2_; have GE160 := n3_; clear n0_ n1_ n2_ n3_; clear hb hbox hg) | ((with_reducible refine gate_dst (N := 8) rfl ?_); refine Kd.R_lit (Kd.int .i64) _ 3 ?hg (N := 8) ?hd (xs := ([] : List Int)) (inner := []) (ok := fun _ => True) (okp := fun _ => True) ?hr ?hp (fun _ hk => hk) trivial (Below.refl _ _) (Nat.le_refl _) (by simp) ?_; (case hd => rfl); (case hg => rfl); (case hr => first | (go_simp; done) | (go_simp; rfl)); (case hp => exact (Reps.none _ _)); intro v162 w4 ho5 hb hg_ hnew_; clear hg_ hnew_; (first | rw [← Ny161.out] at ho5 | (simp only [Int.reduceToNat] at ho5; rw [← Ny161.out] at ho5)); have n0_ := Aside0.mk (Kd.R_lower ho5 (below_size (by repeat (first | (with_reducible first | exact HB.out | apply below_alloc | apply pw_below_drewN | apply below_drew1 | refine below_set ?_ GE160.out) | exact HB.out)))); have n1_ := Aside0.mk (blk_below (g := gb160) (o := .cells #[.slice A0_0 l0_0.length c0_0, .int .i64 a0_1, .slice A0_2 l0_2.length c0_2] 42 (0, 0)) (by (with_reducible repeat (first | refine blk_drewN ?_ _ | refine blk_drew ?_ | refine blk_alloc ?_ _)); exact BK160.out) hb); have n2_ := Aside0.mk (below_step (by repeat (first | (with_reducible first | exact HB.out | apply below_alloc | apply pw_below_drewN | apply below_drew1 | refine below_set ?_ GE160.out) | exact HB.out)) hb); clear BK160; clear HB; have HO163 := n0_; have BK160 := n1_; have HB := n2_; clear n0_ n1_ n2_; clear hb ho5; have hcz6_0 : w4.cell? ⟨gb160, 0, none⟩ = some (.slice A0_0 l0_0.length c0_0) := (blk_cell BK160.out 0).trans rfl; have hcz6_1 : w4.cell? ⟨gb160, 1, none⟩ = some (.int .i64 a0_1) := (blk_cell BK160.out 1).trans rfl; have hcz6_2 : w4.cell? ⟨gb160, 2, none⟩ = some (.slice A0_2 l0_2.length c0_2) := (blk_cell BK160.out 2).trans rfl; have hfz6_0 := blk_frozen BK160.out 0; have hfz6_1 := blk_frozen BK160.out 1; have hfz6_2 := blk_frozen BK160.out 2))
  go_loopg [5, 12] k (fun kq v5 v12 w' => ∃ (x5_1 : List Int) (x12_1 : Int), v12 = .int .i64 x12_1 ∧ Aside0 (deadfallref12_Children.l0 kq a1 x5_1 l0_0 (l0_0.length : Int) x12_1 l0_0 a0_1 l0_2 = some r) ∧ Aside0 (kq ≤ k) ∧ Aside0 (Kd.R (Kd.int .i64) 3 w' w.heap.size (fun _ => True) v5 x5_1) ∧ Aside0 (w'.heap[gb160]? = some (.cells #[(.slice A0_0 l0_0.length c0_0), .int .i64 a0_1, (.slice A0_2 l0_2.length c0_2)] 42 (0, 0))) ∧ Aside0 (Below w.heap.size w w'))
  case atStart => exact ⟨(y161), (0), (by first | rfl | (simp; done) | (simp [*]; done)), H', ⟨Nat.le_refl _⟩, ⟨by (with_reducible repeat (first | apply Kd.R_alloc | apply Kd.R_drewN | apply Kd.R_drew)); exact HO163.out⟩, ⟨by (with_reducible repeat (first | refine blk_drewN ?_ _ | refine blk_drew ?_ | refine blk_alloc ?_ _)); exact BK160.out⟩, ⟨by repeat (first | (with_reducible first | exact HB.out | apply below_alloc | apply pw_below_drewN | apply below_drew1 | refine below_set ?_ GE160.out) | exact HB.out)⟩⟩
  case round =>
    clear H'
    try clear p2
    try clear c4
    try clear hcz6_0
    try clear hcz6_1
    try clear hcz6_2
    try clear hfz6_0
    try clear hfz6_1
    try clear hfz6_2
    obtain ⟨x5_1, x12_1, rfl, HA, HK1, HO_5, BK160, HB⟩ := hrel
    cases gk with
    | zero => exact absurd HA.out (by simp [deadfallref12_Children.l0])
    | succ k1 =>
      have H := HA.out
      clear HA
      simp only [deadfallref12_Children.l0] at H
      by_cases c7 : x12_1 < (l0_0.length : Int)
      · rw [if_pos c7] at H
        have c7b0 : decide (x12_1 < (l0_0.length : Int)) = true := decide_eq_true c7
        clear c7
        by_cases c8 : 0 ≤ x12_1
        · rw [if_pos c8] at H
          have c8b0 : decide (0 ≤ x12_1) = true := decide_eq_true c8
          clear c8
          by_cases c9 : x12_1 < (l0_0.length : Int)
          · rw [if_pos c9] at H
            have c9b0 : decide (x12_1 < (l0_0.length : Int)) = true := decide_eq_true c9
            clear c9
            replace H := Option.bind_eq_some_iff.mp H
            obtain ⟨t166, A100, H⟩ := H
            replace H : (if t166 = true then (if x5_1.length < 17592186044416 then (deadfallref12_Children.l0 k1 a1 (x5_1 ++ [(rd_T77 l0_0 x12_1).f0]) l0_0 (l0_0.length : Int) (wrap64 (x12_1 + 1)) l0_0 a0_1 l0_2) else (none)) else (deadfallref12_Children.l0 k1 a1 x5_1 l0_0 (l0_0.length : Int) (wrap64 (x12_1 + 1)) l0_0 a0_1 l0_2)) = some r := H
            have A10 := Aside0.mk A100
            clear A100
            by_cases c11 : t166 = true
            · subst c11
              have H1 : (if x5_1.length < 17592186044416 then (deadfallref12_Children.l0 k1 a1 (x5_1 ++ [(rd_T77 l0_0 x12_1).f0]) l0_0 (l0_0.length : Int) (wrap64 (x12_1 + 1)) l0_0 a0_1 l0_2) else (none)) = some r := by rw [if_pos rfl] at H; exact H
              clear H
              have H := H1
              clear H1
              by_cases c12 : x5_1.length < 17592186044416
              · rw [if_pos c12] at H
                have LMc12 := Aside0.mk c12
                clear c12
                obtain ⟨y167, hy167⟩ : ∃ y_ : List Int, y_ = (x5_1 ++ [(rd_T77 l0_0 x12_1).f0]) := ⟨_, rfl⟩
                replace H : (deadfallref12_Children.l0 k1 a1 y167 l0_0 (l0_0.length : Int) (wrap64 (x12_1 + 1)) l0_0 a0_1 l0_2) = some r := by first | (rw [hy167]; with_reducible exact H) | (have H2_ := (Option.bind_some _ _).symm.trans H; rw [hy167]; with_reducible exact H2_) | (have H2_ := (Option.bind_some _ _).symm.trans H; with_reducible exact H2_) | with_reducible exact H | (rw [hy167]; exact H) | exact H
                have Ny167 := Aside0.mk hy167
                clear hy167
                have H' := Aside0.mk H
                clear H
                have p164 : 0 ≤ (x12_1 : Int) := of_decide_eq_true (by first | (with_reducible assumption) | assumption)
                have q164 : x12_1 < (l0_0.length : Int) := of_decide_eq_true (by first | (with_reducible assumption) | assumption)
                obtain ⟨ad164, e164, hx164_0, hx164_1, hx164_2, hx164_3, hx164_4, hx164_5, hx164_6⟩ := at_T77 HR0_0.out x12_1 p164 q164
                cases e164
                replace hx164_0 := (HB.out.cell (World.block_lt_of_cell? w _ hx164_0)).trans hx164_0
                replace hx164_1 := (HB.out.cell (World.block_lt_of_cell? w _ hx164_1)).trans hx164_1
                replace hx164_2 := (HB.out.cell (World.block_lt_of_cell? w _ hx164_2)).trans hx164_2
                replace hx164_3 := (HB.out.cell (World.block_lt_of_cell? w _ hx164_3)).trans hx164_3
                replace hx164_4 := (HB.out.cell (World.block_lt_of_cell? w _ hx164_4)).trans hx164_4
                replace hx164_5 := (HB.out.cell (World.block_lt_of_cell? w _ hx164_5)).trans hx164_5
                replace hx164_6 := (HB.out.cell (World.block_lt_of_cell? w _ hx164_6)).trans hx164_6
                replace p164 := eq_true p164
                replace q164 := eq_true q164
                go_wp2_with (first | ((with_reducible refine gate_dst (N := 7) rfl ?_); refine box_event ?hg (N := 7) ?hd (cs := #[.int .i64 0, .int .i64 0, .int .i64 0, .bool false, .int .u32 0, .int .u32 0, .int .u32 0]) (t := 77) ?hr ?_; (case hd => rfl); (case hg => rfl); (case hr => first | (go_simp; done) | (go_simp; rfl)); intro gb165 hg w13 hbox hb; have n0_ := Aside0.mk (Kd.R_below (by (with_reducible repeat (first | apply Kd.R_alloc | apply Kd.R_drewN | apply Kd.R_drew)); exact HO_5.out) hb); have n1_ := Aside0.mk (blk_below (g := gb160) (o := .cells #[.slice (some ad164) l0_0.length c0_0, .int .i64 a0_1, .slice A0_2 l0_2.length c0_2] 42 (0, 0)) (by (with_reducible repeat (first | refine blk_drewN ?_ _ | refine blk_drew ?_ | refine blk_alloc ?_ _)); exact BK160.out) hb); have n2_ := Aside0.mk (below_step (by repeat (first | (with_reducible first | exact HB.out | apply below_alloc | apply pw_below_drewN | apply below_drew1 | refine below_set ?_ GE160.out) | exact HB.out)) hb); have n3_ := Aside0.mk (hbox); have n4_ := Aside0.mk ((by rw [hg]; exact (below_size (by repeat (first | (with_reducible first | exact HB.out | apply below_alloc | apply pw_below_drewN | apply below_drew1 | refine below_set ?_ GE160.out) | exact HB.out))) : w.heap.size ≤ gb165)); have n5_ := Aside0.mk ((by rw [hg]; exact (below_size (by repeat (first | (with_reducible first | exact HB.out | apply below_alloc | apply pw_below_drewN | apply below_drew1 | refine below_set ?_ GE160.out) | exact HB.out))) : w.heap.size ≤ gb165)); have n6_ := Aside0.mk ((by rw [hg]; exact Nat.ne_of_lt (blk_lt (g := gb160) (o := .cells #[.slice (some ad164) l0_0.length c0_0, .int .i64 a0_1, .slice A0_2 l0_2.length c0_2] 42 (0, 0)) (by (with_reducible repeat (first | refine blk_drewN ?_ _ | refine blk_drew ?_ | refine blk_alloc ?_ _)); exact BK160.out)) : gb160 ≠ gb165)); have n7_ := Aside0.mk ((by rw [hg]; exact Nat.ne_of_gt (blk_lt (g := gb160) (o := .cells #[.slice (some ad164) l0_0.length c0_0, .int .i64 a0_1, .slice A0_2 l0_2.length c0_2] 42 (0, 0)) (by (with_reducible repeat (first | refine blk_drewN ?_ _ | refine blk_drew ?_ | refine blk_alloc ?_ _)); exact BK160.out)) : gb165 ≠ gb160)); clear HO_5; clear BK160; clear HB; have HO_5 := n0_; have BK160 := n1_; have HB := n2_; have BK165 := n3_; have GW165 := n4_; have GE165 := n5_; have NB160_165 := n6_; have NB165_160 := n7_; clear n0_ n1_ n2_ n3_ n4_ n5_ n6_ n7_; clear hb hbox hg; have hnb14 := NB165_160.out; have hnc14 := NB160_165.out; have hcz15_0 : w13.cell? ⟨gb165, 0, none⟩ = some (.int .i64 0) := (blk_cell BK165.out 0).trans rfl; have hcz15_1 : w13.cell? ⟨gb165, 1, none⟩ = some (.int .i64 0) := (blk_cell BK165.out 1).trans rfl; have hcz15_2 : w13.cell? ⟨gb165, 2, none⟩ = some (.int .i64 0) := (blk_cell BK165.out 2).trans rfl; have hcz15_3 : w13.cell? ⟨gb165, 3, none⟩ = some (.bool false) := (blk_cell BK165.out 3).trans rfl; have hcz15_4 : w13.cell? ⟨gb165, 4, none⟩ = some (.int .u32 0) := (blk_cell BK165.out 4).trans rfl; have hcz15_5 : w13.cell? ⟨gb165, 5, none⟩ = some (.int .u32 0) := (blk_cell BK165.out 5).trans rfl; have hcz15_6 : w13.cell? ⟨gb165, 6, none⟩ = some (.int .u32 0) := (blk_cell BK165.out 6).trans rfl; have hfz15_0 := blk_frozen BK165.out 0; have hfz15_1 := blk_frozen BK165.out 1; have hfz15_2 := blk_frozen BK165.out 2; have hfz15_3 := blk_frozen BK165.out 3; have hfz15_4 := blk_frozen BK165.out 4; have hfz15_5 := blk_frozen BK165.out 5; have hfz15_6 := blk_frozen BK165.out 6; have hcz16_0 : w13.cell? ⟨gb160, 0, none⟩ = some (.slice (some ad164) l0_0.length c0_0) := (blk_cell BK160.out 0).trans rfl; have hcz16_1 : w13.cell? ⟨gb160, 1, none⟩ = some (.int .i64 a0_1) := (blk_cell BK160.out 1).trans rfl; have hcz16_2 : w13.cell? ⟨gb160, 2, none⟩ = some (.slice A0_2 l0_2.length c0_2) := (blk_cell BK160.out 2).trans rfl; have hfz16_0 := blk_frozen BK160.out 0; have hfz16_1 := blk_frozen BK160.out 1; have hfz16_2 := blk_frozen BK160.out 2) | ((with_reducible refine gate_callee (f := 29) rfl ?_); refine goesL_ (some 20) rfl rfl Tryd.func29 (by kernel_rfl) rfl #[.agg #[.slice (some ad164) l0_0.length c0_0, .int .i64 a0_1, .slice A0_2 l0_2.length c0_2], .int .i64 a1, .int .i64 ((rd_T77 l0_0 x12_1).f0)] rfl (by (try simp only [List.map_toArray, List.map_cons, List.map_nil]); first | done | rfl | (simp only [List.length_drop, List.length_take]; rfl)) ?_; (with_reducible refine (deadfallref12_Child.calls k1 _ _ l0_0 a0_1 _ _ l0_2 a1 ((rd_T77 l0_0 x12_1).f0) true _ ?side1 ?side2 ?side3 ?side4 A10.out).mono ?_); (case side1 => exact Kd.C_below HR0_0.out (by repeat (first | (with_reducible first | exact HB.out | apply below_alloc | apply pw_below_drewN | apply below_drew1 | refine below_set ?_ GE160.out | refine below_set ?_ GE165.out) | exact HB.out))); (case side2 => exact HC0_0.out); (case side3 => exact Kd.C_below HR0_2.out (by repeat (first | (with_reducible first | exact HB.out | apply below_alloc | apply pw_below_drewN | apply below_drew1 | refine below_set ?_ GE160.out | refine below_set ?_ GE165.out) | exact HB.out))); (case side4 => exact HC0_2.out); rintro e w17 ⟨rfl, hb⟩; refine ⟨_, rfl, ?_⟩; have n0_ := Aside0.mk (Kd.R_below (by (with_reducible repeat (first | apply Kd.R_alloc | apply Kd.R_drewN | apply Kd.R_drew)); exact (Kd.R_mono (Kd.R_far (p := ⟨gb165, 6, none⟩) (Kd.R_far (p := ⟨gb165, 5, none⟩) (Kd.R_far (p := ⟨gb165, 4, none⟩) (Kd.R_far (p := ⟨gb165, 3, none⟩) (Kd.R_far (p := ⟨gb165, 2, none⟩) (Kd.R_far (p := ⟨gb165, 1, none⟩) (Kd.R_far (p := ⟨gb165, 0, none⟩) (Kd.R_types HO_5.out BK165.out (by decide)) (fun _ hk => hk.2) (.int .i64 ((rd_T77 l0_0 x12_1).f0))) (fun _ hk => hk.2) (.int .i64 ((rd_T77 l0_0 x12_1).f1))) (fun _ hk => hk.2) (.int .i64 ((rd_T77 l0_0 x12_1).f2))) (fun _ hk => hk.2) (.bool ((rd_T77 l0_0 x12_1).f3))) (fun _ hk => hk.2) (.int .u32 ((rd_T77 l0_0 x12_1).f4))) (fun _ hk => hk.2) (.int .u32 ((rd_T77 l0_0 x12_1).f5))) (fun _ hk => hk.2) (.int .u32 ((rd_T77 l0_0 x12_1).f6))) (fun _ h_ => h_.1))) hb); have n1_ := Aside0.mk (blk_below (g := gb160) (o := .cells #[.slice (some ad164) l0_0.length c0_0, .int .i64 a0_1, .slice A0_2 l0_2.length c0_2] 42 (0, 0)) (by (with_reducible repeat (first | refine blk_drewN ?_ _ | refine blk_drew ?_ | refine blk_alloc ?_ _)); refine blk_far ?_ NB160_165.out _; (with_reducible repeat (first | refine blk_drewN ?_ _ | refine blk_drew ?_ | refine blk_alloc ?_ _)); refine blk_far ?_ NB160_165.out _; (with_reducible repeat (first | refine blk_drewN ?_ _ | refine blk_drew ?_ | refine blk_alloc ?_ _)); refine blk_far ?_ NB160_165.out _; (with_reducible repeat (first | refine blk_drewN ?_ _ | refine blk_drew ?_ | refine blk_alloc ?_ _)); refine blk_far ?_ NB160_165.out _; (with_reducible repeat (first | refine blk_drewN ?_ _ | refine blk_drew ?_ | refine blk_alloc ?_ _)); refine blk_far ?_ NB160_165.out _; (with_reducible repeat (first | refine blk_drewN ?_ _ | refine blk_drew ?_ | refine blk_alloc ?_ _)); refine blk_far ?_ NB160_165.out _; (with_reducible repeat (first | refine blk_drewN ?_ _ | refine blk_drew ?_ | refine blk_alloc ?_ _)); refine blk_far ?_ NB160_165.out _; (with_reducible repeat (first | refine blk_drewN ?_ _ | refine blk_drew ?_ | refine blk_alloc ?_ _)); exact BK160.out) hb); have n2_ := Aside0.mk (blk_below (g := gb165) (o := .cells #[.int .i64 ((rd_T77 l0_0 x12_1).f0), .int .i64 ((rd_T77 l0_0 x12_1).f1), .int .i64 ((rd_T77 l0_0 x12_1).f2), .bool ((rd_T77 l0_0 x12_1).f3), .int .u32 ((rd_T77 l0_0 x12_1).f4), .int .u32 ((rd_T77 l0_0 x12_1).f5), .int .u32 ((rd_T77 l0_0 x12_1).f6)] 77 (0, 0)) (by (with_reducible repeat (first | refine blk_drewN ?_ _ | refine blk_drew ?_ | refine blk_alloc ?_ _)); refine blk_put (cs := #[.int .i64 ((rd_T77 l0_0 x12_1).f0), .int .i64 ((rd_T77 l0_0 x12_1).f1), .int .i64 ((rd_T77 l0_0 x12_1).f2), .bool ((rd_T77 l0_0 x12_1).f3), .int .u32 ((rd_T77 l0_0 x12_1).f4), .int .u32 ((rd_T77 l0_0 x12_1).f5), .int .u32 0]) ?_ 6 _ rfl; (with_reducible repeat (first | refine blk_drewN ?_ _ | refine blk_drew ?_ | refine blk_alloc ?_ _)); refine blk_put (cs := #[.int .i64 ((rd_T77 l0_0 x12_1).f0), .int .i64 ((rd_T77 l0_0 x12_1).f1), .int .i64 ((rd_T77 l0_0 x12_1).f2), .bool ((rd_T77 l0_0 x12_1).f3), .int .u32 ((rd_T77 l0_0 x12_1).f4), .int .u32 0, .int .u32 0]) ?_ 5 _ rfl; (with_reducible repeat (first | refine blk_drewN ?_ _ | refine blk_drew ?_ | refine blk_alloc ?_ _)); refine blk_put (cs := #[.int .i64 ((rd_T77 l0_0 x12_1).f0), .int .i64 ((rd_T77 l0_0 x12_1).f1), .int .i64 ((rd_T77 l0_0 x12_1).f2), .bool ((rd_T77 l0_0 x12_1).f3), .int .u32 0, .int .u32 0, .int .u32 0]) ?_ 4 _ rfl; (with_reducible repeat (first | refine blk_drewN ?_ _ | refine blk_drew ?_ | refine blk_alloc ?_ _)); refine blk_put (cs := #[.int .i64 ((rd_T77 l0_0 x12_1).f0), .int .i64 ((rd_T77 l0_0 x12_1).f1), .int .i64 ((rd_T77 l0_0 x12_1).f2), .bool false, .int .u32 0, .int .u32 0, .int .u32 0]) ?_ 3 _ rfl; (with_reducible repeat (first | refine blk_drewN ?_ _ | refine blk_drew ?_ | refine blk_alloc ?_ _)); refine blk_put (cs := #[.int .i64 ((rd_T77 l0_0 x12_1).f0), .int .i64 ((rd_T77 l0_0 x12_1).f1), .int .i64 0, .bool false, .int .u32 0, .int .u32 0, .int .u32 0]) ?_ 2 _ rfl; (with_reducible repeat (first | refine blk_drewN ?_ _ | refine blk_drew ?_ | refine blk_alloc ?_ _)); refine blk_put (cs := #[.int .i64 ((rd_T77 l0_0 x12_1).f0), .int .i64 0, .int .i64 0, .bool false, .int .u32 0, .int .u32 0, .int .u32 0]) ?_ 1 _ rfl; (with_reducible repeat (first | refine blk_drewN ?_ _ | refine blk_drew ?_ | refine blk_alloc ?_ _)); refine blk_put (cs := #[.int .i64 0, .int .i64 0, .int .i64 0, .bool false, .int .u32 0, .int .u32 0, .int .u32 0]) ?_ 0 _ rfl; (with_reducible repeat (first | refine blk_drewN ?_ _ | refine blk_drew ?_ | refine blk_alloc ?_ _)); exact BK165.out) hb); have n3_ := Aside0.mk (below_step (by repeat (first | (with_reducible first | exact HB.out | apply below_alloc | apply pw_below_drewN | apply below_drew1 | refine below_set ?_ GE160.out | refine below_set ?_ GE165.out) | exact HB.out)) hb); clear HO_5; clear BK160; clear BK165; clear HB; have HO_5 := n0_; have BK160 := n1_; have BK165 := n2_; have HB := n3_; clear n0_ n1_ n2_ n3_; (try clear hb); (try clear hb2); (try clear hk); (try clear hi); have hcz18_0 : w17.cell? ⟨gb165, 0, none⟩ = some (.int .i64 ((rd_T77 l0_0 x12_1).f0)) := (blk_cell BK165.out 0).trans rfl; have hcz18_1 : w17.cell? ⟨gb165, 1, none⟩ = some (.int .i64 ((rd_T77 l0_0 x12_1).f1)) := (blk_cell BK165.out 1).trans rfl; have hcz18_2 : w17.cell? ⟨gb165, 2, none⟩ = some (.int .i64 ((rd_T77 l0_0 x12_1).f2)) := (blk_cell BK165.out 2).trans rfl; have hcz18_3 : w17.cell? ⟨gb165, 3, none⟩ = some (.bool ((rd_T77 l0_0 x12_1).f3)) := (blk_cell BK165.out 3).trans rfl; have hcz18_4 : w17.cell? ⟨gb165, 4, none⟩ = some (.int .u32 ((rd_T77 l0_0 x12_1).f4)) := (blk_cell BK165.out 4).trans rfl; have hcz18_5 : w17.cell? ⟨gb165, 5, none⟩ = some (.int .u32 ((rd_T77 l0_0 x12_1).f5)) := (blk_cell BK165.out 5).trans rfl; have hcz18_6 : w17.cell? ⟨gb165, 6, none⟩ = some (.int .u32 ((rd_T77 l0_0 x12_1).f6)) := (blk_cell BK165.out 6).trans rfl; have hfz18_0 := blk_frozen BK165.out 0; have hfz18_1 := blk_frozen BK165.out 1; have hfz18_2 := blk_frozen BK165.out 2; have hfz18_3 := blk_frozen BK165.out 3; have hfz18_4 := blk_frozen BK165.out 4; have hfz18_5 := blk_frozen BK165.out 5; have hfz18_6 := blk_frozen BK165.out 6) | ((with_reducible refine gate_builtin (b := .append) (xs := #[.tmp 21, .tmp 24]) rfl ?_); at_builtin; refine Kd.R_append (Kd.int .i64) (w0 := w) w.heap.size rfl (.tmp 21) (.tmp 24) 36 3 (.int .i64 0) 8 rfl Tryd.underlying36 info3 rfl (by decide) (by omega) u5 x5_1 ((rd_T77 l0_0 x12_1).f0) [.int .i64 ((rd_T77 l0_0 x12_1).f0)] (fun _ => True) (fun _ => False) rfl rfl ?aP (fun _ hk => hk.elim) ?aF ?aO ?aB ?aS ?aL ?_; (case aP => exact rfl); (case aB => exact (by repeat (first | (with_reducible first | exact HB.out | apply below_alloc | apply pw_below_drewN | apply below_drew1 | refine below_set ?_ GE160.out | refine below_set ?_ GE165.out) | exact HB.out))); (case aF => exact (fun _ _ => trivial)); (case aO => exact (by (with_reducible repeat (first | apply Kd.R_alloc | apply Kd.R_drewN | apply Kd.R_drew)); exact HO_5.out)); (case aS => exact (below_size (by repeat (first | (with_reducible first | exact HB.out | apply below_alloc | apply pw_below_drewN | apply below_drew1 | refine below_set ?_ GE160.out | refine below_set ?_ GE165.out) | exact HB.out)))); (case aL => have := LMc12.out; omega); intro v168 w19 ho hb hg hat; rw [← Ny167.out] at ho; have n0_ := Aside0.mk (blk_grown (g := gb160) (o := .cells #[.slice (some ad164) l0_0.length c0_0, .int .i64 a0_1, .slice A0_2 l0_2.length c0_2] 42 (0, 0)) (by (with_reducible repeat (first | refine blk_drewN ?_ _ | refine blk_drew ?_ | refine blk_alloc ?_ _)); exact BK160.out) hg (Kd.R_ne HO_5.out BK160.out (by decide))); have n1_ := Aside0.mk (blk_grown (g := gb165) (o := .cells #[.int .i64 ((rd_T77 l0_0 x12_1).f0), .int .i64 ((rd_T77 l0_0 x12_1).f1), .int .i64 ((rd_T77 l0_0 x12_1).f2), .bool ((rd_T77 l0_0 x12_1).f3), .int .u32 ((rd_T77 l0_0 x12_1).f4), .int .u32 ((rd_T77 l0_0 x12_1).f5), .int .u32 ((rd_T77 l0_0 x12_1).f6)] 77 (0, 0)) (by (with_reducible repeat (first | refine blk_drewN ?_ _ | refine blk_drew ?_ | refine blk_alloc ?_ _)); exact BK165.out) hg (Kd.R_ne HO_5.out BK165.out (by decide))); have n2_ := Aside0.mk (hb); have n3_ := Aside0.mk (ho); clear BK160; clear BK165; clear HB; clear HO_5; have BK160 := n0_; have BK165 := n1_; have HB := n2_; have HO169 := n3_; clear n0_ n1_ n2_ n3_; clear ho hb hg hat))
                go_roundg k1
                case measure => have := HK1.out; omega
                case rel => exact ⟨(y167), (wrap64 (x12_1 + 1)), (by first | rfl | (simp; done) | (simp [*]; done)), H', ⟨by have := HK1.out; omega⟩, ⟨by (with_reducible repeat (first | apply Kd.R_alloc | apply Kd.R_drewN | apply Kd.R_drew)); exact HO169.out⟩, ⟨by (with_reducible repeat (first | refine blk_drewN ?_ _ | refine blk_drew ?_ | refine blk_alloc ?_ _)); exact BK160.out⟩, ⟨by repeat (first | (with_reducible first | exact HB.out | apply below_alloc | apply pw_below_drewN | apply below_drew1 | refine below_set ?_ GE160.out | refine below_set ?_ GE165.out) | exact HB.out)⟩⟩
              · rw [if_neg c12] at H
                exact absurd H (by simp)
            · replace c11 := Bool.eq_false_iff.mpr c11
              subst c11
              have H1 : (deadfallref12_Children.l0 k1 a1 x5_1 l0_0 (l0_0.length : Int) (wrap64 (x12_1 + 1)) l0_0 a0_1 l0_2) = some r := by rw [if_neg (show ¬ (false = true) by decide)] at H; exact H
              clear H
              have H := H1
              clear H1
              have H' := Aside0.mk H
              clear H
              have p164 : 0 ≤ (x12_1 : Int) := of_decide_eq_true (by first | (with_reducible assumption) | assumption)
              have q164 : x12_1 < (l0_0.length : Int) := of_decide_eq_true (by first | (with_reducible assumption) | assumption)
              obtain ⟨ad164, e164, hx164_0, hx164_1, hx164_2, hx164_3, hx164_4, hx164_5, hx164_6⟩ := at_T77 HR0_0.out x12_1 p164 q164
              cases e164
              replace hx164_0 := (HB.out.cell (World.block_lt_of_cell? w _ hx164_0)).trans hx164_0
              replace hx164_1 := (HB.out.cell (World.block_lt_of_cell? w _ hx164_1)).trans hx164_1
              replace hx164_2 := (HB.out.cell (World.block_lt_of_cell? w _ hx164_2)).trans hx164_2
              replace hx164_3 := (HB.out.cell (World.block_lt_of_cell? w _ hx164_3)).trans hx164_3
              replace hx164_4 := (HB.out.cell (World.block_lt_of_cell? w _ hx164_4)).trans hx164_4
              replace hx164_5 := (HB.out.cell (World.block_lt_of_cell? w _ hx164_5)).trans hx164_5
              replace hx164_6 := (HB.out.cell (World.block_lt_of_cell? w _ hx164_6)).trans hx164_6
              replace p164 := eq_true p164
              replace q164 := eq_true q164
              go_wp2_with (first | ((with_reducible refine gate_dst (N := 7) rfl ?_); refine box_event ?hg (N := 7) ?hd (cs := #[.int .i64 0, .int .i64 0, .int .i64 0, .bool false, .int .u32 0, .int .u32 0, .int .u32 0]) (t := 77) ?hr ?_; (case hd => rfl); (case hg => rfl); (case hr => first | (go_simp; done) | (go_simp; rfl)); intro gb165 hg w20 hbox hb; have n0_ := Aside0.mk (Kd.R_below (by (with_reducible repeat (first | apply Kd.R_alloc | apply Kd.R_drewN | apply Kd.R_drew)); exact HO_5.out) hb); have n1_ := Aside0.mk (blk_below (g := gb160) (o := .cells #[.slice (some ad164) l0_0.length c0_0, .int .i64 a0_1, .slice A0_2 l0_2.length c0_2] 42 (0, 0)) (by (with_reducible repeat (first | refine blk_drewN ?_ _ | refine blk_drew ?_ | refine blk_alloc ?_ _)); exact BK160.out) hb); have n2_ := Aside0.mk (below_step (by repeat (first | (with_reducible first | exact HB.out | apply below_alloc | apply pw_below_drewN | apply below_drew1 | refine below_set ?_ GE160.out) | exact HB.out)) hb); have n3_ := Aside0.mk (hbox); have n4_ := Aside0.mk ((by rw [hg]; exact (below_size (by repeat (first | (with_reducible first | exact HB.out | apply below_alloc | apply pw_below_drewN | apply below_drew1 | refine below_set ?_ GE160.out) | exact HB.out))) : w.heap.size ≤ gb165)); have n5_ := Aside0.mk ((by rw [hg]; exact (below_size (by repeat (first | (with_reducible first | exact HB.out | apply below_alloc | apply pw_below_drewN | apply below_drew1 | refine below_set ?_ GE160.out) | exact HB.out))) : w.heap.size ≤ gb165)); have n6_ := Aside0.mk ((by rw [hg]; exact Nat.ne_of_lt (blk_lt (g := gb160) (o := .cells #[.slice (some ad164) l0_0.length c0_0, .int .i64 a0_1, .slice A0_2 l0_2.length c0_2] 42 (0, 0)) (by (with_reducible repeat (first | refine blk_drewN ?_ _ | refine blk_drew ?_ | refine blk_alloc ?_ _)); exact BK160.out)) : gb160 ≠ gb165)); have n7_ := Aside0.mk ((by rw [hg]; exact Nat.ne_of_gt (blk_lt (g := gb160) (o := .cells #[.slice (some ad164) l0_0.length c0_0, .int .i64 a0_1, .slice A0_2 l0_2.length c0_2] 42 (0, 0)) (by (with_reducible repeat (first | refine blk_drewN ?_ _ | refine blk_drew ?_ | refine blk_alloc ?_ _)); exact BK160.out)) : gb165 ≠ gb160)); clear HO_5; clear BK160; clear HB; have HO_5 := n0_; have BK160 := n1_; have HB := n2_; have BK165 := n3_; have GW165 := n4_; have GE165 := n5_; have NB160_165 := n6_; have NB165_160 := n7_; clear n0_ n1_ n2_ n3_ n4_ n5_ n6_ n7_; clear hb hbox hg; have hnb21 := NB165_160.out; have hnc21 := NB160_165.out; have hcz22_0 : w20.cell? ⟨gb165, 0, none⟩ = some (.int .i64 0) := (blk_cell BK165.out 0).trans rfl; have hcz22_1 : w20.cell? ⟨gb165, 1, none⟩ = some (.int .i64 0) := (blk_cell BK165.out 1).trans rfl; have hcz22_2 : w20.cell? ⟨gb165, 2, none⟩ = some (.int .i64 0) := (blk_cell BK165.out 2).trans rfl; have hcz22_3 : w20.cell? ⟨gb165, 3, none⟩ = some (.bool false) := (blk_cell BK165.out 3).trans rfl; have hcz22_4 : w20.cell? ⟨gb165, 4, none⟩ = some (.int .u32 0) := (blk_cell BK165.out 4).trans rfl; have hcz22_5 : w20.cell? ⟨gb165, 5, none⟩ = some (.int .u32 0) := (blk_cell BK165.out 5).trans rfl; have hcz22_6 : w20.cell? ⟨gb165, 6, none⟩ = some (.int .u32 0) := (blk_cell BK165.out 6).trans rfl; have hfz22_0 := blk_frozen BK165.out 0; have hfz22_1 := blk_frozen BK165.out 1; have hfz22_2 := blk_frozen BK165.out 2; have hfz22_3 := blk_frozen BK165.out 3; have hfz22_4 := blk_frozen BK165.out 4; have hfz22_5 := blk_frozen BK165.out 5; have hfz22_6 := blk_frozen BK165.out 6; have hcz23_0 : w20.cell? ⟨gb160, 0, none⟩ = some (.slice (some ad164) l0_0.length c0_0) := (blk_cell BK160.out 0).trans rfl; have hcz23_1 : w20.cell? ⟨gb160, 1, none⟩ = some (.int .i64 a0_1) := (blk_cell BK160.out 1).trans rfl; have hcz23_2 : w20.cell? ⟨gb160, 2, none⟩ = some (.slice A0_2 l0_2.length c0_2) := (blk_cell BK160.out 2).trans rfl; have hfz23_0 := blk_frozen BK160.out 0; have hfz23_1 := blk_frozen BK160.out 1; have hfz23_2 := blk_frozen BK160.out 2) | ((with_reducible refine gate_callee (f := 29) rfl ?_); refine goesL_ (some 20) rfl rfl Tryd.func29 (by kernel_rfl) rfl #[.agg #[.slice (some ad164) l0_0.length c0_0, .int .i64 a0_1, .slice A0_2 l0_2.length c0_2], .int .i64 a1, .int .i64 ((rd_T77 l0_0 x12_1).f0)] rfl (by (try simp only [List.map_toArray, List.map_cons, List.map_nil]); first | done | rfl | (simp only [List.length_drop, List.length_take]; rfl)) ?_; (with_reducible refine (deadfallref12_Child.calls k1 _ _ l0_0 a0_1 _ _ l0_2 a1 ((rd_T77 l0_0 x12_1).f0) false _ ?side1 ?side2 ?side3 ?side4 A10.out).mono ?_); (case side1 => exact Kd.C_below HR0_0.out (by repeat (first | (with_reducible first | exact HB.out | apply below_alloc | apply pw_below_drewN | apply below_drew1 | refine below_set ?_ GE160.out | refine below_set ?_ GE165.out) | exact HB.out))); (case side2 => exact HC0_0.out); (case side3 => exact Kd.C_below HR0_2.out (by repeat (first | (with_reducible first | exact HB.out | apply below_alloc | apply pw_below_drewN | apply below_drew1 | refine below_set ?_ GE160.out | refine below_set ?_ GE165.out) | exact HB.out))); (case side4 => exact HC0_2.out); rintro e w24 ⟨rfl, hb⟩; refine ⟨_, rfl, ?_⟩; have n0_ := Aside0.mk (Kd.R_below (by (with_reducible repeat (first | apply Kd.R_alloc | apply Kd.R_drewN | apply Kd.R_drew)); exact (Kd.R_mono (Kd.R_far (p := ⟨gb165, 6, none⟩) (Kd.R_far (p := ⟨gb165, 5, none⟩) (Kd.R_far (p := ⟨gb165, 4, none⟩) (Kd.R_far (p := ⟨gb165, 3, none⟩) (Kd.R_far (p := ⟨gb165, 2, none⟩) (Kd.R_far (p := ⟨gb165, 1, none⟩) (Kd.R_far (p := ⟨gb165, 0, none⟩) (Kd.R_types HO_5.out BK165.out (by decide)) (fun _ hk => hk.2) (.int .i64 ((rd_T77 l0_0 x12_1).f0))) (fun _ hk => hk.2) (.int .i64 ((rd_T77 l0_0 x12_1).f1))) (fun _ hk => hk.2) (.int .i64 ((rd_T77 l0_0 x12_1).f2))) (fun _ hk => hk.2) (.bool ((rd_T77 l0_0 x12_1).f3))) (fun _ hk => hk.2) (.int .u32 ((rd_T77 l0_0 x12_1).f4))) (fun _ hk => hk.2) (.int .u32 ((rd_T77 l0_0 x12_1).f5))) (fun _ hk => hk.2) (.int .u32 ((rd_T77 l0_0 x12_1).f6))) (fun _ h_ => h_.1))) hb); have n1_ := Aside0.mk (blk_below (g := gb160) (o := .cells #[.slice (some ad164) l0_0.length c0_0, .int .i64 a0_1, .slice A0_2 l0_2.length c0_2] 42 (0, 0)) (by (with_reducible repeat (first | refine blk_drewN ?_ _ | refine blk_drew ?_ | refine blk_alloc ?_ _)); refine blk_far ?_ NB160_165.out _; (with_reducible repeat (first | refine blk_drewN ?_ _ | refine blk_drew ?_ | refine blk_alloc ?_ _)); refine blk_far ?_ NB160_165.out _; (with_reducible repeat (first | refine blk_drewN ?_ _ | refine blk_drew ?_ | refine blk_alloc ?_ _)); refine blk_far ?_ NB160_165.out _; (with_reducible repeat (first | refine blk_drewN ?_ _ | refine blk_drew ?_ | refine blk_alloc ?_ _)); refine blk_far ?_ NB160_165.out _; (with_reducible repeat (first | refine blk_drewN ?_ _ | refine blk_drew ?_ | refine blk_alloc ?_ _)); refine blk_far ?_ NB160_165.out _; (with_reducible repeat (first | refine blk_drewN ?_ _ | refine blk_drew ?_ | refine blk_alloc ?_ _)); refine blk_far ?_ NB160_165.out _; (with_reducible repeat (first | refine blk_drewN ?_ _ | refine blk_drew ?_ | refine blk_alloc ?_ _)); refine blk_far ?_ NB160_165.out _; (with_reducible repeat (first | refine blk_drewN ?_ _ | refine blk_drew ?_ | refine blk_alloc ?_ _)); exact BK160.out) hb); have n2_ := Aside0.mk (blk_below (g := gb165) (o := .cells #[.int .i64 ((rd_T77 l0_0 x12_1).f0), .int .i64 ((rd_T77 l0_0 x12_1).f1), .int .i64 ((rd_T77 l0_0 x12_1).f2), .bool ((rd_T77 l0_0 x12_1).f3), .int .u32 ((rd_T77 l0_0 x12_1).f4), .int .u32 ((rd_T77 l0_0 x12_1).f5), .int .u32 ((rd_T77 l0_0 x12_1).f6)] 77 (0, 0)) (by (with_reducible repeat (first | refine blk_drewN ?_ _ | refine blk_drew ?_ | refine blk_alloc ?_ _)); refine blk_put (cs := #[.int .i64 ((rd_T77 l0_0 x12_1).f0), .int .i64 ((rd_T77 l0_0 x12_1).f1), .int .i64 ((rd_T77 l0_0 x12_1).f2), .bool ((rd_T77 l0_0 x12_1).f3), .int .u32 ((rd_T77 l0_0 x12_1).f4), .int .u32 ((rd_T77 l0_0 x12_1).f5), .int .u32 0]) ?_ 6 _ rfl; (with_reducible repeat (first | refine blk_drewN ?_ _ | refine blk_drew ?_ | refine blk_alloc ?_ _)); refine blk_put (cs := #[.int .i64 ((rd_T77 l0_0 x12_1).f0), .int .i64 ((rd_T77 l0_0 x12_1).f1), .int .i64 ((rd_T77 l0_0 x12_1).f2), .bool ((rd_T77 l0_0 x12_1).f3), .int .u32 ((rd_T77 l0_0 x12_1).f4), .int .u32 0, .int .u32 0]) ?_ 5 _ rfl; (with_reducible repeat (first | refine blk_drewN ?_ _ | refine blk_drew ?_ | refine blk_alloc ?_ _)); refine blk_put (cs := #[.int .i64 ((rd_T77 l0_0 x12_1).f0), .int .i64 ((rd_T77 l0_0 x12_1).f1), .int .i64 ((rd_T77 l0_0 x12_1).f2), .bool ((rd_T77 l0_0 x12_1).f3), .int .u32 0, .int .u32 0, .int .u32 0]) ?_ 4 _ rfl; (with_reducible repeat (first | refine blk_drewN ?_ _ | refine blk_drew ?_ | refine blk_alloc ?_ _)); refine blk_put (cs := #[.int .i64 ((rd_T77 l0_0 x12_1).f0), .int .i64 ((rd_T77 l0_0 x12_1).f1), .int .i64 ((rd_T77 l0_0 x12_1).f2), .bool false, .int .u32 0, .int .u32 0, .int .u32 0]) ?_ 3 _ rfl; (with_reducible repeat (first | refine blk_drewN ?_ _ | refine blk_drew ?_ | refine blk_alloc ?_ _)); refine blk_put (cs := #[.int .i64 ((rd_T77 l0_0 x12_1).f0), .int .i64 ((rd_T77 l0_0 x12_1).f1), .int .i64 0, .bool false, .int .u32 0, .int .u32 0, .int .u32 0]) ?_ 2 _ rfl; (with_reducible repeat (first | refine blk_drewN ?_ _ | refine blk_drew ?_ | refine blk_alloc ?_ _)); refine blk_put (cs := #[.int .i64 ((rd_T77 l0_0 x12_1).f0), .int .i64 0, .int .i64 0, .bool false, .int .u32 0, .int .u32 0, .int .u32 0]) ?_ 1 _ rfl; (with_reducible repeat (first | refine blk_drewN ?_ _ | refine blk_drew ?_ | refine blk_alloc ?_ _)); refine blk_put (cs := #[.int .i64 0, .int .i64 0, .int .i64 0, .bool false, .int .u32 0, .int .u32 0, .int .u32 0]) ?_ 0 _ rfl; (with_reducible repeat (first | refine blk_drewN ?_ _ | refine blk_drew ?_ | refine blk_alloc ?_ _)); exact BK165.out) hb); have n3_ := Aside0.mk (below_step (by repeat (first | (with_reducible first | exact HB.out | apply below_alloc | apply pw_below_drewN | apply below_drew1 | refine below_set ?_ GE160.out | refine below_set ?_ GE165.out) | exact HB.out)) hb); clear HO_5; clear BK160; clear BK165; clear HB; have HO_5 := n0_; have BK160 := n1_; have BK165 := n2_; have HB := n3_; clear n0_ n1_ n2_ n3_; (try clear hb); (try clear hb2); (try clear hk); (try clear hi)))
              go_roundg k1
              case measure => have := HK1.out; omega
              case rel => exact ⟨(x5_1), (wrap64 (x12_1 + 1)), (by first | rfl | (simp; done) | (simp [*]; done)), H', ⟨by have := HK1.out; omega⟩, ⟨by (with_reducible repeat (first | apply Kd.R_alloc | apply Kd.R_drewN | apply Kd.R_drew)); exact HO_5.out⟩, ⟨by (with_reducible repeat (first | refine blk_drewN ?_ _ | refine blk_drew ?_ | refine blk_alloc ?_ _)); exact BK160.out⟩, ⟨by repeat (first | (with_reducible first | exact HB.out | apply below_alloc | apply pw_below_drewN | apply below_drew1 | refine below_set ?_ GE160.out | refine below_set ?_ GE165.out) | exact HB.out)⟩⟩
          · rw [if_neg c9] at H
            exact absurd H (by simp)
        · rw [if_neg c8] at H
          exact absurd H (by simp)
      · rw [if_neg c7] at H
        have c7b0 : decide (x12_1 < (l0_0.length : Int)) = false := decide_eq_false c7
        clear c7
        obtain rfl := Option.some.inj H
        go_wp2
        go_ret
        exact ⟨_, by first | rfl | (simp [errW_none, errW_some] <;> rfl) | (simp [*, errW_none, errW_some] <;> rfl), by (with_reducible repeat (first | apply Kd.R_alloc | apply Kd.R_drewN | apply Kd.R_drew)); exact HO_5.out, by repeat (first | (with_reducible first | exact HB.out | apply below_alloc | apply pw_below_drewN | apply below_drew1 | refine below_set ?_ GE160.out) | exact HB.out)⟩

/-! ### deadfallref01_Without: function 55 -/
def deadfallref01_Without.f (k : Nat) (a0 : Int) (a1 : Int) : Option (Int) := (deadfallref01_Has.f k a0 a1).bind fun t170 => (if t170 = true then ((deadfallref01_value.f k a1).bind fun t171 => (some ((IntKind.u64.wrap ((IntKind.u64.wrap (a0)) - t171)) % 4294967296))) else (some a0))
theorem deadfallref01_Without.mono : ∀ a0 a1 k, LeO (deadfallref01_Without.f k a0 a1) (deadfallref01_Without.f (k + 1) a0 a1) := by
  intro a0 a1 k
  unfold deadfallref01_Without.f
  repeat' first
      | (with_reducible exact deadfallref01_Has.mono _ _ _)
      | (with_reducible exact deadfallref01_value.mono _ _)
      | (with_reducible exact LeO.refl _)
      | (with_reducible exact LeO.none _)
      | (with_reducible refine LeO.ite ?_ ?_)
      | (with_reducible refine LeO.bind ?_ (fun _ => ?_))
      | exact deadfallref01_Has.mono _ _ _
      | exact deadfallref01_value.mono _ _
      | exact LeO.none _
      | refine LeO.ite ?_ ?_
      | refine LeO.bind ?_ (fun _ => ?_)
set_option maxHeartbeats 8000000 in
set_option maxRecDepth 100000 in
theorem deadfallref01_Without.calls (k : Nat) (a0 : Int) (a1 : Int) (r : Int) (w : World) (h : deadfallref01_Without.f k a0 a1 = some r) :
    Calls Tryd.prog 55 #[.int .u32 a0, .int .i64 a1] w fun e w' => e = .returned (.int .u32 r) ∧ Drawn0 w w' := by
  have H : ((deadfallref01_Has.f k a0 a1).bind fun t170 => (if t170 = true then ((deadfallref01_value.f k a1).bind fun t171 => (some ((IntKind.u64.wrap ((IntKind.u64.wrap (a0)) - t171)) % 4294967296))) else (some a0))) = some r := h
  clear h
  replace H := Option.bind_eq_some_iff.mp H
  obtain ⟨t170, A30, H⟩ := H
  replace H : (if t170 = true then ((deadfallref01_value.f k a1).bind fun t171 => (some ((IntKind.u64.wrap ((IntKind.u64.wrap (a0)) - t171)) % 4294967296))) else (some a0)) = some r := H
  have A3 := Aside0.mk A30
  clear A30
  by_cases c4 : t170 = true
  · subst c4
    have H1 : ((deadfallref01_value.f k a1).bind fun t171 => (some ((IntKind.u64.wrap ((IntKind.u64.wrap (a0)) - t171)) % 4294967296))) = some r := by rw [if_pos rfl] at H; exact H
    clear H
    have H := H1
    clear H1
    replace H := Option.bind_eq_some_iff.mp H
    obtain ⟨t171, A50, H⟩ := H
    replace H : (some ((IntKind.u64.wrap ((IntKind.u64.wrap (a0)) - t171)) % 4294967296)) = some r := H
    have A5 := Aside0.mk A50
    clear A50
    obtain rfl := Option.some.inj H
    go_enter Tryd.func55, Tryd.ntmps55
    go_wp2_with (first | ((with_reducible refine gate_callee (f := 56) rfl ?_); refine goesL_ (some 7) rfl rfl Tryd.func56 (by kernel_rfl) rfl #[.int .u32 a0, .int .i64 a1] rfl (by (try simp only [List.map_toArray, List.map_cons, List.map_nil]); first | done | rfl | (simp only [List.length_drop, List.length_take]; rfl)) ?_; (with_reducible refine (deadfallref01_Has.calls k a0 a1 true _ A3.out).mono ?_); rintro e w' ⟨rfl, ⟨nd, rfl⟩⟩; refine ⟨_, rfl, ?_⟩) | ((with_reducible refine gate_callee (f := 63) rfl ?_); refine goesL_ (some 13) rfl rfl Tryd.func63 (by kernel_rfl) rfl #[.int .i64 a1] rfl (by (try simp only [List.map_toArray, List.map_cons, List.map_nil]); first | done | rfl | (simp only [List.length_drop, List.length_take]; rfl)) ?_; (with_reducible refine (deadfallref01_value.calls k a1 t171 _ A5.out).mono ?_); rintro e w' ⟨rfl, ⟨nd, rfl⟩⟩; refine ⟨_, rfl, ?_⟩))
    go_ret
    exact ⟨by first | rfl | (simp; done) | (simp [*]; done), by repeat (first | exact Drawn0.refl _ | apply Drawn0.step)⟩
  · replace c4 := Bool.eq_false_iff.mpr c4
    subst c4
    have H1 : (some a0) = some r := by rw [if_neg (show ¬ (false = true) by decide)] at H; exact H
    clear H
    have H := H1
    clear H1
    obtain rfl := Option.some.inj H
    go_enter Tryd.func55, Tryd.ntmps55
    go_wp2_with (first | ((with_reducible refine gate_callee (f := 56) rfl ?_); refine goesL_ (some 7) rfl rfl Tryd.func56 (by kernel_rfl) rfl #[.int .u32 a0, .int .i64 a1] rfl (by (try simp only [List.map_toArray, List.map_cons, List.map_nil]); first | done | rfl | (simp only [List.length_drop, List.length_take]; rfl)) ?_; (with_reducible refine (deadfallref01_Has.calls k a0 a1 false _ A3.out).mono ?_); rintro e w' ⟨rfl, ⟨nd, rfl⟩⟩; refine ⟨_, rfl, ?_⟩))
    go_ret
    exact ⟨by first | rfl | (simp; done) | (simp [*]; done), by repeat (first | exact Drawn0.refl _ | apply Drawn0.step)⟩

/-! ### deadfallref01_Mild: function 53 -/
def deadfallref01_Mild.f (a0 : Int) : Option (Bool) := (deadfallref01_Name.f a0).bind fun t172 => (if t172.toList = ([67, 72, 76, 68] : List UInt8) then (some true) else (if t172.toList = ([67, 79, 78, 84] : List UInt8) then (some true) else (if t172.toList = ([85, 82, 71] : List UInt8) then (some true) else (some (t172.toList == ([87, 73, 78, 67, 72] : List UInt8))))))
set_option maxHeartbeats 8000000 in
set_option maxRecDepth 100000 in
theorem deadfallref01_Mild.calls (a0 : Int) (r : Bool) (w : World) (h : deadfallref01_Mild.f a0 = some r) :
    Calls Tryd.prog 53 #[.int .i64 a0] w fun e w' => e = .returned (.bool r) ∧ Below w.heap.size w w' := by
  have HB := Aside0.mk (Below.refl w.heap.size w)
  have H : ((deadfallref01_Name.f a0).bind fun t172 => (if t172.toList = ([67, 72, 76, 68] : List UInt8) then (some true) else (if t172.toList = ([67, 79, 78, 84] : List UInt8) then (some true) else (if t172.toList = ([85, 82, 71] : List UInt8) then (some true) else (some (t172.toList == ([87, 73, 78, 67, 72] : List UInt8))))))) = some r := h
  clear h
  replace H := Option.bind_eq_some_iff.mp H
  obtain ⟨t172, A20, H⟩ := H
  replace H : (if t172.toList = ([67, 72, 76, 68] : List UInt8) then (some true) else (if t172.toList = ([67, 79, 78, 84] : List UInt8) then (some true) else (if t172.toList = ([85, 82, 71] : List UInt8) then (some true) else (some (t172.toList == ([87, 73, 78, 67, 72] : List UInt8)))))) = some r := H
  have A2 := Aside0.mk A20
  clear A20
  by_cases c3 : t172.toList = ([67, 72, 76, 68] : List UInt8)
  · rw [if_pos c3] at H
    have c3b0 : (t172.toList == ([67, 72, 76, 68] : List UInt8)) = true := beq_iff_eq.mpr c3
    have c3b1 : (t172.toList != ([67, 72, 76, 68] : List UInt8)) = false := bne_eq_false_iff_eq.mpr c3
    clear c3
    obtain rfl := Option.some.inj H
    go_enter Tryd.func53, Tryd.ntmps53
    go_wp2_with (first | ((with_reducible refine gate_callee (f := 62) rfl ?_); refine goesL_ (some 5) rfl rfl Tryd.func62 (by kernel_rfl) rfl #[.int .i64 a0] rfl (by (try simp only [List.map_toArray, List.map_cons, List.map_nil]); first | done | rfl | (simp only [List.length_drop, List.length_take]; rfl)) ?_; (with_reducible refine (deadfallref01_Name.calls a0 t172 _ A2.out).mono ?_); rintro e w4 ⟨rfl, hb⟩; refine ⟨_, rfl, ?_⟩; have n0_ := Aside0.mk (below_step (by repeat (first | (with_reducible first | exact HB.out | apply below_alloc | apply pw_below_drewN | apply below_drew1) | exact HB.out)) hb); clear HB; have HB := n0_; clear n0_; (try clear hb); (try clear hb2); (try clear hk); (try clear hi)))
    go_ret
    exact ⟨by first | rfl | (simp [errW_none, errW_some] <;> rfl) | (simp [*, errW_none, errW_some] <;> rfl), by repeat (first | (with_reducible first | exact HB.out | apply below_alloc | apply pw_below_drewN | apply below_drew1) | exact HB.out)⟩
  · rw [if_neg c3] at H
    have c3b0 : (t172.toList == ([67, 72, 76, 68] : List UInt8)) = false := beq_eq_false_iff_ne.mpr c3
    have c3b1 : (t172.toList != ([67, 72, 76, 68] : List UInt8)) = true := bne_iff_ne.mpr c3
    by_cases c5 : t172.toList = ([67, 79, 78, 84] : List UInt8)
    · rw [if_pos c5] at H
      have c5b0 : (t172.toList == ([67, 79, 78, 84] : List UInt8)) = true := beq_iff_eq.mpr c5
      have c5b1 : (t172.toList != ([67, 79, 78, 84] : List UInt8)) = false := bne_eq_false_iff_eq.mpr c5
      clear c5
      obtain rfl := Option.some.inj H
      go_enter Tryd.func53, Tryd.ntmps53
      go_wp2_with (first | ((with_reducible refine gate_callee (f := 62) rfl ?_); refine goesL_ (some 5) rfl rfl Tryd.func62 (by kernel_rfl) rfl #[.int .i64 a0] rfl (by (try simp only [List.map_toArray, List.map_cons, List.map_nil]); first | done | rfl | (simp only [List.length_drop, List.length_take]; rfl)) ?_; (with_reducible refine (deadfallref01_Name.calls a0 t172 _ A2.out).mono ?_); rintro e w6 ⟨rfl, hb⟩; refine ⟨_, rfl, ?_⟩; have n0_ := Aside0.mk (below_step (by repeat (first | (with_reducible first | exact HB.out | apply below_alloc | apply pw_below_drewN | apply below_drew1) | exact HB.out)) hb); clear HB; have HB := n0_; clear n0_; (try clear hb); (try clear hb2); (try clear hk); (try clear hi)))
      go_ret
      exact ⟨by first | rfl | (simp [errW_none, errW_some] <;> rfl) | (simp [*, errW_none, errW_some] <;> rfl), by repeat (first | (with_reducible first | exact HB.out | apply below_alloc | apply pw_below_drewN | apply below_drew1) | exact HB.out)⟩
    · rw [if_neg c5] at H
      have c5b0 : (t172.toList == ([67, 79, 78, 84] : List UInt8)) = false := beq_eq_false_iff_ne.mpr c5
      have c5b1 : (t172.toList != ([67, 79, 78, 84] : List UInt8)) = true := bne_iff_ne.mpr c5
      by_cases c7 : t172.toList = ([85, 82, 71] : List UInt8)
      · rw [if_pos c7] at H
        have c7b0 : (t172.toList == ([85, 82, 71] : List UInt8)) = true := beq_iff_eq.mpr c7
        have c7b1 : (t172.toList != ([85, 82, 71] : List UInt8)) = false := bne_eq_false_iff_eq.mpr c7
        clear c7
        obtain rfl := Option.some.inj H
        go_enter Tryd.func53, Tryd.ntmps53
        go_wp2_with (first | ((with_reducible refine gate_callee (f := 62) rfl ?_); refine goesL_ (some 5) rfl rfl Tryd.func62 (by kernel_rfl) rfl #[.int .i64 a0] rfl (by (try simp only [List.map_toArray, List.map_cons, List.map_nil]); first | done | rfl | (simp only [List.length_drop, List.length_take]; rfl)) ?_; (with_reducible refine (deadfallref01_Name.calls a0 t172 _ A2.out).mono ?_); rintro e w8 ⟨rfl, hb⟩; refine ⟨_, rfl, ?_⟩; have n0_ := Aside0.mk (below_step (by repeat (first | (with_reducible first | exact HB.out | apply below_alloc | apply pw_below_drewN | apply below_drew1) | exact HB.out)) hb); clear HB; have HB := n0_; clear n0_; (try clear hb); (try clear hb2); (try clear hk); (try clear hi)))
        go_ret
        exact ⟨by first | rfl | (simp [errW_none, errW_some] <;> rfl) | (simp [*, errW_none, errW_some] <;> rfl), by repeat (first | (with_reducible first | exact HB.out | apply below_alloc | apply pw_below_drewN | apply below_drew1) | exact HB.out)⟩
      · rw [if_neg c7] at H
        have c7b0 : (t172.toList == ([85, 82, 71] : List UInt8)) = false := beq_eq_false_iff_ne.mpr c7
        have c7b1 : (t172.toList != ([85, 82, 71] : List UInt8)) = true := bne_iff_ne.mpr c7
        obtain rfl := Option.some.inj H
        go_enter Tryd.func53, Tryd.ntmps53
        go_wp2_with (first | ((with_reducible refine gate_callee (f := 62) rfl ?_); refine goesL_ (some 5) rfl rfl Tryd.func62 (by kernel_rfl) rfl #[.int .i64 a0] rfl (by (try simp only [List.map_toArray, List.map_cons, List.map_nil]); first | done | rfl | (simp only [List.length_drop, List.length_take]; rfl)) ?_; (with_reducible refine (deadfallref01_Name.calls a0 t172 _ A2.out).mono ?_); rintro e w9 ⟨rfl, hb⟩; refine ⟨_, rfl, ?_⟩; have n0_ := Aside0.mk (below_step (by repeat (first | (with_reducible first | exact HB.out | apply below_alloc | apply pw_below_drewN | apply below_drew1) | exact HB.out)) hb); clear HB; have HB := n0_; clear n0_; (try clear hb); (try clear hb2); (try clear hk); (try clear hi)))
        go_ret
        exact ⟨by first | rfl | (simp [errW_none, errW_some] <;> rfl) | (simp [*, errW_none, errW_some] <;> rfl), by repeat (first | (with_reducible first | exact HB.out | apply below_alloc | apply pw_below_drewN | apply below_drew1) | exact HB.out)⟩

/-- THE ONE PURE STATEMENT of deadfallref01_Mild: yours. -/
def deadfallref01_Mild.Pure : Prop := ∀ (a0 : Int), (Lit.int .i64 a0).wf = true → deadfallref01_Mild.f a0 = some true
theorem deadfallref01_Mild.walk (P : deadfallref01_Mild.Pure) (a0 : Int) (w : World) (w0 : (Lit.int .i64 a0).wf = true) :
    Calls Tryd.prog 53 #[.int .i64 a0] w fun e w' => e = .returned (.bool true) ∧ Below w.heap.size w w' := by
  have h := P a0 w0
  refine (deadfallref01_Mild.calls a0 true w h).mono ?_
  rintro e w' ⟨rfl, hd⟩
  exact ⟨rfl, hd⟩

end Go.Proofs.YtbgodajbdbgdfaaDoor.V
/- kern: the document's table beside the program's: what its questions answer: plain laws. -/
namespace Go.Proofs.YtbgodajbdbgdfaaDoor.Kern
open Go.RowKit Go.Proofs.YtbgodajbdbgdfaaDoorW.PrintWords Go.Proofs.YtbgodajbdbgdfaaDoor.V
set_option linter.unusedVariables false
set_option linter.unusedSimpArgs false
abbrev S := S77
abbrev SE := S73
theorem wr64 (x : Int) (h0 : -9223372036854775808 ≤ x) (h1 : x ≤ 9223372036854775807) : wrap64 x = x := by unfold wrap64; omega
def mkS (q : Int) (r : Pr) : S := ⟨q, r.par, r.status, r.live, (r.ign : Int), (r.ca : Int), (r.pen : Int)⟩
/-- The document's list says what the table says. -/
structure Rel (f : Tb) (L : List S) : Prop where
  asc : L.Pairwise (fun x y => x.f0 < y.f0)
  mem : ∀ x, x ∈ L ↔ ∃ q r, f q = some r ∧ x = mkS q r
  few : L.length ≤ 1000000
theorem rd_at (L : List S) (i : Nat) (h : i < L.length) : rd_T77 L (i : Int) = L[i] := by
  show L.getD (i : Int).toNat _ = _
  rw [Int.toNat_natCast, List.getD_eq_getElem?_getD, List.getElem?_eq_getElem h]
  rfl
theorem rel_at {f : Tb} {L : List S} (h : Rel f L) {q : Int} {r : Pr} (hf : f q = some r) : ∃ i, ∃ hi : i < L.length, L[i] = mkS q r := by
  have := (h.mem (mkS q r)).2 ⟨q, r, hf, rfl⟩
  obtain ⟨i, hi, e⟩ := List.getElem_of_mem this
  exact ⟨i, hi, e⟩
theorem rel_get {f : Tb} {L : List S} (h : Rel f L) (i : Nat) (hi : i < L.length) : ∃ r, f L[i].f0 = some r ∧ L[i] = mkS L[i].f0 r := by
  obtain ⟨q, r, hf, e⟩ := (h.mem L[i]).1 (List.getElem_mem hi)
  refine ⟨r, ?_, ?_⟩
  · rw [e]; exact hf
  · rw [e]; rfl
theorem rel_lt {f : Tb} {L : List S} (h : Rel f L) {i j : Nat} (hj : j < L.length) (hij : i < j) : (L[i]'(by omega)).f0 < L[j].f0 := List.pairwise_iff_getElem.1 h.asc i j (by omega) hj hij
theorem at_hit (L : List S) (pid : Int) (j : Nat) (hj : j < L.length) (hp : L[j].f0 = pid) (hl : L.length ≤ 1000000) : ∀ d i, j - i = d → i ≤ j → (∀ k (hk : k < L.length), i ≤ k → k < j → L[k].f0 ≠ pid) → Ev (fun n => deadfallref12_At.l0 n pid L (L.length : Int) (i : Int)) (j : Int) := by
  intro d
  induction d with
  | zero =>
    intro i hd hi hn
    obtain rfl : i = j := by omega
    refine Ev.step (f := fun _ => some (i : Int)) (fun k => ?_) (Ev.now _)
    show deadfallref12_At.l0 (k + 1) pid L (L.length : Int) (i : Int) = _
    rw [deadfallref12_At.l0, if_pos (by omega), if_pos (by omega), if_pos (by omega), rd_at L i hj, if_pos hp]
  | succ d ih =>
    intro i hd hi hn
    have hil : i < L.length := by omega
    refine Ev.step (fun k => ?_) (ih (i + 1) (by omega) (by omega) (fun k hk h1 h2 => hn k hk (by omega) h2))
    show deadfallref12_At.l0 (k + 1) pid L (L.length : Int) (i : Int) = _
    rw [deadfallref12_At.l0, if_pos (by omega), if_pos (by omega), if_pos (by omega), rd_at L i hil, if_neg (hn i hil (Nat.le_refl _) (by omega)), wr64 _ (by omega) (by omega)]
    rfl
theorem at_miss (L : List S) (pid : Int) (hl : L.length ≤ 1000000) (hn : ∀ k (hk : k < L.length), L[k].f0 ≠ pid) : ∀ d i, L.length - i = d → i ≤ L.length → Ev (fun n => deadfallref12_At.l0 n pid L (L.length : Int) (i : Int)) (-1) := by
  intro d
  induction d with
  | zero =>
    intro i hd hi
    refine Ev.step (f := fun _ => some (-1)) (fun k => ?_) (Ev.now _)
    show deadfallref12_At.l0 (k + 1) pid L (L.length : Int) (i : Int) = _
    rw [deadfallref12_At.l0, if_neg (by omega)]
  | succ d ih =>
    intro i hd hi
    have hil : i < L.length := by omega
    refine Ev.step (fun k => ?_) (ih (i + 1) (by omega) (by omega))
    show deadfallref12_At.l0 (k + 1) pid L (L.length : Int) (i : Int) = _
    rw [deadfallref12_At.l0, if_pos (by omega), if_pos (by omega), if_pos (by omega), rd_at L i hil, if_neg (hn i hil), wr64 _ (by omega) (by omega)]
    rfl
/-- A process's place. -/
def idx (L : List S) (pid : Int) : Int := match L.findIdx? (fun x => x.f0 == pid) with
  | some i => (i : Int)
  | none => -1
theorem at_none {f : Tb} {L : List S} (h : Rel f L) {pid : Int} (hf : f pid = none) (a : Int) (E : List SE) : Ev (fun n => deadfallref12_At.f n L a E pid) (-1) := by
  have hn : ∀ k (hk : k < L.length), L[k].f0 ≠ pid := by
    intro k hk e
    obtain ⟨r, h1, _⟩ := rel_get h k hk
    rw [e, hf] at h1
    cases h1
  exact at_miss L pid h.few hn _ 0 rfl (Nat.zero_le _)
theorem at_some {f : Tb} {L : List S} (h : Rel f L) {pid : Int} {r : Pr} (hf : f pid = some r) (a : Int) (E : List SE) : ∃ i, ∃ hi : i < L.length, L[i] = mkS pid r ∧ Ev (fun n => deadfallref12_At.f n L a E pid) (i : Int) := by
  obtain ⟨i, hi, e⟩ := rel_at h hf
  have hp : L[i].f0 = pid := by rw [e]; rfl
  refine ⟨i, hi, e, at_hit L pid i hi hp h.few _ 0 rfl (Nat.zero_le _) ?_⟩
  intro k hk _ hki ek
  have := rel_lt h hi hki
  rw [ek, hp] at this
  omega
theorem live_ev {f : Tb} {L : List S} (h : Rel f L) (pid a : Int) (E : List SE) : Ev (fun n => deadfallref12_Live.f n L a E pid) (liv f pid) := by
  cases hf : f pid with
  | none =>
    rw [show liv f pid = false by unfold liv; rw [hf]]
    refine Ev.bind (at_none h hf a E) (f := fun n t => if t ≥ 0 then (if 0 ≤ t then (if t < (L.length : Int) then (some ((rd_T77 L t).f3)) else none) else none) else (some false)) ?_
    exact Ev.congr (fun k => by show _ = some false; rw [if_neg (by omega)]) (Ev.now _)
  | some r =>
    obtain ⟨i, hi, e, hev⟩ := at_some h hf a E
    rw [show liv f pid = r.live by unfold liv; rw [hf]]
    refine Ev.bind hev (f := fun n t => if t ≥ 0 then (if 0 ≤ t then (if t < (L.length : Int) then (some ((rd_T77 L t).f3)) else none) else none) else (some false)) ?_
    refine Ev.congr (fun k => ?_) (Ev.now _)
    show _ = some r.live
    rw [if_pos (by omega), if_pos (by omega), if_pos (by omega), rd_at L i hi, e]
    rfl
theorem child_ev {f : Tb} {L : List S} (h : Rel f L) (par pid a : Int) (E : List SE) : Ev (fun n => deadfallref12_Child.f n L a E par pid) (chB f par pid) := by
  have hlv := live_ev h par a E
  cases hf : f pid with
  | none =>
    rw [show chB f par pid = false by unfold chB; rw [hf]]
    refine Ev.bind (at_none h hf a E) (f := fun n t => if t ≥ 0 then (if 0 ≤ t then (if t < (L.length : Int) then (if ((rd_T77 L t).f1) = par then ((deadfallref12_Live.f n L a E par).bind fun u => (some u)) else (some false)) else (none)) else (none)) else (some false)) ?_
    exact Ev.congr (fun k => by show _ = some false; rw [if_neg (by omega)]) (Ev.now _)
  | some r =>
    obtain ⟨i, hi, e, hev⟩ := at_some h hf a E
    rw [show chB f par pid = (r.par == par && liv f par) by unfold chB; rw [hf]]
    refine Ev.bind hev (f := fun n t => if t ≥ 0 then (if 0 ≤ t then (if t < (L.length : Int) then (if ((rd_T77 L t).f1) = par then ((deadfallref12_Live.f n L a E par).bind fun u => (some u)) else (some false)) else (none)) else (none)) else (some false)) ?_
    have hp : (rd_T77 L (i : Int)).f1 = r.par := by rw [rd_at L i hi, e]; rfl
    by_cases hpar : r.par = par
    · rw [beq_iff_eq.2 hpar, Bool.true_and]
      refine Ev.congr (fun k => ?_) (Ev.bind hlv (f := fun _ u => some u) (Ev.now _))
      rw [if_pos (by omega), if_pos (by omega), if_pos (by omega), hp, if_pos hpar]
    · rw [beq_eq_false_iff_ne.2 hpar, Bool.false_and]
      refine Ev.congr (fun k => ?_) (Ev.now _)
      show _ = some false
      rw [if_pos (by omega), if_pos (by omega), if_pos (by omega), hp, if_neg hpar]
theorem procs_at (L : List S) (hl : L.length ≤ 1000000) : ∀ d i acc, L.length - i = d → i ≤ L.length → acc.length ≤ i → Ev (fun n => deadfallref12_Procs.l0 n acc L (L.length : Int) (i : Int)) (acc ++ ((L.drop i).filter (fun x => x.f3)).map (fun x => x.f0)) := by
  intro d
  induction d with
  | zero =>
    intro i acc hd hi ha
    refine Ev.step (f := fun _ => some acc) (fun k => ?_) (by rw [List.drop_eq_nil_of_le (by omega)]; simpa using Ev.now _)
    show deadfallref12_Procs.l0 (k + 1) acc L (L.length : Int) (i : Int) = _
    rw [deadfallref12_Procs.l0, if_neg (by omega)]
  | succ d ih =>
    intro i acc hd hi ha
    have hil : i < L.length := by omega
    rw [List.drop_eq_getElem_cons hil, List.filter_cons]
    by_cases hb : L[i].f3 = true
    · rw [if_pos hb, List.map_cons, show acc ++ L[i].f0 :: ((L.drop (i + 1)).filter (fun x => x.f3)).map (fun x => x.f0) = (acc ++ [L[i].f0]) ++ ((L.drop (i + 1)).filter (fun x => x.f3)).map (fun x => x.f0) by simp]
      refine Ev.step (fun k => ?_) (ih (i + 1) (acc ++ [L[i].f0]) (by omega) (by omega) (by simp; omega))
      show deadfallref12_Procs.l0 (k + 1) acc L (L.length : Int) (i : Int) = _
      rw [deadfallref12_Procs.l0, if_pos (by omega), if_pos (by omega), if_pos (by omega), rd_at L i hil, if_pos hb, if_pos (by omega), wr64 _ (by omega) (by omega)]
      rfl
    · rw [if_neg hb]
      refine Ev.step (fun k => ?_) (ih (i + 1) acc (by omega) (by omega) (by omega))
      show deadfallref12_Procs.l0 (k + 1) acc L (L.length : Int) (i : Int) = _
      rw [deadfallref12_Procs.l0, if_pos (by omega), if_pos (by omega), if_pos (by omega), rd_at L i hil, if_neg hb, wr64 _ (by omega) (by omega)]
      rfl
theorem procs_ev (L : List S) (hl : L.length ≤ 1000000) (a : Int) (E : List SE) : Ev (fun n => deadfallref12_Procs.f n L a E) ((L.filter (fun x => x.f3)).map (fun x => x.f0)) := by
  have := procs_at L hl _ 0 [] rfl (Nat.zero_le _) (Nat.le_refl _)
  rwa [List.drop_zero, List.nil_append] at this
theorem children_at {f : Tb} {L : List S} (h : Rel f L) (par a : Int) (E : List SE) : ∀ d i acc, L.length - i = d → i ≤ L.length → acc.length ≤ i → Ev (fun n => deadfallref12_Children.l0 n par acc L (L.length : Int) (i : Int) L a E) (acc ++ ((L.drop i).filter (fun x => chB f par x.f0)).map (fun x => x.f0)) := by
  have hl := h.few
  intro d
  induction d with
  | zero =>
    intro i acc hd hi ha
    refine Ev.step (f := fun _ => some acc) (fun k => ?_) (by rw [List.drop_eq_nil_of_le (by omega)]; simpa using Ev.now _)
    show deadfallref12_Children.l0 (k + 1) par acc L (L.length : Int) (i : Int) L a E = _
    rw [deadfallref12_Children.l0, if_neg (by omega)]
  | succ d ih =>
    intro i acc hd hi ha
    have hil : i < L.length := by omega
    rw [List.drop_eq_getElem_cons hil, List.filter_cons]
    have hch := child_ev h par L[i].f0 a E
    refine Ev.step (f := fun k => (deadfallref12_Child.f k L a E par L[i].f0).bind fun t => (if t = true then (if acc.length < 17592186044416 then (deadfallref12_Children.l0 k par (acc ++ [L[i].f0]) L (L.length : Int) (((i + 1 : Nat) : Int)) L a E) else (none)) else (deadfallref12_Children.l0 k par acc L (L.length : Int) (((i + 1 : Nat) : Int)) L a E))) (fun k => ?_) ?_
    · show deadfallref12_Children.l0 (k + 1) par acc L (L.length : Int) (i : Int) L a E = _
      rw [deadfallref12_Children.l0, if_pos (by omega), if_pos (by omega), if_pos (by omega), rd_at L i hil, wr64 _ (by omega) (by omega)]
      rfl
    · refine Ev.bind hch (f := fun k t => (if t = true then (if acc.length < 17592186044416 then (deadfallref12_Children.l0 k par (acc ++ [L[i].f0]) L (L.length : Int) (((i + 1 : Nat) : Int)) L a E) else (none)) else (deadfallref12_Children.l0 k par acc L (L.length : Int) (((i + 1 : Nat) : Int)) L a E))) ?_
      by_cases hb : chB f par L[i].f0 = true
      · rw [if_pos hb, List.map_cons, show acc ++ L[i].f0 :: ((L.drop (i + 1)).filter (fun x => chB f par x.f0)).map (fun x => x.f0) = (acc ++ [L[i].f0]) ++ ((L.drop (i + 1)).filter (fun x => chB f par x.f0)).map (fun x => x.f0) by simp]
        refine Ev.congr (fun k => ?_) (ih (i + 1) (acc ++ [L[i].f0]) (by omega) (by omega) (by simp; omega))
        rw [if_pos hb, if_pos (by omega)]
      · rw [if_neg hb]
        refine Ev.congr (fun k => ?_) (ih (i + 1) acc (by omega) (by omega) (by omega))
        rw [if_neg hb]
theorem children_ev {f : Tb} {L : List S} (h : Rel f L) (par a : Int) (E : List SE) : Ev (fun n => deadfallref12_Children.f n L a E par) ((L.filter (fun x => chB f par x.f0)).map (fun x => x.f0)) := by
  have := children_at h par a E _ 0 [] rfl (Nat.zero_le _) (Nat.le_refl _)
  rwa [List.drop_zero, List.nil_append] at this
theorem sints_at (l : List Int) (hl : l.length ≤ 1000000) : ∀ d i, l.length - i = d → i ≤ l.length → Ev (fun n => deadfallref12_SameInts.l0 n l l (l.length : Int) (i : Int)) true := by
  intro d
  induction d with
  | zero =>
    intro i hd hi
    refine Ev.step (f := fun _ => some true) (fun k => ?_) (Ev.now _)
    show deadfallref12_SameInts.l0 (k + 1) l l (l.length : Int) (i : Int) = _
    rw [deadfallref12_SameInts.l0, if_neg (by omega)]
  | succ d ih =>
    intro i hd hi
    refine Ev.step (fun k => ?_) (ih (i + 1) (by omega) (by omega))
    show deadfallref12_SameInts.l0 (k + 1) l l (l.length : Int) (i : Int) = _
    rw [deadfallref12_SameInts.l0, if_pos (by omega), if_pos (by omega), if_pos (by omega), if_pos (by omega), if_pos rfl, wr64 _ (by omega) (by omega)]
    rfl
theorem sints_ev (l : List Int) (hl : l.length ≤ 1000000) : Ev (fun n => deadfallref12_SameInts.f n l l) true := by
  refine Ev.congr (fun k => ?_) (sints_at l hl _ 0 rfl (Nat.zero_le _))
  show deadfallref12_SameInts.f k l l = _
  rw [deadfallref12_SameInts.f, if_pos rfl]
  rfl
theorem sends_at (l : List SE) (hl : l.length ≤ 1000000) : ∀ d i, l.length - i = d → i ≤ l.length → Ev (fun n => deadfallref12_SameEnds.l0 n l l (l.length : Int) (i : Int)) true := by
  intro d
  induction d with
  | zero =>
    intro i hd hi
    refine Ev.step (f := fun _ => some true) (fun k => ?_) (Ev.now _)
    show deadfallref12_SameEnds.l0 (k + 1) l l (l.length : Int) (i : Int) = _
    rw [deadfallref12_SameEnds.l0, if_neg (by omega)]
  | succ d ih =>
    intro i hd hi
    refine Ev.step (fun k => ?_) (ih (i + 1) (by omega) (by omega))
    show deadfallref12_SameEnds.l0 (k + 1) l l (l.length : Int) (i : Int) = _
    rw [deadfallref12_SameEnds.l0, if_pos (by omega), if_pos (by omega), if_pos (by omega), if_pos (by omega), if_neg (by simp), wr64 _ (by omega) (by omega)]
    rfl
theorem sends_ev (l : List SE) (hl : l.length ≤ 1000000) : Ev (fun n => deadfallref12_SameEnds.f n l l) true := by
  refine Ev.congr (fun k => ?_) (sends_at l hl _ 0 rfl (Nat.zero_le _))
  show deadfallref12_SameEnds.f k l l = _
  rw [deadfallref12_SameEnds.f, if_pos rfl]
  rfl
theorem rel_live {f : Tb} {L : List S} (h : Rel f L) {x : S} (hx : x ∈ L) : liv f x.f0 = x.f3 := by
  obtain ⟨q, r, hf, rfl⟩ := (h.mem x).1 hx
  show liv f q = r.live
  unfold liv
  rw [hf]
end Go.Proofs.YtbgodajbdbgdfaaDoor.Kern
/- A region that draws its order, where two operations that make memory are ready at once: a tree of kinds. -/
namespace Go.Proofs.YtbgodajbdbgdfaaDoor.Seq
open Go.RowKit Go.Proofs.YtbgodajbdbgdfaaDoorW.PrintWords Go.Proofs.YtbgodajbdbgdfaaDoorW.PrintLast Go.Proofs.YtbgodajbdbgdfaaDoor.Base
set_option linter.unusedVariables false
inductive T where
  | fin
  | pure (i : Nat) (N : Option Tmp) (r : T)
  | held (i : Nat) (N : Option Tmp) (r : T)
  | one (i : Nat) (N : Option Tmp) (r : T)
  | two (i : Nat) (N : Option Tmp) (s : T) (j : Nat) (M : Option Tmp) (t : T)
def T.size : T → Nat
  | .fin => 0
  | .pure _ _ r => r.size + 1
  | .held _ _ r => r.size + 1
  | .one _ _ r => r.size + 1
  | .two _ _ s _ _ _ => s.size + 1
section
variable {P : Program} {ops : Array Oper} {Q : Exit → Act → World → Prop} {md : Region.Mode} {S : World → Prop}
def wpT (P : Program) (ops : Array Oper) (Q : Exit → Act → World → Prop) (S : World → Prop) : T → Act → World → Prop
  | .fin, a, w => Q .normal a w
  | .pure i N r, a, w => ∃ o v, ops[i]? = some o ∧ (∀ c a w, Q (.panic c) (a.put N v) w → Q (.panic c) a w) ∧ Yields P ops o v a ∧ wpT P ops Q S r (a.put N v) w
  | .held i N r, a, w => ∃ o v, ops[i]? = some o ∧ (∀ c a w, Q (.panic c) (a.put N v) w → Q (.panic c) a w) ∧ YieldsIf P ops S o v a ∧ S w ∧ wpT P ops Q S r (a.put N v) w
  | .one i _ r, a, w => wpOp P ops Q i (fun a' w' => (S w → S w') ∧ wpT P ops Q S r a' w') a w
  | .two i _ s j _ t, a, w => wpOp P ops Q i (fun a' w' => (S w → S w') ∧ wpT P ops Q S s a' w') a w ∧ wpOp P ops Q j (fun a' w' => (S w → S w') ∧ wpT P ops Q S t a' w') a w
def checkT (md : Region.Mode) (ops : Array Oper) : Array Bool → T → Bool
  | l, .fin => Region.ready md ops l == []
  | l, .pure i N r => anyB md ops l (l.setIfInBounds i true) i && dstB ops i N && checkT md ops (l.setIfInBounds i true) r
  | l, .held i N r => takeB md ops [] l (l.setIfInBounds i true) i && dstB ops i N && checkT md ops (l.setIfInBounds i true) r
  | l, .one i _ r => Region.ready md ops l == [i] && checkT md ops (l.setIfInBounds i true) r
  | l, .two i _ s j _ t => Region.ready md ops l == [i, j] && s.size == t.size && checkT md ops (l.setIfInBounds i true) s && checkT md ops (l.setIfInBounds j true) t
theorem tree_sound : ∀ (t : T) (l : Array Bool) (a : Act) (w : World), checkT md ops l t = true → wpT P ops Q S t a w → wpAnyLast P md ops Q S [] t.size l a w
  | .fin, l, a, w, hc, h => wpAnyLast_done (by simpa [checkT] using hc) h 0
  | .pure i N r, l, a, w, hc, h => by
    simp only [checkT, Bool.and_eq_true] at hc
    obtain ⟨o, v, ho, hQ, hy, h⟩ := h
    have hN := dst_of hc.1.2 ho
    exact pure_ (l.setIfInBounds i true) ho hN hc.1.1 (by rw [hN]; exact hQ) hy rfl (tree_sound r _ _ _ hc.2 h)
  | .held i N r, l, a, w, hc, h => by
    simp only [checkT, Bool.and_eq_true] at hc
    obtain ⟨o, v, ho, hQ, hy, hS, h⟩ := h
    have hN := dst_of hc.1.2 ho
    exact take_ (l.setIfInBounds i true) ho hN hc.1.1 (by rw [hN]; exact hQ) hy hS rfl (tree_sound r _ _ _ hc.2 h)
  | .one i _ r, l, a, w, hc, h => by
    simp only [checkT, Bool.and_eq_true, beq_iff_eq] at hc
    obtain ⟨h1, h3⟩ := hc
    refine wpAnyLast_all h1 (by simp) fun j hj => ?_
    obtain rfl : j = i := by simpa using hj
    exact wpOp_mono (fun a' w' h' => ⟨fun _ => h'.1, tree_sound r _ _ _ h3 h'.2⟩) h
  | .two i _ s j _ t, l, a, w, hc, h => by
    simp only [checkT, Bool.and_eq_true, beq_iff_eq] at hc
    obtain ⟨⟨⟨h1, h2⟩, h3⟩, h4⟩ := hc
    refine wpAnyLast_all h1 (by simp) fun q hq => ?_
    simp only [List.mem_cons, List.not_mem_nil, or_false] at hq
    rcases hq with rfl | rfl
    · exact wpOp_mono (fun a' w' h' => ⟨fun _ => h'.1, tree_sound s _ _ _ h3 h'.2⟩) h.1
    · exact wpOp_mono (fun a' w' h' => ⟨fun _ => h'.1, by rw [h2]; exact tree_sound t _ _ _ h4 h'.2⟩) h.2
/-- The region by a tree of kinds. -/
theorem region_tree {id : Nat} {a : Act} {w : World} (S : World → Prop) (t : T) (hm : P.follows .mixedOrders = true)
    (hc : (t.size == ops.size && checkT .any ops (Array.replicate ops.size false) t) = true) (h : wpT P ops Q S t a w.drew) : (Code.region id ops true).wp P Q a w := by
  rw [Bool.and_eq_true] at hc
  refine wp_region_last (S := S) (ds := []) hm ?_
  have := tree_sound (P := P) (Q := Q) (S := S) t _ _ _ hc.2 h
  rw [beq_iff_eq.1 hc.1] at this
  exact this
theorem t_fin {a : Act} {w : World} (h : wpList P ops Q [] a w) : wpT P ops Q S .fin a w := h
theorem t_two {i j : Nat} {N M : Option Tmp} {s t : T} {a : Act} {w : World} (h1 : wpT P ops Q S (.one i N s) a w) (h2 : wpT P ops Q S (.one j M t) a w) : wpT P ops Q S (.two i N s j M t) a w := ⟨h1, h2⟩
theorem t_pure {i : Nat} {N : Option Tmp} {r : T} {o : Oper} {v : Value} {a a' : Act} {w : World} (ho : ops[i]? = some o) (hQ : ∀ c a w, Q (.panic c) (a.put N v) w → Q (.panic c) a w)
    (hw : Region.wanted o (yielded ops a.tmps) = true) (hy : ∀ w, (execOp a.eval o).run P w = .ok (.value v) w) (ha : a.put N v = a') (h : wpT P ops Q S r a' w) : wpT P ops Q S (.pure i N r) a w := by
  subst ha; exact ⟨o, v, ho, hQ, .inl ⟨hw, hy⟩, h⟩
theorem t_held {i : Nat} {N : Option Tmp} {r : T} {o : Oper} {v : Value} {a a' : Act} {w : World} (hS : S w) (ho : ops[i]? = some o) (hQ : ∀ c a w, Q (.panic c) (a.put N v) w → Q (.panic c) a w)
    (hw : Region.wanted o (yielded ops a.tmps) = true) (hy : ∀ w, S w → (execOp a.eval o).run P w = .ok (.value v) w) (ha : a.put N v = a') (h : wpT P ops Q S r a' w) : wpT P ops Q S (.held i N r) a w := by
  subst ha; exact ⟨o, v, ho, hQ, .inl ⟨hw, hy⟩, hS, h⟩
theorem t_one {i : Nat} {N : Option Tmp} {r : T} {o : Oper} {a : Act} {w : World} (ho : ops[i]? = some o) (hw : Region.wanted o (yielded ops a.tmps) = true)
    (h : ∀ K : Act → World → Prop, Shut (∀ a' w', S w' → wpT P ops Q S r a' w' → K a' w') → o.wp P a w K Q) : wpT P ops Q S (.one i N r) a w := by
  unfold wpT wpOp
  simp only [ho, hw, if_true]
  exact .inl (h _ (fun a' w' hS hk => ⟨fun _ => hS, hk⟩))
theorem t_new {i : Nat} {N : Option Tmp} {r : T} {o : Oper} {v : Value} {a a' : Act} {w w1 : World} (ho : ops[i]? = some o) (hN : o.dst = N) (hw : Region.wanted o (yielded ops a.tmps) = true)
    (hrun : (execOp a.eval o).run P w = .ok (.value v) w1) (ha : a.put N v = a') (hS : S w1) (h : wpT P ops Q S r a' w1) : wpT P ops Q S (.one i N r) a w := by
  subst ha
  subst hN
  refine t_one ho hw fun K hK => ?_
  unfold Oper.wp
  rw [hrun]
  exact hK _ _ hS h
theorem t_oneL {i : Nat} {N : Option Tmp} {r : T} {o : Oper} {a : Act} {w : World} (ho : ops[i]? = some o)
    (h : ∀ K : Act → World → Prop, Shut (∀ a' w', S w' → wpT P ops Q S r a' w' → K a' w') → wpList P ops (Exit.then K Q) [o] a w) (hw : Region.wanted o (yielded ops a.tmps) = true) : wpT P ops Q S (.one i N r) a w := by
  unfold wpT wpOp
  simp only [ho, hw, if_true]
  have hK : Shut (∀ a' w', S w' → wpT P ops Q S r a' w' → (fun a' w' => (S w → S w') ∧ wpT P ops Q S r a' w') a' w') := fun a' w' hS hk => ⟨fun _ => hS, hk⟩
  have h1 := h _ hK
  unfold wpList at h1
  simp only [hw, if_true] at h1
  exact h1
end
theorem s_offOne {P : Program} {ops : Array Oper} {Q : Exit → Act → World → Prop} {S : World → Prop} {i : Nat} {N : Option Tmp} {r : List (Nat × Option Tmp × K)} {o : Oper} {a a' : Act} {w : World} (ho : ops[i]? = some o) (hN : o.dst = N)
    (hw : Region.wanted o (yielded ops a.tmps) = false) (ha : a.put N undef = a') (h : wpSeq P ops Q S r a' w) : wpSeq P ops Q S ((i, N, .one) :: r) a w := by
  subst ha
  subst hN
  unfold wpSeq wpOp
  simp only [ho, hw, Bool.false_eq_true, if_false]
  exact ⟨id, h⟩
end Go.Proofs.YtbgodajbdbgdfaaDoor.Seq
/- kern: the document's questions: their contracts at a table and its list. -/
namespace Go.Proofs.YtbgodajbdbgdfaaDoor.Kern
open Go.RowKit Go.Proofs.YtbgodajbdbgdfaaDoorW.PrintWords Go.Proofs.YtbgodajbdbgdfaaDoorW.PrintLast Go.Proofs.YtbgodajbdbgdfaaDoor.Sig Go.Proofs.YtbgodajbdbgdfaaDoor.Base Go.Proofs.YtbgodajbdbgdfaaDoor.Seq Go.Proofs.YtbgodajbdbgdfaaDoor.V Go.Maps
set_option linter.unusedVariables false
set_option linter.unusedSimpArgs false
/-- The document's table, in memory. -/
structure RT (w : World) (A : Option Addr) (n c : Nat) (L : List S) (E : Option Addr) (m d : Nat) (es : List SE) : Prop where
  row : Kd.C k77 w A n L
  cap : n ≤ c
  erow : Kd.C k73 w E m es
  ecap : m ≤ d
theorem RT.below {w w' : World} {A E : Option Addr} {n c m d : Nat} {L : List S} {es : List SE} (h : RT w A n c L E m d es) (hb : Below w.heap.size w w') : RT w' A n c L E m d es :=
  ⟨Kd.C_below h.row hb, h.cap, Kd.C_below h.erow hb, h.ecap⟩
section
variable {w : World} {A E : Option Addr} {n c m d : Nat} {f : Tb} {L : List S} {es : List SE}
theorem rat_some (h : Rel f L) {pid : Int} {r : Pr} (hf : f pid = some r) : ∃ i, ∃ hi : i < L.length, L[i] = mkS pid r ∧ ∀ (w : World) (A E : Option Addr) (n c m d : Nat) (es : List SE) (last : Int), RT w A n c L E m d es →
    Calls Tryd.prog 47 #[.agg #[.slice A n c, .int .i64 last, .slice E m d], .int .i64 pid] w fun e w' => e = .returned (.int .i64 (i : Int)) ∧ Below w.heap.size w w' := by
  obtain ⟨i, hi, e, _⟩ := at_some h hf 0 []
  refine ⟨i, hi, e, ?_⟩
  intro w A E n c m d es last hr
  obtain ⟨j, hj, e2, hev⟩ := at_some h hf last es
  obtain rfl : i = j := by
    rcases Nat.lt_trichotomy i j with hij | hij | hij
    · have := rel_lt h hj hij
      rw [e, e2] at this
      exact absurd this (Int.lt_irrefl _)
    · exact hij
    · have := rel_lt h hi hij
      rw [e, e2] at this
      exact absurd this (Int.lt_irrefl _)
  obtain rfl := hr.row.1
  obtain rfl := hr.erow.1
  obtain ⟨k, hk⟩ := hev
  exact deadfallref12_At.calls k A c L last E d es pid _ w hr.row hr.cap hr.erow hr.ecap (hk k (Nat.le_refl _))
theorem rlive_any (h : Rel f L) (hr : RT w A n c L E m d es) (last pid : Int) :
    Calls Tryd.prog 25 #[.agg #[.slice A n c, .int .i64 last, .slice E m d], .int .i64 pid] w fun e w' => e = .returned (.bool (liv f pid)) ∧ Below w.heap.size w w' := by
  obtain rfl := hr.row.1
  obtain rfl := hr.erow.1
  obtain ⟨k, hk⟩ := live_ev h pid last es
  exact deadfallref12_Live.calls k A c L last E d es pid _ w hr.row hr.cap hr.erow hr.ecap (hk k (Nat.le_refl _))
theorem rchild_any (h : Rel f L) (hr : RT w A n c L E m d es) (last par pid : Int) :
    Calls Tryd.prog 29 #[.agg #[.slice A n c, .int .i64 last, .slice E m d], .int .i64 par, .int .i64 pid] w fun e w' => e = .returned (.bool (chB f par pid)) ∧ Below w.heap.size w w' := by
  obtain rfl := hr.row.1
  obtain rfl := hr.erow.1
  obtain ⟨k, hk⟩ := child_ev h par pid last es
  exact deadfallref12_Child.calls k A c L last E d es par pid _ w hr.row hr.cap hr.erow hr.ecap (hk k (Nat.le_refl _))
/-- A row of numbers that is handed back. -/
def NumOut (w w' : World) (e : Ending) (l : List Int) : Prop := ∃ (B : Option Addr) (k q : Nat), e = .returned (.slice B k q) ∧ (Kd.int .i64).C w' B k l ∧ k ≤ q ∧ Below w.heap.size w w'
theorem numOut {w w' : World} {e : Ending} {l : List Int} (h : ∃ v : Value, e = .returned v ∧ Kd.R (Kd.int .i64) 3 w' w.heap.size (fun _ => True) v l ∧ Below w.heap.size w w') : NumOut w w' e l := by
  obtain ⟨v, rfl, hR, hB⟩ := h
  obtain ⟨B, q, rfl⟩ := Kd.R_slice hR
  obtain ⟨_, h2, h3⟩ := Kd.R_reads' hR
  exact ⟨B, _, q, rfl, h3, h2, hB⟩
theorem rprocs_any (h : Rel f L) (hr : RT w A n c L E m d es) (last : Int) :
    Calls Tryd.prog 44 #[.agg #[.slice A n c, .int .i64 last, .slice E m d]] w fun e w' => NumOut w w' e ((L.filter (fun x => x.f3)).map (fun x => x.f0)) := by
  obtain rfl := hr.row.1
  obtain rfl := hr.erow.1
  obtain ⟨k, hk⟩ := procs_ev L h.few last es
  exact (deadfallref12_Procs.calls k A c L last E d es _ w hr.row hr.cap hr.erow hr.ecap (hk k (Nat.le_refl _))).mono fun e w' q => numOut q
theorem rchildren_any (h : Rel f L) (hr : RT w A n c L E m d es) (last par : Int) :
    Calls Tryd.prog 46 #[.agg #[.slice A n c, .int .i64 last, .slice E m d], .int .i64 par] w fun e w' => NumOut w w' e ((L.filter (fun x => chB f par x.f0)).map (fun x => x.f0)) := by
  obtain rfl := hr.row.1
  obtain rfl := hr.erow.1
  obtain ⟨k, hk⟩ := children_ev h par last es
  exact (deadfallref12_Children.calls k A c L last E d es par _ w hr.row hr.cap hr.erow hr.ecap (hk k (Nat.le_refl _))).mono fun e w' q => numOut q
/-- The cells of a process of the list. -/
theorem at_S (h : Kd.C k77 w A n L) (i : Nat) (hi : i < L.length) {q : Int} {r : Pr} (e : L[i] = mkS q r) : ∃ ad, A = some ad ∧ w.cell? (ad.add (i * 7)) = some (.int .i64 q) ∧ w.cell? ⟨(ad.add (i * 7)).block, (ad.add (i * 7)).off + 1, none⟩ = some (.int .i64 r.par) ∧ w.cell? ⟨(ad.add (i * 7)).block, (ad.add (i * 7)).off + 2, none⟩ = some (.int .i64 r.status) ∧ w.cell? ⟨(ad.add (i * 7)).block, (ad.add (i * 7)).off + 3, none⟩ = some (.bool r.live) ∧ w.cell? ⟨(ad.add (i * 7)).block, (ad.add (i * 7)).off + 4, none⟩ = some (.int .u32 (r.ign : Int)) ∧ w.cell? ⟨(ad.add (i * 7)).block, (ad.add (i * 7)).off + 5, none⟩ = some (.int .u32 (r.ca : Int)) ∧ w.cell? ⟨(ad.add (i * 7)).block, (ad.add (i * 7)).off + 6, none⟩ = some (.int .u32 (r.pen : Int)) := by
  obtain ⟨ad, e1, k0, k1, k2, k3, k4, k5, k6⟩ := at_T77 h (i : Int) (by omega) (by have := h.1; omega)
  rw [Int.toNat_natCast, rd_at L i hi, e] at k0 k1 k2 k3 k4 k5 k6
  exact ⟨ad, e1, k0, k1, k2, k3, k4, k5, k6⟩
set_option maxHeartbeats 4000000 in
set_option maxRecDepth 100000 in
theorem rpend_any (h : Rel f L) (hr : RT w A n c L E m d es) (last pid : Int) :
    Calls Tryd.prog 31 #[.agg #[.slice A n c, .int .i64 last, .slice E m d], .int .i64 pid] w fun e w' => e = .returned (.int .u32 (pend f pid : Nat)) ∧ Below w.heap.size w w' := by
  have hB1 := below_alloc (Below.refl w.heap.size w) (.cells #[.slice A n c, .int .i64 last, .slice E m d] 42)
  have HG := Aside0.mk (blk_new w (.cells #[.slice A n c, .int .i64 last, .slice E m d] 42))
  have HR := Aside0.mk (hr.below hB1)
  have HB := Aside0.mk hB1
  have HH := Aside0.mk h
  clear h hr hB1
  cases hl : liv f pid with
  | false =>
    rw [pend_off hl]
    have HL := Aside0.mk hl
    clear hl
    go_enter Tryd.func31, Tryd.ntmps31
    go_upto_region 1 with (fail)
    generalize w.alloc (.cells #[.slice A n c, .int .i64 last, .slice E m d] 42) = w1 at *
    have b0 : w1.cell? ⟨w.heap.size, 0, none⟩ = some (.slice A n c) := (blk_cell HG.out 0).trans rfl
    have b1 : w1.cell? ⟨w.heap.size, 1, none⟩ = some (.int .i64 last) := (blk_cell HG.out 1).trans rfl
    have b2 : w1.cell? ⟨w.heap.size, 2, none⟩ = some (.slice E m d) := (blk_cell HG.out 2).trans rfl
    go_wp2_with (go_at_call 25; (with_reducible refine (rlive_any HH.out HR.out last pid).mono ?_); rintro e w2 ⟨rfl, hB⟩; rw [HL.out]; have HB2 := Aside0.mk (HB.out.trans (hB.mono HB.out.size)); clear hB)
    go_ret
    exact ⟨rfl, HB2.out⟩
  | true =>
    obtain ⟨r, hf, hlv⟩ := liv_true hl
    rw [show pend f pid = r.pen by unfold pend; rw [hf]; exact if_pos hlv]
    obtain ⟨i, hi, e, hat⟩ := rat_some HH.out hf
    obtain ⟨ad, rfl, k0, k1, k2, k3, k4, k5, k6⟩ := at_S HR.out.row i hi e
    have HL := Aside0.mk hl
    have HAT := Aside0.mk hat
    have HK := Aside0.mk k6
    have hin : i < n := by have := HR.out.row.1; omega
    have hi0 : (0 : Int) ≤ (i : Int) := by omega
    have hi1 : (i : Int) < (n : Int) := by omega
    clear hl hat k0 k1 k2 k3 k4 k5 k6 e hi hf hlv
    go_enter Tryd.func31, Tryd.ntmps31
    go_upto_region 1 with (fail)
    generalize w.alloc (.cells #[.slice (some ad) n c, .int .i64 last, .slice E m d] 42) = w1 at *
    have b0 : w1.cell? ⟨w.heap.size, 0, none⟩ = some (.slice (some ad) n c) := (blk_cell HG.out 0).trans rfl
    have b1 : w1.cell? ⟨w.heap.size, 1, none⟩ = some (.int .i64 last) := (blk_cell HG.out 1).trans rfl
    have b2 : w1.cell? ⟨w.heap.size, 2, none⟩ = some (.slice E m d) := (blk_cell HG.out 2).trans rfl
    go_upto_region 3 with (go_at_call 25; (with_reducible refine (rlive_any HH.out HR.out last pid).mono ?_); rintro e w2 ⟨rfl, hB⟩; rw [HL.out]; have HB2 := Aside0.mk (HB.out.trans (hB.mono HB.out.size)); have HR2 := Aside0.mk (HR.out.below hB); have HG2 := Aside0.mk (blk_below HG.out hB); have k6 := pw_cell_below hB HK.out; clear hB b0 b1 b2)
    have b0 : w2.cell? ⟨w.heap.size, 0, none⟩ = some (.slice (some ad) n c) := (blk_cell HG2.out 0).trans rfl
    have b1 : w2.cell? ⟨w.heap.size, 1, none⟩ = some (.int .i64 last) := (blk_cell HG2.out 1).trans rfl
    have b2 : w2.cell? ⟨w.heap.size, 2, none⟩ = some (.slice E m d) := (blk_cell HG2.out 2).trans rfl
    refine region_seq (fun w_ => Below w2.heap.size w2 w_) []
      [(0, some 9, .pure), (3, some 12, .pure), (1, some 10, .held), (2, some 11, .held), (4, some 13, .one), (5, some 14, .pure), (6, some 15, .pure), (7, some 16, .held), (8, some 4, .pure)] (by kernel_rfl) (by kernel_rfl) ?_
    have hS := below_drew (Below.refl w2.heap.size w2)
    repeat (first
      | (refine s_pure (v := ?_) (a' := ?_) rfl (fun _ _ _ h => h) rfl ?hy ?ha ?_; (case hy => (intro w_; go_simp; with_reducible rfl)); (case ha => (simp only [Act.put, List.setIfInBounds_toArray, List.set_cons_zero, List.set_cons_succ, i64_w, i32_w]; rfl)))
      | (refine s_held (v := ?_) (a' := ?_) hS rfl (fun _ _ _ h => h) rfl ?hy ?ha ?_; (case hy => (intro w_ hb_; have s0 := pw_cell_below hb_ b0; have s1 := pw_cell_below hb_ b1; have s2 := pw_cell_below hb_ b2; go_simp; with_reducible rfl)); (case ha => (simp only [Act.put, List.setIfInBounds_toArray, List.set_cons_zero, List.set_cons_succ, i64_w, i32_w]; rfl))))
    refine s_oneL rfl (fun K hK => ?_) rfl
    go_wp2_with (go_at_call 47; (with_reducible refine (HAT.out _ (some ad) E n c m d es last (HR2.out.below hS)).mono ?_); rintro e w3 ⟨rfl, hB⟩)
    have hS2 : Below w2.heap.size w2 w3 := hS.trans (below_sub hB hS.size)
    clear hB
    replace hS := hS2
    clear hS2
    refine hK _ _ hS ?_
    clear hK b0 b1 b2
    repeat (first
      | (refine s_pure (v := ?_) (a' := ?_) rfl (fun _ _ _ h => h) rfl ?hy ?ha ?_; (case hy => (intro w_; go_simp; with_reducible rfl)); (case ha => (simp only [Act.put, List.setIfInBounds_toArray, List.set_cons_zero, List.set_cons_succ, i64_w, i32_w]; rfl)))
      | (refine s_held (v := ?_) (a' := ?_) hS rfl (fun _ _ _ h => h) rfl ?hy ?ha ?_; (case hy => (intro w_ hb_; have s0 := pw_cell_below hb_ k6; go_simp; with_reducible rfl)); (case ha => (simp only [Act.put, List.setIfInBounds_toArray, List.set_cons_zero, List.set_cons_succ, i64_w, i32_w]; rfl))))
    refine s_tailL _ (by kernel_rfl) ?_
    simp only [opsAt, List.filterMap_nil]
    have HB3 := Aside0.mk (HB2.out.trans (hS.mono HB2.out.size))
    clear hS k6
    go_wp2
    go_ret
    exact ⟨rfl, HB3.out⟩
end
end Go.Proofs.YtbgodajbdbgdfaaDoor.Kern
/- sig: the document's sets are the program's: plain laws, and the contracts. -/
namespace Go.Proofs.YtbgodajbdbgdfaaDoor.Kern
open Go.RowKit Go.Proofs.YtbgodajbdbgdfaaDoorW.PrintWords Go.Proofs.YtbgodajbdbgdfaaDoorW.PrintLast Go.Proofs.YtbgodajbdbgdfaaDoor.Sig Go.Proofs.YtbgodajbdbgdfaaDoor.Base Go.Proofs.YtbgodajbdbgdfaaDoor.V
set_option linter.unusedVariables false
set_option linter.unusedSimpArgs false
theorem ev_mono {α : Type} {g : Nat → Option α} {r : α} (hm : ∀ k, LeO (g k) (g (k + 1))) (K : Nat) (h : g K = some r) : Ev g r := by
  refine ⟨K, fun k hk => ?_⟩
  induction hk with
  | refl => exact h
  | step _ ih => exact hm _ _ ih
theorem value_ev (s : Int) (h : isg s = true) : Ev (fun n => deadfallref01_value.f n s) (((2 ^ s.toNat : Nat)) : Int) := by
  have hs := isg_iff.1 h
  refine ev_mono (fun k => deadfallref01_value.mono s k) 40 ?_
  have key : ∀ i : Fin 32, deadfallref01_value.f 40 ((i.val : Nat) : Int) = some (((2 ^ i.val : Nat)) : Int) := by decide +kernel
  have := key ⟨s.toNat, by omega⟩
  rwa [show ((s.toNat : Nat) : Int) = s by omega] at this
theorem is_f (s : Int) : deadfallref01_Is.f s = some (isg s) := by
  unfold deadfallref01_Is.f isg
  by_cases h0 : s ≥ 1
  · rw [if_pos h0, decide_eq_true (show 0 < s by omega), Bool.true_and]
    congr 1
    rw [Bool.eq_iff_iff, decide_eq_true_eq, decide_eq_true_eq]; omega
  · rw [if_neg h0, decide_eq_false (show ¬ 0 < s by omega), Bool.false_and]
theorem u64_id (x : Nat) (h : x < 18446744073709551616) : IntKind.u64.wrap (x : Int) = (x : Int) := by
  show (x : Int) % 18446744073709551616 = x
  omega
theorem has_ev (x : Nat) (hx : x < 4294967296) (s : Int) : Ev (fun n => deadfallref01_Has.f n (x : Int) s) (hs x s) := by
  cases hg : isg s with
  | false =>
    refine Ev.congr (fun k => ?_) (Ev.now _)
    show deadfallref01_Has.f k (x : Int) s = some (hs x s)
    rw [deadfallref01_Has.f, is_f, hg, Option.bind_some]
    unfold hs
    rw [hg]
    rfl
  | true =>
    have hv := value_ev s hg
    have h32 := pow_lt32 (n := s.toNat) (by have := isg_iff.1 hg; omega)
    have hp : 0 < 2 ^ s.toNat := Nat.pow_pos (by decide)
    have hsx : hs x s = decide (x / 2 ^ s.toNat % 2 = 1) := by
      unfold hs
      rw [hg, Bool.true_and, Nat.testBit_eq_decide_div_mod_eq]
    rw [hsx]
    refine Ev.congr (fun k => ?_) (Ev.bind hv (f := fun k t => if t = 0 then none else (some ((Int.tmod (IntKind.u64.wrap (Int.tdiv (IntKind.u64.wrap (x : Int)) t)) 2) == 1))) ?_)
    · show deadfallref01_Has.f k (x : Int) s = _
      rw [deadfallref01_Has.f, is_f, hg, Option.bind_some, if_pos rfl]
    · generalize 2 ^ s.toNat = v at *
      refine Ev.congr (fun k => ?_) (Ev.now _)
      show _ = some (decide (x / v % 2 = 1))
      rw [if_neg (by omega), u64_id x (by omega)]
      have hd : Int.tdiv (x : Int) (v : Int) = ((x / v : Nat) : Int) := by rw [Int.tdiv_eq_ediv_of_nonneg (by omega)]; rfl
      have hle : x / v ≤ x := Nat.div_le_self _ _
      rw [hd, u64_id _ (by omega)]
      generalize x / v = y at *
      have hm : Int.tmod (y : Int) 2 = ((y % 2 : Nat) : Int) := by rw [Int.tmod_eq_emod_of_nonneg (by omega)]; omega
      rw [hm]
      congr 1
      rw [Bool.eq_iff_iff, beq_iff_eq, decide_eq_true_eq]
      omega
theorem split_off (x i : Nat) (h : x.testBit i = false) : ∃ q r, x = 2 ^ (i + 1) * q + r ∧ r < 2 ^ i := by
  rw [Nat.testBit_eq_decide_div_mod_eq, decide_eq_false_iff_not] at h
  refine ⟨x / 2 ^ i / 2, x % 2 ^ i, ?_, Nat.mod_lt _ (Nat.pow_pos (by decide))⟩
  have h1 := Nat.div_add_mod x (2 ^ i)
  have h2 : x / 2 ^ i = 2 * (x / 2 ^ i / 2) := by omega
  rw [Nat.pow_succ, Nat.mul_assoc, ← h2]
  exact h1.symm
theorem or_add (x i : Nat) (h : x.testBit i = false) : x ||| 2 ^ i = x + 2 ^ i := by
  obtain ⟨q, r, rfl, hr⟩ := split_off x i h
  have hr1 : r < 2 ^ (i + 1) := by rw [Nat.pow_succ]; omega
  have e1 := Nat.two_pow_add_eq_or_of_lt hr 1
  rw [Nat.mul_one] at e1
  have e2 := Nat.two_pow_add_eq_or_of_lt hr1 q
  have e3 := Nat.two_pow_add_eq_or_of_lt (b := 2 ^ i + r) (i := i + 1) (by rw [Nat.pow_succ]; omega) q
  rw [e2, Nat.or_assoc, Nat.or_comm r, ← e1, ← e3, ← e2]
  omega
theorem with_ev (x : Nat) (hx : x < 4294967296) (s : Int) : Ev (fun n => deadfallref01_With.f n (x : Int) s) ((wth x s : Nat) : Int) := by
  cases hg : isg s with
  | false =>
    refine Ev.congr (fun k => ?_) (Ev.now _)
    show deadfallref01_With.f k (x : Int) s = some ((wth x s : Nat) : Int)
    rw [deadfallref01_With.f, is_f, hg, Option.bind_some]
    unfold wth
    rw [hg]
    rfl
  | true =>
    have hlt := wth_lt s hx
    refine Ev.congr (fun k => ?_) (Ev.bind (has_ev x hx s) (f := fun k t => if t = true then some (x : Int) else ((deadfallref01_value.f k s).bind fun u => (some ((IntKind.u64.wrap ((IntKind.u64.wrap (x : Int)) + u)) % 4294967296)))) ?_)
    · show deadfallref01_With.f k (x : Int) s = _
      rw [deadfallref01_With.f, is_f, hg, Option.bind_some, if_pos rfl]
    · have hbit : hs x s = x.testBit s.toNat := by unfold hs; rw [hg, Bool.true_and]
      have hw : wth x s = x ||| 2 ^ s.toNat := by unfold wth; rw [if_pos hg]
      cases hb : x.testBit s.toNat with
      | true =>
        have hxx : wth x s = x := by
          rw [hw]
          refine Nat.eq_of_testBit_eq fun j => ?_
          rw [Nat.testBit_or, Nat.testBit_two_pow]
          by_cases hj : s.toNat = j
          · subst hj; rw [hb]; rfl
          · rw [decide_eq_false hj, Bool.or_false]
        rw [hxx, hbit, hb]
        exact Ev.congr (fun k => by show _ = some (x : Int); rw [if_pos rfl]) (Ev.now _)
      | false =>
        rw [hbit, hb]
        have hadd := or_add x s.toNat hb
        rw [hw, hadd] at hlt
        rw [hw, hadd]
        refine Ev.congr (fun k => ?_) (Ev.bind (value_ev s hg) (f := fun k u => some ((IntKind.u64.wrap ((IntKind.u64.wrap (x : Int)) + u)) % 4294967296)) ?_)
        · rw [if_neg (by decide)]
        · generalize 2 ^ s.toNat = v at *
          refine Ev.congr (fun k => ?_) (Ev.now _)
          show _ = some ((x + v : Nat) : Int)
          rw [u64_id x (by omega), show (x : Int) + (v : Int) = ((x + v : Nat) : Int) by omega, u64_id _ (by omega)]
          congr 1
          omega
theorem wto_sub (x : Nat) (s : Int) (hg : isg s = true) (hb : x.testBit s.toNat = true) (hx : x < 4294967296) : wto x s + 2 ^ s.toNat = x := by
  have hs := isg_iff.1 hg
  have hoff : (wto x s).testBit s.toNat = false := by
    unfold wto
    rw [if_pos hg, Nat.testBit_and]
    have key : ∀ i : Fin 32, Nat.testBit (4294967295 - 2 ^ i.val) i.val = false := by decide +kernel
    have := key ⟨s.toNat, by omega⟩
    rw [show Nat.testBit (4294967295 - 2 ^ s.toNat) s.toNat = false from this, Bool.and_false]
  rw [← or_add _ _ hoff]
  refine Nat.eq_of_testBit_eq fun j => ?_
  unfold wto
  rw [if_pos hg, Nat.testBit_or, Nat.testBit_and, Nat.testBit_two_pow]
  by_cases hj : s.toNat = j
  · subst hj; rw [hb, decide_eq_true rfl, Bool.or_true]
  · rw [decide_eq_false hj, Bool.or_false]
    by_cases hj2 : j < 32
    · have key : ∀ i k : Fin 32, i ≠ k → Nat.testBit (4294967295 - 2 ^ i.val) k.val = true := by decide +kernel
      have := key ⟨s.toNat, by omega⟩ ⟨j, hj2⟩ (fun e => hj (congrArg Fin.val e))
      rw [show Nat.testBit (4294967295 - 2 ^ s.toNat) j = true from this, Bool.and_true]
    · rw [Nat.testBit_lt_two_pow (Nat.lt_of_lt_of_le hx (show (4294967296 : Nat) ≤ 2 ^ j from Nat.le_trans (by decide) (Nat.pow_le_pow_right (by decide) (show 32 ≤ j by omega)))), Bool.false_and]
theorem without_ev (x : Nat) (hx : x < 4294967296) (s : Int) : Ev (fun n => deadfallref01_Without.f n (x : Int) s) ((wto x s : Nat) : Int) := by
  refine Ev.bind (has_ev x hx s) (f := fun k t => if t = true then ((deadfallref01_value.f k s).bind fun u => (some ((IntKind.u64.wrap ((IntKind.u64.wrap (x : Int)) - u)) % 4294967296))) else some (x : Int)) ?_
  cases hh : hs x s with
  | false =>
    have hxx : wto x s = x := by
      cases hg : isg s with
      | false => unfold wto; rw [hg]; rfl
      | true =>
        have hb : x.testBit s.toNat = false := by
          unfold hs at hh
          rwa [hg, Bool.true_and] at hh
        have hsr := isg_iff.1 hg
        refine Nat.eq_of_testBit_eq fun j => ?_
        unfold wto
        rw [if_pos hg, Nat.testBit_and]
        by_cases hj : s.toNat = j
        · subst hj; rw [hb, Bool.false_and]
        · by_cases hj2 : j < 32
          · have key : ∀ i k : Fin 32, i ≠ k → Nat.testBit (4294967295 - 2 ^ i.val) k.val = true := by decide +kernel
            have := key ⟨s.toNat, by omega⟩ ⟨j, hj2⟩ (fun e => hj (congrArg Fin.val e))
            rw [show Nat.testBit (4294967295 - 2 ^ s.toNat) j = true from this, Bool.and_true]
          · rw [Nat.testBit_lt_two_pow (Nat.lt_of_lt_of_le hx (show (4294967296 : Nat) ≤ 2 ^ j from Nat.le_trans (by decide) (Nat.pow_le_pow_right (by decide) (show 32 ≤ j by omega)))), Bool.false_and]
    rw [hxx]
    exact Ev.congr (fun k => by show _ = some (x : Int); rw [if_neg (by decide)]) (Ev.now _)
  | true =>
    unfold hs at hh
    rw [Bool.and_eq_true] at hh
    have hsub := wto_sub x s hh.1 hh.2 hx
    refine Ev.congr (fun k => ?_) (Ev.bind (value_ev s hh.1) (f := fun k u => some ((IntKind.u64.wrap ((IntKind.u64.wrap (x : Int)) - u)) % 4294967296)) ?_)
    · rw [if_pos rfl]
    · generalize 2 ^ s.toNat = v at *
      generalize wto x s = y at *
      refine Ev.congr (fun k => ?_) (Ev.now _)
      show _ = some (y : Int)
      rw [u64_id x (by omega), show (x : Int) - (v : Int) = (y : Int) by omega, u64_id _ (by omega)]
      congr 1
      omega
theorem rhas_any (x : Nat) (hx : x < 4294967296) (s : Int) (w : World) : Calls Tryd.prog 56 #[.int .u32 (x : Int), .int .i64 s] w fun e w' => e = .returned (.bool (hs x s)) ∧ Below w.heap.size w w' := by
  obtain ⟨k, hk⟩ := has_ev x hx s
  exact (deadfallref01_Has.calls k _ s _ w (hk k (Nat.le_refl _))).mono fun e w' h => ⟨h.1, h.2.below⟩
theorem rwith_any (x : Nat) (hx : x < 4294967296) (s : Int) (w : World) : Calls Tryd.prog 41 #[.int .u32 (x : Int), .int .i64 s] w fun e w' => e = .returned (.int .u32 (wth x s : Nat)) ∧ Below w.heap.size w w' := by
  obtain ⟨k, hk⟩ := with_ev x hx s
  exact (deadfallref01_With.calls k _ s _ w (hk k (Nat.le_refl _))).mono fun e w' h => ⟨h.1, h.2.below⟩
theorem rwithout_any (x : Nat) (hx : x < 4294967296) (s : Int) (w : World) : Calls Tryd.prog 55 #[.int .u32 (x : Int), .int .i64 s] w fun e w' => e = .returned (.int .u32 (wto x s : Nat)) ∧ Below w.heap.size w w' := by
  obtain ⟨k, hk⟩ := without_ev x hx s
  exact (deadfallref01_Without.calls k _ s _ w (hk k (Nat.le_refl _))).mono fun e w' h => ⟨h.1, h.2.below⟩
theorem name_off {s : Int} (h : isg s = false) : deadfallref01_Name.f s = some ⟨#[]⟩ := by
  unfold deadfallref01_Name.f
  rw [is_f, h, Option.bind_some]
  rfl
theorem fx_off {s : Int} (h : isg s = false) : fx s = false := by
  cases hf : fx s with
  | false => rfl
  | true => rw [(fx_isg hf).1] at h; cases h
theorem md_off {s : Int} (h : isg s = false) : md s = false := by
  unfold md
  have : ¬ (0 < s ∧ s < 32) := fun h2 => by rw [isg_iff.2 h2] at h; cases h
  rw [beq_eq_false_iff_ne.2 (show s ≠ 17 by omega), beq_eq_false_iff_ne.2 (show s ≠ 18 by omega), beq_eq_false_iff_ne.2 (show s ≠ 23 by omega), beq_eq_false_iff_ne.2 (show s ≠ 28 by omega)]
  rfl
theorem rfx_f (s : Int) : deadfallref01_Fixed.f s = some (fx s) := by
  cases hg : isg s with
  | false =>
    rw [deadfallref01_Fixed.f, name_off hg, fx_off hg]
    decide +kernel
  | true =>
    have hs := isg_iff.1 hg
    have key : ∀ i : Fin 31, deadfallref01_Fixed.f ((i.val + 1 : Nat) : Int) = some (fx ((i.val + 1 : Nat) : Int)) := by decide +kernel
    have := key ⟨s.toNat - 1, by omega⟩
    rwa [show ((s.toNat - 1 + 1 : Nat) : Int) = s by omega] at this
theorem rmd_f (s : Int) : deadfallref01_Mild.f s = some (md s) := by
  cases hg : isg s with
  | false =>
    rw [deadfallref01_Mild.f, name_off hg, md_off hg]
    decide +kernel
  | true =>
    have hs := isg_iff.1 hg
    have key : ∀ i : Fin 31, deadfallref01_Mild.f ((i.val + 1 : Nat) : Int) = some (md ((i.val + 1 : Nat) : Int)) := by decide +kernel
    have := key ⟨s.toNat - 1, by omega⟩
    rwa [show ((s.toNat - 1 + 1 : Nat) : Int) = s by omega] at this
theorem rfixed_any (s : Int) (w : World) : Calls Tryd.prog 40 #[.int .i64 s] w fun e w' => e = .returned (.bool (fx s)) ∧ Below w.heap.size w w' := deadfallref01_Fixed.calls s _ w (rfx_f s)
theorem rmild_any (s : Int) (w : World) : Calls Tryd.prog 53 #[.int .i64 s] w fun e w' => e = .returned (.bool (md s)) ∧ Below w.heap.size w w' := deadfallref01_Mild.calls s _ w (rmd_f s)
theorem ris2_any (s : Int) (w : World) : Calls Tryd.prog 51 #[.int .i64 s] w fun e w' => e = .returned (.bool (isg s)) ∧ Below w.heap.size w w' := (deadfallref01_Is.calls s _ w (is_f s)).mono fun e w' h => ⟨h.1, h.2.below⟩
/-- So many numbers from one on. -/
def fromN : Nat → Nat → List Int
  | s, 0 => []
  | s, d + 1 => (s : Int) :: fromN (s + 1) d
theorem fromN_mem : ∀ d s (x : Int), x ∈ fromN s d ↔ (s : Int) ≤ x ∧ x < (s : Int) + d
  | 0, s, x => by
    unfold fromN
    constructor
    · intro h; cases h
    · intro h; omega
  | d + 1, s, x => by
    unfold fromN
    rw [List.mem_cons, fromN_mem d (s + 1) x]
    omega
theorem list_at (x : Nat) (hx : x < 4294967296) : ∀ (d s : Nat) (acc : List Int), s + d = 32 → 1 ≤ s → acc.length ≤ s → Ev (fun n => deadfallref01_List.l0 n (x : Int) acc (s : Int)) (acc ++ (fromN s d).filter (hs x))
  | 0, s, acc, hd, h1, ha => by
    refine Ev.step (f := fun _ => some acc) (fun k => ?_) (by simpa [fromN] using Ev.now _)
    show deadfallref01_List.l0 (k + 1) (x : Int) acc (s : Int) = _
    rw [deadfallref01_List.l0, if_neg (by omega)]
  | d + 1, s, acc, hd, h1, ha => by
    unfold fromN
    rw [List.filter_cons]
    refine Ev.step (f := fun k => (deadfallref01_Has.f k (x : Int) (s : Int)).bind fun t => (if t = true then (if acc.length < 17592186044416 then (deadfallref01_List.l0 k (x : Int) (acc ++ [(s : Int)]) (((s + 1 : Nat)) : Int)) else (none)) else (deadfallref01_List.l0 k (x : Int) acc (((s + 1 : Nat)) : Int)))) (fun k => ?_) ?_
    · show deadfallref01_List.l0 (k + 1) (x : Int) acc (s : Int) = _
      rw [deadfallref01_List.l0, if_pos (by omega), wr64 _ (by omega) (by omega)]
      rfl
    · refine Ev.bind (has_ev x hx s) (f := fun k t => (if t = true then (if acc.length < 17592186044416 then (deadfallref01_List.l0 k (x : Int) (acc ++ [(s : Int)]) (((s + 1 : Nat)) : Int)) else (none)) else (deadfallref01_List.l0 k (x : Int) acc (((s + 1 : Nat)) : Int)))) ?_
      by_cases hb : hs x (s : Int) = true
      · rw [if_pos hb, show acc ++ (s : Int) :: (fromN (s + 1) d).filter (hs x) = (acc ++ [(s : Int)]) ++ (fromN (s + 1) d).filter (hs x) by simp]
        refine Ev.congr (fun k => ?_) (list_at x hx d (s + 1) (acc ++ [(s : Int)]) (by omega) (by omega) (by simp; omega))
        rw [if_pos hb, if_pos (by omega)]
      · rw [if_neg hb]
        refine Ev.congr (fun k => ?_) (list_at x hx d (s + 1) acc (by omega) (by omega) (by omega))
        rw [if_neg hb]
theorem new_at (l : List Int) (hl : l.length ≤ 1000000) : ∀ d i (y : Nat), l.length - i = d → i ≤ l.length → y < 4294967296 → Ev (fun n => deadfallref12_New.l0 n (y : Int) l (l.length : Int) (i : Int)) ([(⟨1, 0, 0, true, ((ofL y ((l.drop i).filter nf) : Nat) : Int), 0, 0⟩ : S)], 1, []) := by
  intro d
  induction d with
  | zero =>
    intro i y hd hi hy
    rw [List.drop_eq_nil_of_le (by omega)]
    refine Ev.step (f := fun _ => some ([(⟨1, 0, 0, true, (y : Int), 0, 0⟩ : S)], 1, [])) (fun k => ?_) (Ev.now _)
    show deadfallref12_New.l0 (k + 1) (y : Int) l (l.length : Int) (i : Int) = _
    rw [deadfallref12_New.l0, if_neg (by omega)]
  | succ d ih =>
    intro i y hd hi hy
    have hil : i < l.length := by omega
    rw [List.drop_eq_getElem_cons hil, List.filter_cons]
    have hrd : rd l (i : Int) = l[i] := by
      show l.getD (i : Int).toNat _ = _
      rw [Int.toNat_natCast, List.getD_eq_getElem?_getD, List.getElem?_eq_getElem hil]
      rfl
    by_cases hf : fx l[i] = true
    · rw [show nf l[i] = false by unfold nf; rw [hf]; rfl, if_neg (by decide)]
      refine Ev.step (fun k => ?_) (ih (i + 1) y (by omega) (by omega) hy)
      show deadfallref12_New.l0 (k + 1) (y : Int) l (l.length : Int) (i : Int) = _
      rw [deadfallref12_New.l0, if_pos (by omega), if_pos (by omega), if_pos (by omega), hrd, rfx_f, Option.bind_some, if_pos hf, wr64 _ (by omega) (by omega)]
      rfl
    · rw [show nf l[i] = true by unfold nf; rw [Bool.not_eq_true] at hf; rw [hf]; rfl, if_pos rfl]
      refine Ev.step (f := fun k => (deadfallref01_With.f k (y : Int) l[i]).bind fun t => deadfallref12_New.l0 k t l (l.length : Int) (((i + 1 : Nat)) : Int)) (fun k => ?_) (Ev.bind (with_ev y hy l[i]) (f := fun k t => deadfallref12_New.l0 k t l (l.length : Int) (((i + 1 : Nat)) : Int)) (ih (i + 1) (wth y l[i]) (by omega) (by omega) (wth_lt _ hy)))
      show deadfallref12_New.l0 (k + 1) (y : Int) l (l.length : Int) (i : Int) = _
      rw [deadfallref12_New.l0, if_pos (by omega), if_pos (by omega), if_pos (by omega), hrd, rfx_f, Option.bind_some, if_neg hf, wr64 _ (by omega) (by omega)]
      rfl
theorem flt_from (x : Nat) : ofL 0 (((fromN 1 31).filter (hs x)).filter nf) = flt x := by
  refine Nat.eq_of_testBit_eq fun i => ?_
  by_cases hi : 1 ≤ i ∧ i < 32
  · have h1 : (flt x).testBit i = hs (flt x) (i : Int) := by
      unfold hs
      rw [isg_iff.2 (by omega), Bool.true_and, Int.toNat_natCast]
    rw [h1, flt_hs, ofL_bit, Nat.zero_testBit, Bool.false_or, Bool.eq_iff_iff, List.any_eq_true]
    constructor
    · rintro ⟨s, hs1, h2⟩
      rw [Bool.and_eq_true, decide_eq_true_eq] at h2
      have hsr := isg_iff.1 h2.1
      obtain rfl : s = (i : Int) := by omega
      rw [List.mem_filter, List.mem_filter] at hs1
      rw [hs1.1.2, Bool.true_and]
      exact hs1.2
    · intro h
      rw [Bool.and_eq_true] at h
      refine ⟨(i : Int), ?_, ?_⟩
      · rw [List.mem_filter, List.mem_filter, fromN_mem]
        exact ⟨⟨by omega, h.1⟩, h.2⟩
      · rw [isg_iff.2 (by omega), Int.toNat_natCast, decide_eq_true rfl]; rfl
  · have hz : i = 0 ∨ 32 ≤ i := by omega
    unfold flt
    rw [ofL_zero _ _ _ hz (Nat.zero_testBit _), ofL_zero _ _ _ hz (Nat.zero_testBit _)]
theorem new_ev (x : Nat) (hx : x < 4294967296) : Ev (fun n => deadfallref12_New.f n (x : Int)) ([(⟨1, 0, 0, true, ((flt x : Nat) : Int), 0, 0⟩ : S)], 1, []) := by
  have h1 := list_at x hx 31 1 [] rfl (Nat.le_refl _) (by simp)
  rw [List.nil_append] at h1
  have hlen : ((fromN 1 31).filter (hs x)).length ≤ 1000000 := Nat.le_trans (List.length_filter_le _ _) (by decide)
  have h2 := new_at ((fromN 1 31).filter (hs x)) hlen _ 0 0 rfl (Nat.zero_le _) (by decide)
  rw [List.drop_zero, flt_from] at h2
  exact Ev.bind (g := fun n => deadfallref01_List.f n (x : Int)) (f := fun n t => deadfallref12_New.l0 n 0 t (t.length : Int) 0) h1 h2
end Go.Proofs.YtbgodajbdbgdfaaDoor.Kern
