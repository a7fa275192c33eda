-- printed by a program of this session (wip/pp): a Lean function and a proof for each Go function
import Derived.Test.YtdglcnchdhojnaaDoorR0
namespace Go.Proofs.YtdglcnchdhojnaaDoor.R
open Go.RowKit Go.Proofs.YtdglcnchdhojnaaDoorW.PrintWords Go.Proofs.YtdglcnchdhojnaaDoorW.PrintLast Go.Proofs.YtdglcnchdhojnaaDoorW.PrintMore
attribute [local go_sem] max2_int min2_int max_two min_two max_three min_three max_four min_four   -- for this text's walks alone
set_option linter.unusedVariables false
set_option linter.unusedSimpArgs false

/-! ### deadfallref01_Is: function 21 -/
def deadfallref01_Is.f (a0 : Int) : Option (Bool) := if a0 ≥ 1 then (some (decide (a0 ≤ 31))) else (some false)
set_option maxHeartbeats 8000000 in
set_option maxRecDepth 100000 in
theorem deadfallref01_Is.calls (a0 : Int) (r : Bool) (w : World) (h : deadfallref01_Is.f a0 = some r) :
    Calls Tryd.prog 21 #[.int .i64 a0] w fun e w' => e = .returned (.bool r) ∧ Drawn0 w w' := by
  have H : (if a0 ≥ 1 then (some (decide (a0 ≤ 31))) else (some false)) = some r := h
  clear h
  by_cases c2 : a0 ≥ 1
  · rw [if_pos c2] at H
    have c2b0 : decide (1 ≤ a0) = true := decide_eq_true c2
    clear c2
    obtain rfl := Option.some.inj H
    go_enter Tryd.func21, Tryd.ntmps21
    go_wp2
    go_ret
    exact ⟨by first | rfl | (simp; done) | (simp [*]; done), by repeat (first | exact Drawn0.refl _ | apply Drawn0.step)⟩
  · rw [if_neg c2] at H
    have c2b0 : decide (1 ≤ a0) = false := decide_eq_false c2
    clear c2
    obtain rfl := Option.some.inj H
    go_enter Tryd.func21, Tryd.ntmps21
    go_wp2
    go_ret
    exact ⟨by first | rfl | (simp; done) | (simp [*]; done), by repeat (first | exact Drawn0.refl _ | apply Drawn0.step)⟩

/-- THE ONE PURE STATEMENT of deadfallref01_Is: yours. -/
def deadfallref01_Is.Pure : Prop := ∀ (a0 : Int), (Lit.int .i64 a0).wf = true → deadfallref01_Is.f a0 = some true
theorem deadfallref01_Is.walk (P : deadfallref01_Is.Pure) (a0 : Int) (w : World) (w0 : (Lit.int .i64 a0).wf = true) :
    Calls Tryd.prog 21 #[.int .i64 a0] w fun e w' => e = .returned (.bool true) ∧ Below w.heap.size w w' := by
  have h := P a0 w0
  refine (deadfallref01_Is.calls a0 true w h).mono ?_
  rintro e w' ⟨rfl, hd⟩
  exact ⟨rfl, hd.below⟩

/-! ### deadfallref01_Names: function 75 -/
def deadfallref01_Names.f  : Option (List ByteArray) := some (([(⟨#[72, 85, 80]⟩ : ByteArray), (⟨#[73, 78, 84]⟩ : ByteArray), (⟨#[81, 85, 73, 84]⟩ : ByteArray), (⟨#[73, 76, 76]⟩ : ByteArray), (⟨#[84, 82, 65, 80]⟩ : ByteArray), (⟨#[65, 66, 82, 84]⟩ : ByteArray), (⟨#[66, 85, 83]⟩ : ByteArray), (⟨#[70, 80, 69]⟩ : ByteArray), (⟨#[75, 73, 76, 76]⟩ : ByteArray), (⟨#[85, 83, 82, 49]⟩ : ByteArray), (⟨#[83, 69, 71, 86]⟩ : ByteArray), (⟨#[85, 83, 82, 50]⟩ : ByteArray), (⟨#[80, 73, 80, 69]⟩ : ByteArray), (⟨#[65, 76, 82, 77]⟩ : ByteArray), (⟨#[84, 69, 82, 77]⟩ : ByteArray), (⟨#[83, 84, 75, 70, 76, 84]⟩ : ByteArray), (⟨#[67, 72, 76, 68]⟩ : ByteArray), (⟨#[67, 79, 78, 84]⟩ : ByteArray), (⟨#[83, 84, 79, 80]⟩ : ByteArray), (⟨#[84, 83, 84, 80]⟩ : ByteArray), (⟨#[84, 84, 73, 78]⟩ : ByteArray), (⟨#[84, 84, 79, 85]⟩ : ByteArray), (⟨#[85, 82, 71]⟩ : ByteArray), (⟨#[88, 67, 80, 85]⟩ : ByteArray), (⟨#[88, 70, 83, 90]⟩ : ByteArray), (⟨#[86, 84, 65, 76, 82, 77]⟩ : ByteArray), (⟨#[80, 82, 79, 70]⟩ : ByteArray), (⟨#[87, 73, 78, 67, 72]⟩ : ByteArray), (⟨#[73, 79]⟩ : ByteArray), (⟨#[80, 87, 82]⟩ : ByteArray), (⟨#[83, 89, 83]⟩ : ByteArray)] : List ByteArray))
set_option maxHeartbeats 8000000 in
set_option maxRecDepth 100000 in
theorem deadfallref01_Names.calls  (r : List ByteArray) (w : World) (h : deadfallref01_Names.f  = some r) :
    Calls Tryd.prog 75 #[] w fun e w' => ∃ v0_ : Value, e = .returned (v0_) ∧ Kd.R Kd.string 9 w' w.heap.size (fun _ => True) v0_ r ∧ Below w.heap.size w w' := by
  have HB := Aside0.mk (Below.refl w.heap.size w)
  have H : (some (([(⟨#[72, 85, 80]⟩ : ByteArray), (⟨#[73, 78, 84]⟩ : ByteArray), (⟨#[81, 85, 73, 84]⟩ : ByteArray), (⟨#[73, 76, 76]⟩ : ByteArray), (⟨#[84, 82, 65, 80]⟩ : ByteArray), (⟨#[65, 66, 82, 84]⟩ : ByteArray), (⟨#[66, 85, 83]⟩ : ByteArray), (⟨#[70, 80, 69]⟩ : ByteArray), (⟨#[75, 73, 76, 76]⟩ : ByteArray), (⟨#[85, 83, 82, 49]⟩ : ByteArray), (⟨#[83, 69, 71, 86]⟩ : ByteArray), (⟨#[85, 83, 82, 50]⟩ : ByteArray), (⟨#[80, 73, 80, 69]⟩ : ByteArray), (⟨#[65, 76, 82, 77]⟩ : ByteArray), (⟨#[84, 69, 82, 77]⟩ : ByteArray), (⟨#[83, 84, 75, 70, 76, 84]⟩ : ByteArray), (⟨#[67, 72, 76, 68]⟩ : ByteArray), (⟨#[67, 79, 78, 84]⟩ : ByteArray), (⟨#[83, 84, 79, 80]⟩ : ByteArray), (⟨#[84, 83, 84, 80]⟩ : ByteArray), (⟨#[84, 84, 73, 78]⟩ : ByteArray), (⟨#[84, 84, 79, 85]⟩ : ByteArray), (⟨#[85, 82, 71]⟩ : ByteArray), (⟨#[88, 67, 80, 85]⟩ : ByteArray), (⟨#[88, 70, 83, 90]⟩ : ByteArray), (⟨#[86, 84, 65, 76, 82, 77]⟩ : ByteArray), (⟨#[80, 82, 79, 70]⟩ : ByteArray), (⟨#[87, 73, 78, 67, 72]⟩ : ByteArray), (⟨#[73, 79]⟩ : ByteArray), (⟨#[80, 87, 82]⟩ : ByteArray), (⟨#[83, 89, 83]⟩ : ByteArray)] : List ByteArray))) = some r := h
  clear h
  obtain ⟨y101, hy101⟩ : ∃ y_ : List ByteArray, y_ = (([(⟨#[72, 85, 80]⟩ : ByteArray), (⟨#[73, 78, 84]⟩ : ByteArray), (⟨#[81, 85, 73, 84]⟩ : ByteArray), (⟨#[73, 76, 76]⟩ : ByteArray), (⟨#[84, 82, 65, 80]⟩ : ByteArray), (⟨#[65, 66, 82, 84]⟩ : ByteArray), (⟨#[66, 85, 83]⟩ : ByteArray), (⟨#[70, 80, 69]⟩ : ByteArray), (⟨#[75, 73, 76, 76]⟩ : ByteArray), (⟨#[85, 83, 82, 49]⟩ : ByteArray), (⟨#[83, 69, 71, 86]⟩ : ByteArray), (⟨#[85, 83, 82, 50]⟩ : ByteArray), (⟨#[80, 73, 80, 69]⟩ : ByteArray), (⟨#[65, 76, 82, 77]⟩ : ByteArray), (⟨#[84, 69, 82, 77]⟩ : ByteArray), (⟨#[83, 84, 75, 70, 76, 84]⟩ : ByteArray), (⟨#[67, 72, 76, 68]⟩ : ByteArray), (⟨#[67, 79, 78, 84]⟩ : ByteArray), (⟨#[83, 84, 79, 80]⟩ : ByteArray), (⟨#[84, 83, 84, 80]⟩ : ByteArray), (⟨#[84, 84, 73, 78]⟩ : ByteArray), (⟨#[84, 84, 79, 85]⟩ : ByteArray), (⟨#[85, 82, 71]⟩ : ByteArray), (⟨#[88, 67, 80, 85]⟩ : ByteArray), (⟨#[88, 70, 83, 90]⟩ : ByteArray), (⟨#[86, 84, 65, 76, 82, 77]⟩ : ByteArray), (⟨#[80, 82, 79, 70]⟩ : ByteArray), (⟨#[87, 73, 78, 67, 72]⟩ : ByteArray), (⟨#[73, 79]⟩ : ByteArray), (⟨#[80, 87, 82]⟩ : ByteArray), (⟨#[83, 89, 83]⟩ : ByteArray)] : List ByteArray)) := ⟨_, rfl⟩
  replace H : (some y101) = some r := by first | (rw [hy101]; with_reducible exact H) | (have H2_ := (Option.bind_some _ _).symm.trans H; rw [hy101]; with_reducible exact H2_) | (have H2_ := (Option.bind_some _ _).symm.trans H; with_reducible exact H2_) | with_reducible exact H | (rw [hy101]; exact H) | exact H
  have Ny101 := Aside0.mk hy101
  clear hy101
  obtain rfl := Option.some.inj H
  go_enter Tryd.func75, Tryd.ntmps75
  go_wp2_with (first | ((with_reducible refine gate_dst (N := 1) rfl ?_); refine Kd.R_lit Kd.string _ 9 ?hg (N := 1) ?hd (xs := ([(⟨#[72, 85, 80]⟩ : ByteArray), (⟨#[73, 78, 84]⟩ : ByteArray), (⟨#[81, 85, 73, 84]⟩ : ByteArray), (⟨#[73, 76, 76]⟩ : ByteArray), (⟨#[84, 82, 65, 80]⟩ : ByteArray), (⟨#[65, 66, 82, 84]⟩ : ByteArray), (⟨#[66, 85, 83]⟩ : ByteArray), (⟨#[70, 80, 69]⟩ : ByteArray), (⟨#[75, 73, 76, 76]⟩ : ByteArray), (⟨#[85, 83, 82, 49]⟩ : ByteArray), (⟨#[83, 69, 71, 86]⟩ : ByteArray), (⟨#[85, 83, 82, 50]⟩ : ByteArray), (⟨#[80, 73, 80, 69]⟩ : ByteArray), (⟨#[65, 76, 82, 77]⟩ : ByteArray), (⟨#[84, 69, 82, 77]⟩ : ByteArray), (⟨#[83, 84, 75, 70, 76, 84]⟩ : ByteArray), (⟨#[67, 72, 76, 68]⟩ : ByteArray), (⟨#[67, 79, 78, 84]⟩ : ByteArray), (⟨#[83, 84, 79, 80]⟩ : ByteArray), (⟨#[84, 83, 84, 80]⟩ : ByteArray), (⟨#[84, 84, 73, 78]⟩ : ByteArray), (⟨#[84, 84, 79, 85]⟩ : ByteArray), (⟨#[85, 82, 71]⟩ : ByteArray), (⟨#[88, 67, 80, 85]⟩ : ByteArray), (⟨#[88, 70, 83, 90]⟩ : ByteArray), (⟨#[86, 84, 65, 76, 82, 77]⟩ : ByteArray), (⟨#[80, 82, 79, 70]⟩ : ByteArray), (⟨#[87, 73, 78, 67, 72]⟩ : ByteArray), (⟨#[73, 79]⟩ : ByteArray), (⟨#[80, 87, 82]⟩ : ByteArray), (⟨#[83, 89, 83]⟩ : ByteArray)] : List ByteArray)) (inner := [.string (⟨#[72, 85, 80]⟩ : ByteArray), .string (⟨#[73, 78, 84]⟩ : ByteArray), .string (⟨#[81, 85, 73, 84]⟩ : ByteArray), .string (⟨#[73, 76, 76]⟩ : ByteArray), .string (⟨#[84, 82, 65, 80]⟩ : ByteArray), .string (⟨#[65, 66, 82, 84]⟩ : ByteArray), .string (⟨#[66, 85, 83]⟩ : ByteArray), .string (⟨#[70, 80, 69]⟩ : ByteArray), .string (⟨#[75, 73, 76, 76]⟩ : ByteArray), .string (⟨#[85, 83, 82, 49]⟩ : ByteArray), .string (⟨#[83, 69, 71, 86]⟩ : ByteArray), .string (⟨#[85, 83, 82, 50]⟩ : ByteArray), .string (⟨#[80, 73, 80, 69]⟩ : ByteArray), .string (⟨#[65, 76, 82, 77]⟩ : ByteArray), .string (⟨#[84, 69, 82, 77]⟩ : ByteArray), .string (⟨#[83, 84, 75, 70, 76, 84]⟩ : ByteArray), .string (⟨#[67, 72, 76, 68]⟩ : ByteArray), .string (⟨#[67, 79, 78, 84]⟩ : ByteArray), .string (⟨#[83, 84, 79, 80]⟩ : ByteArray), .string (⟨#[84, 83, 84, 80]⟩ : ByteArray), .string (⟨#[84, 84, 73, 78]⟩ : ByteArray), .string (⟨#[84, 84, 79, 85]⟩ : ByteArray), .string (⟨#[85, 82, 71]⟩ : ByteArray), .string (⟨#[88, 67, 80, 85]⟩ : ByteArray), .string (⟨#[88, 70, 83, 90]⟩ : ByteArray), .string (⟨#[86, 84, 65, 76, 82, 77]⟩ : ByteArray), .string (⟨#[80, 82, 79, 70]⟩ : ByteArray), .string (⟨#[87, 73, 78, 67, 72]⟩ : ByteArray), .string (⟨#[73, 79]⟩ : ByteArray), .string (⟨#[80, 87, 82]⟩ : ByteArray), .string (⟨#[83, 89, 83]⟩ : ByteArray)]) (ok := fun _ => True) (okp := fun _ => True) ?hr ?hp (fun _ hk => hk) trivial (Below.refl _ _) (Nat.le_refl _) (by simp) ?_; (case hd => rfl); (case hg => rfl); (case hr => first | (go_simp; done) | (go_simp; rfl)); (case hp => exact (Reps.one (show Kd.M Kd.string _ _ _ (⟨#[72, 85, 80]⟩ : ByteArray) [.string (⟨#[72, 85, 80]⟩ : ByteArray)] from rfl) (Reps.one (show Kd.M Kd.string _ _ _ (⟨#[73, 78, 84]⟩ : ByteArray) [.string (⟨#[73, 78, 84]⟩ : ByteArray)] from rfl) (Reps.one (show Kd.M Kd.string _ _ _ (⟨#[81, 85, 73, 84]⟩ : ByteArray) [.string (⟨#[81, 85, 73, 84]⟩ : ByteArray)] from rfl) (Reps.one (show Kd.M Kd.string _ _ _ (⟨#[73, 76, 76]⟩ : ByteArray) [.string (⟨#[73, 76, 76]⟩ : ByteArray)] from rfl) (Reps.one (show Kd.M Kd.string _ _ _ (⟨#[84, 82, 65, 80]⟩ : ByteArray) [.string (⟨#[84, 82, 65, 80]⟩ : ByteArray)] from rfl) (Reps.one (show Kd.M Kd.string _ _ _ (⟨#[65, 66, 82, 84]⟩ : ByteArray) [.string (⟨#[65, 66, 82, 84]⟩ : ByteArray)] from rfl) (Reps.one (show Kd.M Kd.string _ _ _ (⟨#[66, 85, 83]⟩ : ByteArray) [.string (⟨#[66, 85, 83]⟩ : ByteArray)] from rfl) (Reps.one (show Kd.M Kd.string _ _ _ (⟨#[70, 80, 69]⟩ : ByteArray) [.string (⟨#[70, 80, 69]⟩ : ByteArray)] from rfl) (Reps.one (show Kd.M Kd.string _ _ _ (⟨#[75, 73, 76, 76]⟩ : ByteArray) [.string (⟨#[75, 73, 76, 76]⟩ : ByteArray)] from rfl) (Reps.one (show Kd.M Kd.string _ _ _ (⟨#[85, 83, 82, 49]⟩ : ByteArray) [.string (⟨#[85, 83, 82, 49]⟩ : ByteArray)] from rfl) (Reps.one (show Kd.M Kd.string _ _ _ (⟨#[83, 69, 71, 86]⟩ : ByteArray) [.string (⟨#[83, 69, 71, 86]⟩ : ByteArray)] from rfl) (Reps.one (show Kd.M Kd.string _ _ _ (⟨#[85, 83, 82, 50]⟩ : ByteArray) [.string (⟨#[85, 83, 82, 50]⟩ : ByteArray)] from rfl) (Reps.one (show Kd.M Kd.string _ _ _ (⟨#[80, 73, 80, 69]⟩ : ByteArray) [.string (⟨#[80, 73, 80, 69]⟩ : ByteArray)] from rfl) (Reps.one (show Kd.M Kd.string _ _ _ (⟨#[65, 76, 82, 77]⟩ : ByteArray) [.string (⟨#[65, 76, 82, 77]⟩ : ByteArray)] from rfl) (Reps.one (show Kd.M Kd.string _ _ _ (⟨#[84, 69, 82, 77]⟩ : ByteArray) [.string (⟨#[84, 69, 82, 77]⟩ : ByteArray)] from rfl) (Reps.one (show Kd.M Kd.string _ _ _ (⟨#[83, 84, 75, 70, 76, 84]⟩ : ByteArray) [.string (⟨#[83, 84, 75, 70, 76, 84]⟩ : ByteArray)] from rfl) (Reps.one (show Kd.M Kd.string _ _ _ (⟨#[67, 72, 76, 68]⟩ : ByteArray) [.string (⟨#[67, 72, 76, 68]⟩ : ByteArray)] from rfl) (Reps.one (show Kd.M Kd.string _ _ _ (⟨#[67, 79, 78, 84]⟩ : ByteArray) [.string (⟨#[67, 79, 78, 84]⟩ : ByteArray)] from rfl) (Reps.one (show Kd.M Kd.string _ _ _ (⟨#[83, 84, 79, 80]⟩ : ByteArray) [.string (⟨#[83, 84, 79, 80]⟩ : ByteArray)] from rfl) (Reps.one (show Kd.M Kd.string _ _ _ (⟨#[84, 83, 84, 80]⟩ : ByteArray) [.string (⟨#[84, 83, 84, 80]⟩ : ByteArray)] from rfl) (Reps.one (show Kd.M Kd.string _ _ _ (⟨#[84, 84, 73, 78]⟩ : ByteArray) [.string (⟨#[84, 84, 73, 78]⟩ : ByteArray)] from rfl) (Reps.one (show Kd.M Kd.string _ _ _ (⟨#[84, 84, 79, 85]⟩ : ByteArray) [.string (⟨#[84, 84, 79, 85]⟩ : ByteArray)] from rfl) (Reps.one (show Kd.M Kd.string _ _ _ (⟨#[85, 82, 71]⟩ : ByteArray) [.string (⟨#[85, 82, 71]⟩ : ByteArray)] from rfl) (Reps.one (show Kd.M Kd.string _ _ _ (⟨#[88, 67, 80, 85]⟩ : ByteArray) [.string (⟨#[88, 67, 80, 85]⟩ : ByteArray)] from rfl) (Reps.one (show Kd.M Kd.string _ _ _ (⟨#[88, 70, 83, 90]⟩ : ByteArray) [.string (⟨#[88, 70, 83, 90]⟩ : ByteArray)] from rfl) (Reps.one (show Kd.M Kd.string _ _ _ (⟨#[86, 84, 65, 76, 82, 77]⟩ : ByteArray) [.string (⟨#[86, 84, 65, 76, 82, 77]⟩ : ByteArray)] from rfl) (Reps.one (show Kd.M Kd.string _ _ _ (⟨#[80, 82, 79, 70]⟩ : ByteArray) [.string (⟨#[80, 82, 79, 70]⟩ : ByteArray)] from rfl) (Reps.one (show Kd.M Kd.string _ _ _ (⟨#[87, 73, 78, 67, 72]⟩ : ByteArray) [.string (⟨#[87, 73, 78, 67, 72]⟩ : ByteArray)] from rfl) (Reps.one (show Kd.M Kd.string _ _ _ (⟨#[73, 79]⟩ : ByteArray) [.string (⟨#[73, 79]⟩ : ByteArray)] from rfl) (Reps.one (show Kd.M Kd.string _ _ _ (⟨#[80, 87, 82]⟩ : ByteArray) [.string (⟨#[80, 87, 82]⟩ : ByteArray)] from rfl) (Reps.one (show Kd.M Kd.string _ _ _ (⟨#[83, 89, 83]⟩ : ByteArray) [.string (⟨#[83, 89, 83]⟩ : ByteArray)] from rfl) (Reps.none _ _))))))))))))))))))))))))))))))))); intro v102 w1 ho2 hb hg_ hnew_; clear hg_ hnew_; (first | rw [← Ny101.out] at ho2 | (simp only [Int.reduceToNat] at ho2; rw [← Ny101.out] at ho2)); have n0_ := Aside0.mk (Kd.R_lower ho2 (below_size (by repeat (first | (with_reducible first | exact HB.out | apply below_alloc | apply pw_below_drewN | apply below_drew1) | exact HB.out)))); have n1_ := Aside0.mk (below_step (by repeat (first | (with_reducible first | exact HB.out | apply below_alloc | apply pw_below_drewN | apply below_drew1) | exact HB.out)) hb); clear HB; have HO103 := n0_; have HB := n1_; clear n0_ n1_; clear hb ho2))
  go_ret
  exact ⟨_, by first | rfl | (simp [errW_none, errW_some] <;> rfl) | (simp [*, errW_none, errW_some] <;> rfl), by (with_reducible repeat (first | apply Kd.R_alloc | apply Kd.R_drewN | apply Kd.R_drew)); exact HO103.out, by repeat (first | (with_reducible first | exact HB.out | apply below_alloc | apply pw_below_drewN | apply below_drew1) | exact HB.out)⟩

/-! ### deadfallref01_Name: function 30 -/
def deadfallref01_Name.f (a0 : Int) : Option (ByteArray) := (deadfallref01_Is.f a0).bind fun t104 => (if t104 = true then ((deadfallref01_Names.f).bind fun t105 => (if 0 ≤ (wrap64 (a0 - 1)) then (if (wrap64 (a0 - 1)) < (t105.length : Int) then (some (rdOf ByteArray.empty t105 (wrap64 (a0 - 1)))) else (none)) else (none))) else (some (⟨#[]⟩ : ByteArray)))
set_option maxHeartbeats 8000000 in
set_option maxRecDepth 100000 in
theorem deadfallref01_Name.calls (a0 : Int) (r : ByteArray) (w : World) (h : deadfallref01_Name.f a0 = some r) :
    Calls Tryd.prog 30 #[.int .i64 a0] w fun e w' => e = .returned (.string r) ∧ Below w.heap.size w w' := by
  have HB := Aside0.mk (Below.refl w.heap.size w)
  have H : ((deadfallref01_Is.f a0).bind fun t104 => (if t104 = true then ((deadfallref01_Names.f).bind fun t105 => (if 0 ≤ (wrap64 (a0 - 1)) then (if (wrap64 (a0 - 1)) < (t105.length : Int) then (some (rdOf ByteArray.empty t105 (wrap64 (a0 - 1)))) else (none)) else (none))) else (some (⟨#[]⟩ : ByteArray)))) = some r := h
  clear h
  replace H := Option.bind_eq_some_iff.mp H
  obtain ⟨t104, A20, H⟩ := H
  replace H : (if t104 = true then ((deadfallref01_Names.f).bind fun t105 => (if 0 ≤ (wrap64 (a0 - 1)) then (if (wrap64 (a0 - 1)) < (t105.length : Int) then (some (rdOf ByteArray.empty t105 (wrap64 (a0 - 1)))) else (none)) else (none))) else (some (⟨#[]⟩ : ByteArray))) = some r := H
  have A2 := Aside0.mk A20
  clear A20
  by_cases c3 : t104 = true
  · subst c3
    have H1 : ((deadfallref01_Names.f).bind fun t105 => (if 0 ≤ (wrap64 (a0 - 1)) then (if (wrap64 (a0 - 1)) < (t105.length : Int) then (some (rdOf ByteArray.empty t105 (wrap64 (a0 - 1)))) else (none)) else (none))) = some r := by rw [if_pos rfl] at H; exact H
    clear H
    have H := H1
    clear H1
    replace H := Option.bind_eq_some_iff.mp H
    obtain ⟨t105, A40, H⟩ := H
    replace H : (if 0 ≤ (wrap64 (a0 - 1)) then (if (wrap64 (a0 - 1)) < (t105.length : Int) then (some (rdOf ByteArray.empty t105 (wrap64 (a0 - 1)))) else (none)) else (none)) = some r := H
    have A4 := Aside0.mk A40
    clear A40
    obtain ⟨ji5, hji5⟩ : ∃ j_ : Int, (wrap64 (a0 - 1)) = j_ := ⟨_, rfl⟩
    replace H : (if 0 ≤ (ji5) then (if (ji5) < (t105.length : Int) then (some (rdOf ByteArray.empty t105 (ji5))) else (none)) else (none)) = some r := by first | (rw [hji5] at H; exact H) | (simp only [hji5] at H ⊢; exact H)
    (try rw [hji5] at A2)
    (try rw [hji5] at A4)
    have hji5w : (IntKind.i64.wrap (a0 - 1)) = ji5 := (i64_w _).trans hji5
    by_cases c6 : 0 ≤ (ji5)
    · rw [if_pos c6] at H
      have c6b0 : decide (0 ≤ (ji5)) = true := decide_eq_true c6
      clear c6
      by_cases c7 : (ji5) < (t105.length : Int)
      · rw [if_pos c7] at H
        have c7b0 : decide ((ji5) < (t105.length : Int)) = true := decide_eq_true c7
        clear c7
        obtain rfl := Option.some.inj H
        go_enter Tryd.func30, Tryd.ntmps30
        go_wp2_with (first | ((with_reducible refine gate_callee (f := 21) rfl ?_); refine goesL_ (some 4) rfl rfl Tryd.func21 (by kernel_rfl) rfl #[.int .i64 a0] rfl (by (try simp only [List.map_toArray, List.map_cons, List.map_nil]); first | done | rfl | (simp only [List.length_drop, List.length_take]; rfl)) ?_; (with_reducible refine (deadfallref01_Is.calls a0 true _ A2.out).mono ?_); rintro e w' ⟨rfl, ⟨nd, rfl⟩⟩; refine ⟨_, rfl, ?_⟩) | ((with_reducible refine gate_callee (f := 75) rfl ?_); refine goesL_ (some 6) rfl rfl Tryd.func75 (by kernel_rfl) rfl #[] rfl (by (try simp only [List.map_toArray, List.map_cons, List.map_nil]); first | done | rfl | (simp only [List.length_drop, List.length_take]; rfl)) ?_; (with_reducible refine (deadfallref01_Names.calls  t105 _ A4.out).mono ?_); rintro e w8 ⟨v106, rfl, ho0, hb⟩; refine ⟨_, rfl, ?_⟩; have n0_ := Aside0.mk (Kd.R_lower ho0 (below_size (by repeat (first | (with_reducible first | exact HB.out | apply below_alloc | apply pw_below_drewN | apply below_drew1) | exact HB.out)))); have n1_ := Aside0.mk (below_step (by repeat (first | (with_reducible first | exact HB.out | apply below_alloc | apply pw_below_drewN | apply below_drew1) | exact HB.out)) hb); clear HB; have HO107 := n0_; have HB := n1_; clear n0_ n1_; (try clear hb); (try clear hb2); (try clear hk); (try clear hi); (try clear ho0); obtain ⟨Ao9, co9, eo9⟩ := Kd.R_slice HO107.out; subst eo9; have p108 : 0 ≤ ((ji5) : Int) := of_decide_eq_true (by first | (with_reducible assumption) | assumption); have q108 : (ji5) < (t105.length : Int) := of_decide_eq_true (by first | (with_reducible assumption) | assumption); obtain ⟨ad108, e108, hx108_0⟩ := Kd.at_string (Kd.R_reads' HO107.out).2.2 (ji5) p108 q108; cases e108; replace p108 := eq_true p108; replace q108 := eq_true q108))
        go_ret
        exact ⟨by first | rfl | (simp [errW_none, errW_some] <;> rfl) | (simp only [← hji5]; first | rfl | (simp [errW_none, errW_some] <;> rfl)) | (simp [*, errW_none, errW_some] <;> rfl), by repeat (first | (with_reducible first | exact HB.out | apply below_alloc | apply pw_below_drewN | apply below_drew1) | exact HB.out)⟩
      · rw [if_neg c7] at H
        exact absurd H (by simp)
    · rw [if_neg c6] at H
      exact absurd H (by simp)
  · replace c3 := Bool.eq_false_iff.mpr c3
    subst c3
    have H1 : (some (⟨#[]⟩ : ByteArray)) = some r := by rw [if_neg (show ¬ (false = true) by decide)] at H; exact H
    clear H
    have H := H1
    clear H1
    obtain rfl := Option.some.inj H
    go_enter Tryd.func30, Tryd.ntmps30
    go_wp2_with (first | ((with_reducible refine gate_callee (f := 21) rfl ?_); refine goesL_ (some 4) rfl rfl Tryd.func21 (by kernel_rfl) rfl #[.int .i64 a0] rfl (by (try simp only [List.map_toArray, List.map_cons, List.map_nil]); first | done | rfl | (simp only [List.length_drop, List.length_take]; rfl)) ?_; (with_reducible refine (deadfallref01_Is.calls a0 false _ A2.out).mono ?_); rintro e w' ⟨rfl, ⟨nd, rfl⟩⟩; refine ⟨_, rfl, ?_⟩))
    go_ret
    exact ⟨by first | rfl | (simp [errW_none, errW_some] <;> rfl) | (simp [*, errW_none, errW_some] <;> rfl), by repeat (first | (with_reducible first | exact HB.out | apply below_alloc | apply pw_below_drewN | apply below_drew1) | exact HB.out)⟩

/-! ### deadfallref01_digits: function 74 -/
def deadfallref01_digits.f : Nat → Int → Option (ByteArray)
  | 0, _ => none
  | k + 1, a0 => if a0 < 10 then (some (strOfNums (([(wrap64 (48 + a0)) % 256] : List Int)))) else ((deadfallref01_digits.f k (wrap64 (Int.tdiv a0 10))).bind fun t112 => ((deadfallref01_digits.f k (Int.tmod a0 10)).bind fun t113 => (if t112.size + t113.size ≤ 9223372036854775807 then (some (t112 ++ t113)) else (none))))
theorem deadfallref01_digits.mono_l : ∀ k, (∀ y0, LeO (deadfallref01_digits.f k y0) (deadfallref01_digits.f (k + 1) y0))
  | 0 => fun _ r h => by simp [deadfallref01_digits.f] at h
  | k + 1 => by
    have ih0 := deadfallref01_digits.mono_l k
    · intro y0
      unfold deadfallref01_digits.f
      repeat' first
      | (with_reducible exact ih0 _)
      | (with_reducible exact LeO.refl _)
      | (with_reducible exact LeO.none _)
      | (with_reducible refine LeO.ite ?_ ?_)
      | (with_reducible refine LeO.bind ?_ (fun _ => ?_))
      | exact ih0 _
      | exact LeO.none _
      | refine LeO.ite ?_ ?_
      | refine LeO.bind ?_ (fun _ => ?_)
theorem deadfallref01_digits.mono : ∀ a0 k, LeO (deadfallref01_digits.f k a0) (deadfallref01_digits.f (k + 1) a0) := by
  intro a0 k
  have ih0 := deadfallref01_digits.mono_l k
  exact ih0 a0
set_option maxHeartbeats 8000000 in
set_option maxRecDepth 100000 in
theorem deadfallref01_digits.calls (k : Nat) : ∀ (a0 : Int) (r : ByteArray) (w : World) (h : deadfallref01_digits.f k a0 = some r),
    Calls Tryd.prog 74 #[.int .i64 a0] w fun e w' => e = .returned (.string r) ∧ Below w.heap.size w w' := by
  induction k using Nat.strongRecOn with
  | _ k ih =>
  intro a0 r w h
  cases k with
  | zero => exact absurd h (by simp [deadfallref01_digits.f])
  | succ k =>
  simp only [deadfallref01_digits.f] at h
  have HB := Aside0.mk (Below.refl w.heap.size w)
  have H : (if a0 < 10 then (some (strOfNums (([(wrap64 (48 + a0)) % 256] : List Int)))) else ((deadfallref01_digits.f k (wrap64 (Int.tdiv a0 10))).bind fun t112 => ((deadfallref01_digits.f k (Int.tmod a0 10)).bind fun t113 => (if t112.size + t113.size ≤ 9223372036854775807 then (some (t112 ++ t113)) else (none))))) = some r := h
  clear h
  by_cases c2 : a0 < 10
  · rw [if_pos c2] at H
    have c2b0 : decide (a0 < 10) = true := decide_eq_true c2
    clear c2
    obtain ⟨y109, hy109⟩ : ∃ y_ : List Int, y_ = (([(wrap64 (48 + a0)) % 256] : List Int)) := ⟨_, rfl⟩
    replace H : (some (strOfNums y109)) = some r := by first | (rw [hy109]; with_reducible exact H) | (have H2_ := (Option.bind_some _ _).symm.trans H; rw [hy109]; with_reducible exact H2_) | (have H2_ := (Option.bind_some _ _).symm.trans H; with_reducible exact H2_) | with_reducible exact H | (rw [hy109]; exact H) | exact H
    have Ny109 := Aside0.mk hy109
    clear hy109
    obtain rfl := Option.some.inj H
    go_enter Tryd.func74, Tryd.ntmps74
    go_wp2_with (first | ((with_reducible refine gate_dst (N := 8) rfl ?_); refine Kd.R_lit (Kd.int .u8) _ 5 ?hg (N := 8) ?hd (xs := ([(wrap64 (48 + a0)) % 256] : List Int)) (inner := [.int .u8 ((wrap64 (48 + a0)) % 256)]) (ok := fun _ => True) (okp := fun _ => True) ?hr ?hp (fun _ hk => hk) trivial (Below.refl _ _) (Nat.le_refl _) (by simp) ?_; (case hd => rfl); (case hg => rfl); (case hr => first | (go_simp; done) | (go_simp; rfl)); (case hp => exact (Reps.one (show Kd.M (Kd.int .u8) _ _ _ ((wrap64 (48 + a0)) % 256) [.int .u8 ((wrap64 (48 + a0)) % 256)] from rfl) (Reps.none _ _))); intro v110 w3 ho4 hb hg_ hnew_; clear hg_ hnew_; (first | rw [← Ny109.out] at ho4 | (simp only [Int.reduceToNat] at ho4; rw [← Ny109.out] at ho4)); have n0_ := Aside0.mk (Kd.R_lower ho4 (below_size (by repeat (first | (with_reducible first | exact HB.out | apply below_alloc | apply pw_below_drewN | apply below_drew1) | exact HB.out)))); have n1_ := Aside0.mk (below_step (by repeat (first | (with_reducible first | exact HB.out | apply below_alloc | apply pw_below_drewN | apply below_drew1) | exact HB.out)) hb); clear HB; have HO111 := n0_; have HB := n1_; clear n0_ n1_; clear hb ho4; have hcv5 := own_string (P := Tryd.prog) Tryd.underlying118 Tryd.underlying5 Tryd.underlying9 (Kd.own_of_R HO111.out)))
    go_ret
    exact ⟨by first | rfl | (simp [errW_none, errW_some] <;> rfl) | (simp [*, errW_none, errW_some] <;> rfl), by repeat (first | (with_reducible first | exact HB.out | apply below_alloc | apply pw_below_drewN | apply below_drew1) | exact HB.out)⟩
  · rw [if_neg c2] at H
    have c2b0 : decide (a0 < 10) = false := decide_eq_false c2
    clear c2
    replace H := Option.bind_eq_some_iff.mp H
    obtain ⟨t112, A60, H⟩ := H
    replace H : ((deadfallref01_digits.f k (Int.tmod a0 10)).bind fun t113 => (if t112.size + t113.size ≤ 9223372036854775807 then (some (t112 ++ t113)) else (none))) = some r := H
    have A6 := Aside0.mk A60
    clear A60
    replace H := Option.bind_eq_some_iff.mp H
    obtain ⟨t113, A70, H⟩ := H
    replace H : (if t112.size + t113.size ≤ 9223372036854775807 then (some (t112 ++ t113)) else (none)) = some r := H
    have A7 := Aside0.mk A70
    clear A70
    by_cases c8 : t112.size + t113.size ≤ 9223372036854775807
    · rw [if_pos c8] at H
      have c8b0 := eq_true c8
      have c8b1 : decide (t112.size + t113.size ≤ 9223372036854775807) = true := decide_eq_true c8
      try have c8b2 : (9223372036854775807 < t112.size + t113.size) = False := eq_false (Nat.not_lt.2 c8)
      obtain rfl := Option.some.inj H
      go_enter Tryd.func74, Tryd.ntmps74
      go_wp2_with (first | ((with_reducible refine gate_callee (f := 74) rfl ?_); refine goesL_ (some 12) rfl rfl Tryd.func74 (by kernel_rfl) rfl #[.int .i64 (wrap64 (Int.tdiv a0 10))] rfl (by (try simp only [List.map_toArray, List.map_cons, List.map_nil]); first | done | rfl | (simp only [List.length_drop, List.length_take]; rfl)) ?_; (with_reducible refine (ih k (by omega) (wrap64 (Int.tdiv a0 10)) t112 _ A6.out).mono ?_); rintro e w9 ⟨rfl, hb⟩; refine ⟨_, rfl, ?_⟩; have n0_ := Aside0.mk (below_step (by repeat (first | (with_reducible first | exact HB.out | apply below_alloc | apply pw_below_drewN | apply below_drew1) | exact HB.out)) hb); clear HB; have HB := n0_; clear n0_; (try clear hb); (try clear hb2); (try clear hk); (try clear hi)) | ((with_reducible refine gate_callee (f := 74) rfl ?_); refine goesL_ (some 15) rfl rfl Tryd.func74 (by kernel_rfl) rfl #[.int .i64 (Int.tmod a0 10)] rfl (by (try simp only [List.map_toArray, List.map_cons, List.map_nil]); first | done | rfl | (simp only [List.length_drop, List.length_take]; rfl)) ?_; (with_reducible refine (ih k (by omega) (Int.tmod a0 10) t113 _ A7.out).mono ?_); rintro e w10 ⟨rfl, hb⟩; refine ⟨_, rfl, ?_⟩; have n0_ := Aside0.mk (below_step (by repeat (first | (with_reducible first | exact HB.out | apply below_alloc | apply pw_below_drewN | apply below_drew1) | exact HB.out)) hb); clear HB; have HB := n0_; clear n0_; (try clear hb); (try clear hb2); (try clear hk); (try clear hi)))
      go_ret
      exact ⟨by first | rfl | (simp [errW_none, errW_some] <;> rfl) | (simp [*, errW_none, errW_some] <;> rfl), by repeat (first | (with_reducible first | exact HB.out | apply below_alloc | apply pw_below_drewN | apply below_drew1) | exact HB.out)⟩
    · rw [if_neg c8] at H
      exact absurd H (by simp)

/-! ### deadfallref01_Number: function 26 -/
def deadfallref01_Number.l0 : Nat → ByteArray → Int → Option (Int)
  | 0, _, _ => none
  | k + 1, x0, x3 => if x3 ≤ 31 then ((deadfallref01_Name.f x3).bind fun t114 => (if x0.toList = t114.toList then (some x3) else ((deadfallref01_digits.f k x3).bind fun t115 => (if x0.toList = t115.toList then (some x3) else (deadfallref01_Number.l0 k x0 (wrap64 (x3 + 1))))))) else (some 0)
def deadfallref01_Number.f (k : Nat) (a0 : ByteArray) : Option (Int) := deadfallref01_Number.l0 k a0 1
theorem deadfallref01_Number.mono_l : ∀ k, (∀ y0 y1, LeO (deadfallref01_Number.l0 k y0 y1) (deadfallref01_Number.l0 (k + 1) y0 y1))
  | 0 => fun _ _ r h => by simp [deadfallref01_Number.l0] at h
  | k + 1 => by
    have ih0 := deadfallref01_Number.mono_l k
    · intro y0 y1
      unfold deadfallref01_Number.l0
      repeat' first
      | (with_reducible exact ih0 _ _)
      | (with_reducible exact deadfallref01_digits.mono _ _)
      | (with_reducible exact LeO.refl _)
      | (with_reducible exact LeO.none _)
      | (with_reducible refine LeO.ite ?_ ?_)
      | (with_reducible refine LeO.bind ?_ (fun _ => ?_))
      | exact ih0 _ _
      | exact deadfallref01_digits.mono _ _
      | exact LeO.none _
      | refine LeO.ite ?_ ?_
      | refine LeO.bind ?_ (fun _ => ?_)
theorem deadfallref01_Number.mono : ∀ a0 k, LeO (deadfallref01_Number.f k a0) (deadfallref01_Number.f (k + 1) a0) := by
  intro a0 k
  have ih0 := deadfallref01_Number.mono_l k
  unfold deadfallref01_Number.f
  repeat' first
      | (with_reducible exact ih0 _ _)
      | (with_reducible exact deadfallref01_digits.mono _ _)
      | (with_reducible exact LeO.refl _)
      | (with_reducible exact LeO.none _)
      | (with_reducible refine LeO.ite ?_ ?_)
      | (with_reducible refine LeO.bind ?_ (fun _ => ?_))
      | exact ih0 _ _
      | exact deadfallref01_digits.mono _ _
      | exact LeO.none _
      | refine LeO.ite ?_ ?_
      | refine LeO.bind ?_ (fun _ => ?_)
set_option maxHeartbeats 8000000 in
set_option maxRecDepth 100000 in
theorem deadfallref01_Number.calls (k : Nat) (a0 : ByteArray) (r : Int) (w : World) (h : deadfallref01_Number.f k a0 = some r) :
    Calls Tryd.prog 26 #[.string a0] w fun e w' => e = .returned (.int .i64 r) ∧ Below w.heap.size w w' := by
  have HB := Aside0.mk (Below.refl w.heap.size w)
  have H : (deadfallref01_Number.l0 k a0 1) = some r := h
  clear h
  have H' := Aside0.mk H
  clear H
  go_enter Tryd.func26, Tryd.ntmps26
  go_wp2
  go_loopg [3] k (fun kq v3 w' => ∃ (x3_1 : Int), v3 = .int .i64 x3_1 ∧ Aside0 (deadfallref01_Number.l0 kq a0 x3_1 = some r) ∧ Aside0 (kq ≤ k) ∧ Aside0 (Below w.heap.size w w'))
  case atStart => exact ⟨(1), (by first | rfl | (simp; done) | (simp [*]; done)), H', ⟨Nat.le_refl _⟩, ⟨by repeat (first | (with_reducible first | exact HB.out | apply below_alloc | apply pw_below_drewN | apply below_drew1) | exact HB.out)⟩⟩
  case round =>
    clear H'
    obtain ⟨x3_1, rfl, HA, HK1, HB⟩ := hrel
    cases gk with
    | zero => exact absurd HA.out (by simp [deadfallref01_Number.l0])
    | succ k1 =>
      have H := HA.out
      clear HA
      simp only [deadfallref01_Number.l0] at H
      by_cases c2 : x3_1 ≤ 31
      · rw [if_pos c2] at H
        have c2b0 : decide (x3_1 ≤ 31) = true := decide_eq_true c2
        clear c2
        replace H := Option.bind_eq_some_iff.mp H
        obtain ⟨t114, A30, H⟩ := H
        replace H : (if a0.toList = t114.toList then (some x3_1) else ((deadfallref01_digits.f k1 x3_1).bind fun t115 => (if a0.toList = t115.toList then (some x3_1) else (deadfallref01_Number.l0 k1 a0 (wrap64 (x3_1 + 1)))))) = some r := H
        have A3 := Aside0.mk A30
        clear A30
        by_cases c4 : a0.toList = t114.toList
        · rw [if_pos c4] at H
          have c4b0 : (a0.toList == t114.toList) = true := beq_iff_eq.mpr c4
          have c4b1 : (a0.toList != t114.toList) = false := bne_eq_false_iff_eq.mpr c4
          clear c4
          obtain rfl := Option.some.inj H
          go_wp2_with (first | ((with_reducible refine gate_callee (f := 30) rfl ?_); refine goesL_ (some 10) rfl rfl Tryd.func30 (by kernel_rfl) rfl #[.int .i64 x3_1] rfl (by (try simp only [List.map_toArray, List.map_cons, List.map_nil]); first | done | rfl | (simp only [List.length_drop, List.length_take]; rfl)) ?_; (with_reducible refine (deadfallref01_Name.calls x3_1 t114 _ A3.out).mono ?_); rintro e w5 ⟨rfl, hb⟩; refine ⟨_, rfl, ?_⟩; have n0_ := Aside0.mk (below_step (by repeat (first | (with_reducible first | exact HB.out | apply below_alloc | apply pw_below_drewN | apply below_drew1) | exact HB.out)) hb); clear HB; have HB := n0_; clear n0_; (try clear hb); (try clear hb2); (try clear hk); (try clear hi)))
          go_ret
          exact ⟨by first | rfl | (simp [errW_none, errW_some] <;> rfl) | (simp [*, errW_none, errW_some] <;> rfl), by repeat (first | (with_reducible first | exact HB.out | apply below_alloc | apply pw_below_drewN | apply below_drew1) | exact HB.out)⟩
        · rw [if_neg c4] at H
          have c4b0 : (a0.toList == t114.toList) = false := beq_eq_false_iff_ne.mpr c4
          have c4b1 : (a0.toList != t114.toList) = true := bne_iff_ne.mpr c4
          replace H := Option.bind_eq_some_iff.mp H
          obtain ⟨t115, A60, H⟩ := H
          replace H : (if a0.toList = t115.toList then (some x3_1) else (deadfallref01_Number.l0 k1 a0 (wrap64 (x3_1 + 1)))) = some r := H
          have A6 := Aside0.mk A60
          clear A60
          by_cases c7 : a0.toList = t115.toList
          · rw [if_pos c7] at H
            have c7b0 : (a0.toList == t115.toList) = true := beq_iff_eq.mpr c7
            have c7b1 : (a0.toList != t115.toList) = false := bne_eq_false_iff_eq.mpr c7
            clear c7
            obtain rfl := Option.some.inj H
            go_wp2_with (first | ((with_reducible refine gate_callee (f := 30) rfl ?_); refine goesL_ (some 10) rfl rfl Tryd.func30 (by kernel_rfl) rfl #[.int .i64 x3_1] rfl (by (try simp only [List.map_toArray, List.map_cons, List.map_nil]); first | done | rfl | (simp only [List.length_drop, List.length_take]; rfl)) ?_; (with_reducible refine (deadfallref01_Name.calls x3_1 t114 _ A3.out).mono ?_); rintro e w8 ⟨rfl, hb⟩; refine ⟨_, rfl, ?_⟩; have n0_ := Aside0.mk (below_step (by repeat (first | (with_reducible first | exact HB.out | apply below_alloc | apply pw_below_drewN | apply below_drew1) | exact HB.out)) hb); clear HB; have HB := n0_; clear n0_; (try clear hb); (try clear hb2); (try clear hk); (try clear hi)) | (go_at_call 74; (with_reducible refine (deadfallref01_digits.calls k1 x3_1 t115 _ A6.out).mono ?_); rintro e w9 ⟨rfl, hb⟩; have n0_ := Aside0.mk (below_step (by repeat (first | (with_reducible first | exact HB.out | apply below_alloc | apply pw_below_drewN | apply below_drew1) | exact HB.out)) hb); clear HB; have HB := n0_; clear n0_; (try clear hb); (try clear hb2); (try clear hk); (try clear hi)))
            go_ret
            exact ⟨by first | rfl | (simp [errW_none, errW_some] <;> rfl) | (simp [*, errW_none, errW_some] <;> rfl), by repeat (first | (with_reducible first | exact HB.out | apply below_alloc | apply pw_below_drewN | apply below_drew1) | exact HB.out)⟩
          · rw [if_neg c7] at H
            have c7b0 : (a0.toList == t115.toList) = false := beq_eq_false_iff_ne.mpr c7
            have c7b1 : (a0.toList != t115.toList) = true := bne_iff_ne.mpr c7
            have H' := Aside0.mk H
            clear H
            go_wp2_with (first | ((with_reducible refine gate_callee (f := 30) rfl ?_); refine goesL_ (some 10) rfl rfl Tryd.func30 (by kernel_rfl) rfl #[.int .i64 x3_1] rfl (by (try simp only [List.map_toArray, List.map_cons, List.map_nil]); first | done | rfl | (simp only [List.length_drop, List.length_take]; rfl)) ?_; (with_reducible refine (deadfallref01_Name.calls x3_1 t114 _ A3.out).mono ?_); rintro e w10 ⟨rfl, hb⟩; refine ⟨_, rfl, ?_⟩; have n0_ := Aside0.mk (below_step (by repeat (first | (with_reducible first | exact HB.out | apply below_alloc | apply pw_below_drewN | apply below_drew1) | exact HB.out)) hb); clear HB; have HB := n0_; clear n0_; (try clear hb); (try clear hb2); (try clear hk); (try clear hi)) | (go_at_call 74; (with_reducible refine (deadfallref01_digits.calls k1 x3_1 t115 _ A6.out).mono ?_); rintro e w11 ⟨rfl, hb⟩; have n0_ := Aside0.mk (below_step (by repeat (first | (with_reducible first | exact HB.out | apply below_alloc | apply pw_below_drewN | apply below_drew1) | exact HB.out)) hb); clear HB; have HB := n0_; clear n0_; (try clear hb); (try clear hb2); (try clear hk); (try clear hi)))
            go_roundg k1
            case measure => have := HK1.out; omega
            case rel => exact ⟨(wrap64 (x3_1 + 1)), (by first | rfl | (simp; done) | (simp [*]; done)), H', ⟨by have := HK1.out; omega⟩, ⟨by repeat (first | (with_reducible first | exact HB.out | apply below_alloc | apply pw_below_drewN | apply below_drew1) | exact HB.out)⟩⟩
      · rw [if_neg c2] at H
        have c2b0 : decide (x3_1 ≤ 31) = false := decide_eq_false c2
        clear c2
        obtain rfl := Option.some.inj H
        go_wp2
        go_ret
        exact ⟨by first | rfl | (simp [errW_none, errW_some] <;> rfl) | (simp [*, errW_none, errW_some] <;> rfl), by repeat (first | (with_reducible first | exact HB.out | apply below_alloc | apply pw_below_drewN | apply below_drew1) | exact HB.out)⟩

/-! ### deadfallref01_Cond: function 27 -/
def deadfallref01_Cond.j0 : Nat → ByteArray → Bool → Option (Int)
  | 0, _, _ => none
  | k + 1, x0, x8 => if x8 = true then (some 0) else ((deadfallref01_Number.f k x0).bind fun t116 => (if t116 = 0 then (some (-1)) else ((deadfallref01_Number.f k x0).bind fun t117 => (some t117))))
def deadfallref01_Cond.f (k : Nat) (a0 : ByteArray) : Option (Int) := if a0.toList = ([48] : List UInt8) then (deadfallref01_Cond.j0 k a0 true) else (deadfallref01_Cond.j0 k a0 (a0.toList == ([69, 88, 73, 84] : List UInt8)))
theorem deadfallref01_Cond.mono_l : ∀ k, (∀ y0 y1, LeO (deadfallref01_Cond.j0 k y0 y1) (deadfallref01_Cond.j0 (k + 1) y0 y1))
  | 0 => fun _ _ r h => by simp [deadfallref01_Cond.j0] at h
  | k + 1 => by
    have ih0 := deadfallref01_Cond.mono_l k
    · intro y0 y1
      unfold deadfallref01_Cond.j0
      repeat' first
      | (with_reducible exact ih0 _ _)
      | (with_reducible exact deadfallref01_Number.mono _ _)
      | (with_reducible exact LeO.refl _)
      | (with_reducible exact LeO.none _)
      | (with_reducible refine LeO.ite ?_ ?_)
      | (with_reducible refine LeO.bind ?_ (fun _ => ?_))
      | exact ih0 _ _
      | exact deadfallref01_Number.mono _ _
      | exact LeO.none _
      | refine LeO.ite ?_ ?_
      | refine LeO.bind ?_ (fun _ => ?_)
theorem deadfallref01_Cond.mono : ∀ a0 k, LeO (deadfallref01_Cond.f k a0) (deadfallref01_Cond.f (k + 1) a0) := by
  intro a0 k
  have ih0 := deadfallref01_Cond.mono_l k
  unfold deadfallref01_Cond.f
  repeat' first
      | (with_reducible exact ih0 _ _)
      | (with_reducible exact deadfallref01_Number.mono _ _)
      | (with_reducible exact LeO.refl _)
      | (with_reducible exact LeO.none _)
      | (with_reducible refine LeO.ite ?_ ?_)
      | (with_reducible refine LeO.bind ?_ (fun _ => ?_))
      | exact ih0 _ _
      | exact deadfallref01_Number.mono _ _
      | exact LeO.none _
      | refine LeO.ite ?_ ?_
      | refine LeO.bind ?_ (fun _ => ?_)
set_option maxHeartbeats 8000000 in
set_option maxRecDepth 100000 in
theorem deadfallref01_Cond.calls (k : Nat) (a0 : ByteArray) (r : Int) (w : World) (h : deadfallref01_Cond.f k a0 = some r) :
    Calls Tryd.prog 27 #[.string a0] w fun e w' => e = .returned (.int .i64 r) ∧ Below w.heap.size w w' := by
  have HB := Aside0.mk (Below.refl w.heap.size w)
  have H : (if a0.toList = ([48] : List UInt8) then (deadfallref01_Cond.j0 k a0 true) else (deadfallref01_Cond.j0 k a0 (a0.toList == ([69, 88, 73, 84] : List UInt8)))) = some r := h
  clear h
  have HC2 := Aside0.mk H
  clear H
  go_enter Tryd.func27, Tryd.ntmps27
  go_upto_region 1 with (fail)
  go_cut [8] (fun v8 wc => ∃ (kq : Nat) (x8_1 : Bool), v8 = .bool x8_1 ∧ Aside0 (deadfallref01_Cond.j0 kq a0 x8_1 = some r) ∧ Aside0 (kq ≤ k) ∧ Aside0 (Below w.heap.size w wc))
  case first =>
    have H := HC2.out
    clear HC2
    by_cases c3 : a0.toList = ([48] : List UInt8)
    · rw [if_pos c3] at H
      have c3b0 : (a0.toList == ([48] : List UInt8)) = true := beq_iff_eq.mpr c3
      have c3b1 : (a0.toList != ([48] : List UInt8)) = false := bne_eq_false_iff_eq.mpr c3
      clear c3
      (first | rw [c3b0] | (simp only [i64_w, i32_w]; rw [c3b0]) | skip)
      have H' := Aside0.mk H
      clear H
      go_wp2
      go_meet
      case rel => exact ⟨_, (true), (by first | rfl | (simp; done) | (simp [*]; done)), H', ⟨by first | omega | exact Nat.le_refl _⟩, ⟨by repeat (first | (with_reducible first | exact HB.out | apply below_alloc | apply pw_below_drewN | apply below_drew1) | exact HB.out)⟩⟩
    · rw [if_neg c3] at H
      have c3b0 : (a0.toList == ([48] : List UInt8)) = false := beq_eq_false_iff_ne.mpr c3
      have c3b1 : (a0.toList != ([48] : List UInt8)) = true := bne_iff_ne.mpr c3
      (first | rw [c3b0] | (simp only [i64_w, i32_w]; rw [c3b0]) | skip)
      have H' := Aside0.mk H
      clear H
      go_wp2
      go_meet
      case rel => exact ⟨_, ((a0.toList == ([69, 88, 73, 84] : List UInt8))), (by first | rfl | (simp; done) | (simp [*]; done)), H', ⟨by first | omega | exact Nat.le_refl _⟩, ⟨by repeat (first | (with_reducible first | exact HB.out | apply below_alloc | apply pw_below_drewN | apply below_drew1) | exact HB.out)⟩⟩
  case rest =>
    clear HC2
    try clear c2
    try clear p2
    try clear c3
    try clear c3b0
    try clear c3b1
    obtain ⟨kq, x8_1, rfl, HA, HJ1, HB⟩ := hcut
    cases kq with
    | zero => exact absurd HA.out (by simp [deadfallref01_Cond.j0])
    | succ kj1 =>
      have H := HA.out
      clear HA
      simp only [deadfallref01_Cond.j0] at H
      by_cases c4 : x8_1 = true
      · subst c4
        have H1 : (some 0) = some r := by rw [if_pos rfl] at H; exact H
        clear H
        have H := H1
        clear H1
        obtain rfl := Option.some.inj H
        go_wp2
        go_ret
        exact ⟨by first | rfl | (simp [errW_none, errW_some] <;> rfl) | (simp [*, errW_none, errW_some] <;> rfl), by repeat (first | (with_reducible first | exact HB.out | apply below_alloc | apply pw_below_drewN | apply below_drew1) | exact HB.out)⟩
      · replace c4 := Bool.eq_false_iff.mpr c4
        subst c4
        have H1 : ((deadfallref01_Number.f kj1 a0).bind fun t116 => (if t116 = 0 then (some (-1)) else ((deadfallref01_Number.f kj1 a0).bind fun t117 => (some t117)))) = some r := by rw [if_neg (show ¬ (false = true) by decide)] at H; exact H
        clear H
        have H := H1
        clear H1
        replace H := Option.bind_eq_some_iff.mp H
        obtain ⟨t116, A50, H⟩ := H
        replace H : (if t116 = 0 then (some (-1)) else ((deadfallref01_Number.f kj1 a0).bind fun t117 => (some t117))) = some r := H
        have A5 := Aside0.mk A50
        clear A50
        by_cases c6 : t116 = 0
        · rw [if_pos c6] at H
          have c6b0 : (t116 == 0) = true := beq_iff_eq.mpr c6
          have c6b1 : (t116 != 0) = false := bne_eq_false_iff_eq.mpr c6
          clear c6
          obtain rfl := Option.some.inj H
          go_wp2_with (first | ((with_reducible refine gate_callee (f := 26) rfl ?_); refine goesL_ (some 10) rfl rfl Tryd.func26 (by kernel_rfl) rfl #[.string a0] rfl (by (try simp only [List.map_toArray, List.map_cons, List.map_nil]); first | done | rfl | (simp only [List.length_drop, List.length_take]; rfl)) ?_; (with_reducible refine (deadfallref01_Number.calls kj1 a0 t116 _ A5.out).mono ?_); rintro e w7 ⟨rfl, hb⟩; refine ⟨_, rfl, ?_⟩; have n0_ := Aside0.mk (below_step (by repeat (first | (with_reducible first | exact HB.out | apply below_alloc | apply pw_below_drewN | apply below_drew1) | exact HB.out)) hb); clear HB; have HB := n0_; clear n0_; (try clear hb); (try clear hb2); (try clear hk); (try clear hi)))
          go_ret
          exact ⟨by first | rfl | (simp [errW_none, errW_some] <;> rfl) | (simp [*, errW_none, errW_some] <;> rfl), by repeat (first | (with_reducible first | exact HB.out | apply below_alloc | apply pw_below_drewN | apply below_drew1) | exact HB.out)⟩
        · rw [if_neg c6] at H
          have c6b0 : (t116 == 0) = false := beq_eq_false_iff_ne.mpr c6
          have c6b1 : (t116 != 0) = true := bne_iff_ne.mpr c6
          replace H := Option.bind_eq_some_iff.mp H
          obtain ⟨t117, A80, H⟩ := H
          replace H : (some t117) = some r := H
          have A8 := Aside0.mk A80
          clear A80
          obtain rfl := Option.some.inj H
          go_wp2_with (first | ((with_reducible refine gate_callee (f := 26) rfl ?_); refine goesL_ (some 10) rfl rfl Tryd.func26 (by kernel_rfl) rfl #[.string a0] rfl (by (try simp only [List.map_toArray, List.map_cons, List.map_nil]); first | done | rfl | (simp only [List.length_drop, List.length_take]; rfl)) ?_; (with_reducible refine (deadfallref01_Number.calls kj1 a0 t116 _ A5.out).mono ?_); rintro e w9 ⟨rfl, hb⟩; refine ⟨_, rfl, ?_⟩; have n0_ := Aside0.mk (below_step (by repeat (first | (with_reducible first | exact HB.out | apply below_alloc | apply pw_below_drewN | apply below_drew1) | exact HB.out)) hb); clear HB; have HB := n0_; clear n0_; (try clear hb); (try clear hb2); (try clear hk); (try clear hi)) | ((with_reducible refine gate_callee (f := 26) rfl ?_); refine goesL_ (some 13) rfl rfl Tryd.func26 (by kernel_rfl) rfl #[.string a0] rfl (by (try simp only [List.map_toArray, List.map_cons, List.map_nil]); first | done | rfl | (simp only [List.length_drop, List.length_take]; rfl)) ?_; (with_reducible refine (deadfallref01_Number.calls kj1 a0 t117 _ A8.out).mono ?_); rintro e w10 ⟨rfl, hb⟩; refine ⟨_, rfl, ?_⟩; have n0_ := Aside0.mk (below_step (by repeat (first | (with_reducible first | exact HB.out | apply below_alloc | apply pw_below_drewN | apply below_drew1) | exact HB.out)) hb); clear HB; have HB := n0_; clear n0_; (try clear hb); (try clear hb2); (try clear hk); (try clear hi)))
          go_ret
          exact ⟨by first | rfl | (simp [errW_none, errW_some] <;> rfl) | (simp [*, errW_none, errW_some] <;> rfl), by repeat (first | (with_reducible first | exact HB.out | apply below_alloc | apply pw_below_drewN | apply below_drew1) | exact HB.out)⟩

/-! ### deadfallref01_Mild: function 32 -/
def deadfallref01_Mild.f (a0 : Int) : Option (Bool) := (deadfallref01_Name.f a0).bind fun t118 => (if t118.toList = ([67, 72, 76, 68] : List UInt8) then (some true) else (if t118.toList = ([67, 79, 78, 84] : List UInt8) then (some true) else (if t118.toList = ([85, 82, 71] : List UInt8) then (some true) else (some (t118.toList == ([87, 73, 78, 67, 72] : List UInt8))))))
set_option maxHeartbeats 8000000 in
set_option maxRecDepth 100000 in
theorem deadfallref01_Mild.calls (a0 : Int) (r : Bool) (w : World) (h : deadfallref01_Mild.f a0 = some r) :
    Calls Tryd.prog 32 #[.int .i64 a0] w fun e w' => e = .returned (.bool r) ∧ Below w.heap.size w w' := by
  have HB := Aside0.mk (Below.refl w.heap.size w)
  have H : ((deadfallref01_Name.f a0).bind fun t118 => (if t118.toList = ([67, 72, 76, 68] : List UInt8) then (some true) else (if t118.toList = ([67, 79, 78, 84] : List UInt8) then (some true) else (if t118.toList = ([85, 82, 71] : List UInt8) then (some true) else (some (t118.toList == ([87, 73, 78, 67, 72] : List UInt8))))))) = some r := h
  clear h
  replace H := Option.bind_eq_some_iff.mp H
  obtain ⟨t118, A20, H⟩ := H
  replace H : (if t118.toList = ([67, 72, 76, 68] : List UInt8) then (some true) else (if t118.toList = ([67, 79, 78, 84] : List UInt8) then (some true) else (if t118.toList = ([85, 82, 71] : List UInt8) then (some true) else (some (t118.toList == ([87, 73, 78, 67, 72] : List UInt8)))))) = some r := H
  have A2 := Aside0.mk A20
  clear A20
  by_cases c3 : t118.toList = ([67, 72, 76, 68] : List UInt8)
  · rw [if_pos c3] at H
    have c3b0 : (t118.toList == ([67, 72, 76, 68] : List UInt8)) = true := beq_iff_eq.mpr c3
    have c3b1 : (t118.toList != ([67, 72, 76, 68] : List UInt8)) = false := bne_eq_false_iff_eq.mpr c3
    clear c3
    obtain rfl := Option.some.inj H
    go_enter Tryd.func32, Tryd.ntmps32
    go_wp2_with (first | ((with_reducible refine gate_callee (f := 30) rfl ?_); refine goesL_ (some 5) rfl rfl Tryd.func30 (by kernel_rfl) rfl #[.int .i64 a0] rfl (by (try simp only [List.map_toArray, List.map_cons, List.map_nil]); first | done | rfl | (simp only [List.length_drop, List.length_take]; rfl)) ?_; (with_reducible refine (deadfallref01_Name.calls a0 t118 _ A2.out).mono ?_); rintro e w4 ⟨rfl, hb⟩; refine ⟨_, rfl, ?_⟩; have n0_ := Aside0.mk (below_step (by repeat (first | (with_reducible first | exact HB.out | apply below_alloc | apply pw_below_drewN | apply below_drew1) | exact HB.out)) hb); clear HB; have HB := n0_; clear n0_; (try clear hb); (try clear hb2); (try clear hk); (try clear hi)))
    go_ret
    exact ⟨by first | rfl | (simp [errW_none, errW_some] <;> rfl) | (simp [*, errW_none, errW_some] <;> rfl), by repeat (first | (with_reducible first | exact HB.out | apply below_alloc | apply pw_below_drewN | apply below_drew1) | exact HB.out)⟩
  · rw [if_neg c3] at H
    have c3b0 : (t118.toList == ([67, 72, 76, 68] : List UInt8)) = false := beq_eq_false_iff_ne.mpr c3
    have c3b1 : (t118.toList != ([67, 72, 76, 68] : List UInt8)) = true := bne_iff_ne.mpr c3
    by_cases c5 : t118.toList = ([67, 79, 78, 84] : List UInt8)
    · rw [if_pos c5] at H
      have c5b0 : (t118.toList == ([67, 79, 78, 84] : List UInt8)) = true := beq_iff_eq.mpr c5
      have c5b1 : (t118.toList != ([67, 79, 78, 84] : List UInt8)) = false := bne_eq_false_iff_eq.mpr c5
      clear c5
      obtain rfl := Option.some.inj H
      go_enter Tryd.func32, Tryd.ntmps32
      go_wp2_with (first | ((with_reducible refine gate_callee (f := 30) rfl ?_); refine goesL_ (some 5) rfl rfl Tryd.func30 (by kernel_rfl) rfl #[.int .i64 a0] rfl (by (try simp only [List.map_toArray, List.map_cons, List.map_nil]); first | done | rfl | (simp only [List.length_drop, List.length_take]; rfl)) ?_; (with_reducible refine (deadfallref01_Name.calls a0 t118 _ A2.out).mono ?_); rintro e w6 ⟨rfl, hb⟩; refine ⟨_, rfl, ?_⟩; have n0_ := Aside0.mk (below_step (by repeat (first | (with_reducible first | exact HB.out | apply below_alloc | apply pw_below_drewN | apply below_drew1) | exact HB.out)) hb); clear HB; have HB := n0_; clear n0_; (try clear hb); (try clear hb2); (try clear hk); (try clear hi)))
      go_ret
      exact ⟨by first | rfl | (simp [errW_none, errW_some] <;> rfl) | (simp [*, errW_none, errW_some] <;> rfl), by repeat (first | (with_reducible first | exact HB.out | apply below_alloc | apply pw_below_drewN | apply below_drew1) | exact HB.out)⟩
    · rw [if_neg c5] at H
      have c5b0 : (t118.toList == ([67, 79, 78, 84] : List UInt8)) = false := beq_eq_false_iff_ne.mpr c5
      have c5b1 : (t118.toList != ([67, 79, 78, 84] : List UInt8)) = true := bne_iff_ne.mpr c5
      by_cases c7 : t118.toList = ([85, 82, 71] : List UInt8)
      · rw [if_pos c7] at H
        have c7b0 : (t118.toList == ([85, 82, 71] : List UInt8)) = true := beq_iff_eq.mpr c7
        have c7b1 : (t118.toList != ([85, 82, 71] : List UInt8)) = false := bne_eq_false_iff_eq.mpr c7
        clear c7
        obtain rfl := Option.some.inj H
        go_enter Tryd.func32, Tryd.ntmps32
        go_wp2_with (first | ((with_reducible refine gate_callee (f := 30) rfl ?_); refine goesL_ (some 5) rfl rfl Tryd.func30 (by kernel_rfl) rfl #[.int .i64 a0] rfl (by (try simp only [List.map_toArray, List.map_cons, List.map_nil]); first | done | rfl | (simp only [List.length_drop, List.length_take]; rfl)) ?_; (with_reducible refine (deadfallref01_Name.calls a0 t118 _ A2.out).mono ?_); rintro e w8 ⟨rfl, hb⟩; refine ⟨_, rfl, ?_⟩; have n0_ := Aside0.mk (below_step (by repeat (first | (with_reducible first | exact HB.out | apply below_alloc | apply pw_below_drewN | apply below_drew1) | exact HB.out)) hb); clear HB; have HB := n0_; clear n0_; (try clear hb); (try clear hb2); (try clear hk); (try clear hi)))
        go_ret
        exact ⟨by first | rfl | (simp [errW_none, errW_some] <;> rfl) | (simp [*, errW_none, errW_some] <;> rfl), by repeat (first | (with_reducible first | exact HB.out | apply below_alloc | apply pw_below_drewN | apply below_drew1) | exact HB.out)⟩
      · rw [if_neg c7] at H
        have c7b0 : (t118.toList == ([85, 82, 71] : List UInt8)) = false := beq_eq_false_iff_ne.mpr c7
        have c7b1 : (t118.toList != ([85, 82, 71] : List UInt8)) = true := bne_iff_ne.mpr c7
        obtain rfl := Option.some.inj H
        go_enter Tryd.func32, Tryd.ntmps32
        go_wp2_with (first | ((with_reducible refine gate_callee (f := 30) rfl ?_); refine goesL_ (some 5) rfl rfl Tryd.func30 (by kernel_rfl) rfl #[.int .i64 a0] rfl (by (try simp only [List.map_toArray, List.map_cons, List.map_nil]); first | done | rfl | (simp only [List.length_drop, List.length_take]; rfl)) ?_; (with_reducible refine (deadfallref01_Name.calls a0 t118 _ A2.out).mono ?_); rintro e w9 ⟨rfl, hb⟩; refine ⟨_, rfl, ?_⟩; have n0_ := Aside0.mk (below_step (by repeat (first | (with_reducible first | exact HB.out | apply below_alloc | apply pw_below_drewN | apply below_drew1) | exact HB.out)) hb); clear HB; have HB := n0_; clear n0_; (try clear hb); (try clear hb2); (try clear hk); (try clear hi)))
        go_ret
        exact ⟨by first | rfl | (simp [errW_none, errW_some] <;> rfl) | (simp [*, errW_none, errW_some] <;> rfl), by repeat (first | (with_reducible first | exact HB.out | apply below_alloc | apply pw_below_drewN | apply below_drew1) | exact HB.out)⟩

/-- THE ONE PURE STATEMENT of deadfallref01_Mild: yours. -/
def deadfallref01_Mild.Pure : Prop := ∀ (a0 : Int), (Lit.int .i64 a0).wf = true → deadfallref01_Mild.f a0 = some true
theorem deadfallref01_Mild.walk (P : deadfallref01_Mild.Pure) (a0 : Int) (w : World) (w0 : (Lit.int .i64 a0).wf = true) :
    Calls Tryd.prog 32 #[.int .i64 a0] w fun e w' => e = .returned (.bool true) ∧ Below w.heap.size w w' := by
  have h := P a0 w0
  refine (deadfallref01_Mild.calls a0 true w h).mono ?_
  rintro e w' ⟨rfl, hd⟩
  exact ⟨rfl, hd⟩

/-! ### deadfallref01_Fixed: function 33 -/
def deadfallref01_Fixed.f (a0 : Int) : Option (Bool) := (deadfallref01_Name.f a0).bind fun t119 => (if t119.toList = ([75, 73, 76, 76] : List UInt8) then (some true) else ((deadfallref01_Name.f a0).bind fun t120 => (some (t120.toList == ([83, 84, 79, 80] : List UInt8)))))
set_option maxHeartbeats 8000000 in
set_option maxRecDepth 100000 in
theorem deadfallref01_Fixed.calls (a0 : Int) (r : Bool) (w : World) (h : deadfallref01_Fixed.f a0 = some r) :
    Calls Tryd.prog 33 #[.int .i64 a0] w fun e w' => e = .returned (.bool r) ∧ Below w.heap.size w w' := by
  have HB := Aside0.mk (Below.refl w.heap.size w)
  have H : ((deadfallref01_Name.f a0).bind fun t119 => (if t119.toList = ([75, 73, 76, 76] : List UInt8) then (some true) else ((deadfallref01_Name.f a0).bind fun t120 => (some (t120.toList == ([83, 84, 79, 80] : List UInt8)))))) = some r := h
  clear h
  replace H := Option.bind_eq_some_iff.mp H
  obtain ⟨t119, A20, H⟩ := H
  replace H : (if t119.toList = ([75, 73, 76, 76] : List UInt8) then (some true) else ((deadfallref01_Name.f a0).bind fun t120 => (some (t120.toList == ([83, 84, 79, 80] : List UInt8))))) = some r := H
  have A2 := Aside0.mk A20
  clear A20
  by_cases c3 : t119.toList = ([75, 73, 76, 76] : List UInt8)
  · rw [if_pos c3] at H
    have c3b0 : (t119.toList == ([75, 73, 76, 76] : List UInt8)) = true := beq_iff_eq.mpr c3
    have c3b1 : (t119.toList != ([75, 73, 76, 76] : List UInt8)) = false := bne_eq_false_iff_eq.mpr c3
    clear c3
    obtain rfl := Option.some.inj H
    go_enter Tryd.func33, Tryd.ntmps33
    go_wp2_with (first | ((with_reducible refine gate_callee (f := 30) rfl ?_); refine goesL_ (some 4) rfl rfl Tryd.func30 (by kernel_rfl) rfl #[.int .i64 a0] rfl (by (try simp only [List.map_toArray, List.map_cons, List.map_nil]); first | done | rfl | (simp only [List.length_drop, List.length_take]; rfl)) ?_; (with_reducible refine (deadfallref01_Name.calls a0 t119 _ A2.out).mono ?_); rintro e w4 ⟨rfl, hb⟩; refine ⟨_, rfl, ?_⟩; have n0_ := Aside0.mk (below_step (by repeat (first | (with_reducible first | exact HB.out | apply below_alloc | apply pw_below_drewN | apply below_drew1) | exact HB.out)) hb); clear HB; have HB := n0_; clear n0_; (try clear hb); (try clear hb2); (try clear hk); (try clear hi)))
    go_ret
    exact ⟨by first | rfl | (simp [errW_none, errW_some] <;> rfl) | (simp [*, errW_none, errW_some] <;> rfl), by repeat (first | (with_reducible first | exact HB.out | apply below_alloc | apply pw_below_drewN | apply below_drew1) | exact HB.out)⟩
  · rw [if_neg c3] at H
    have c3b0 : (t119.toList == ([75, 73, 76, 76] : List UInt8)) = false := beq_eq_false_iff_ne.mpr c3
    have c3b1 : (t119.toList != ([75, 73, 76, 76] : List UInt8)) = true := bne_iff_ne.mpr c3
    replace H := Option.bind_eq_some_iff.mp H
    obtain ⟨t120, A50, H⟩ := H
    replace H : (some (t120.toList == ([83, 84, 79, 80] : List UInt8))) = some r := H
    have A5 := Aside0.mk A50
    clear A50
    obtain rfl := Option.some.inj H
    go_enter Tryd.func33, Tryd.ntmps33
    go_wp2_with (first | ((with_reducible refine gate_callee (f := 30) rfl ?_); refine goesL_ (some 4) rfl rfl Tryd.func30 (by kernel_rfl) rfl #[.int .i64 a0] rfl (by (try simp only [List.map_toArray, List.map_cons, List.map_nil]); first | done | rfl | (simp only [List.length_drop, List.length_take]; rfl)) ?_; (with_reducible refine (deadfallref01_Name.calls a0 t119 _ A2.out).mono ?_); rintro e w6 ⟨rfl, hb⟩; refine ⟨_, rfl, ?_⟩; have n0_ := Aside0.mk (below_step (by repeat (first | (with_reducible first | exact HB.out | apply below_alloc | apply pw_below_drewN | apply below_drew1) | exact HB.out)) hb); clear HB; have HB := n0_; clear n0_; (try clear hb); (try clear hb2); (try clear hk); (try clear hi)) | (go_at_call 30; (with_reducible refine (deadfallref01_Name.calls a0 t120 _ A5.out).mono ?_); rintro e w7 ⟨rfl, hb⟩; have n0_ := Aside0.mk (below_step (by repeat (first | (with_reducible first | exact HB.out | apply below_alloc | apply pw_below_drewN | apply below_drew1) | exact HB.out)) hb); clear HB; have HB := n0_; clear n0_; (try clear hb); (try clear hb2); (try clear hk); (try clear hi)))
    go_ret
    exact ⟨by first | rfl | (simp [errW_none, errW_some] <;> rfl) | (simp [*, errW_none, errW_some] <;> rfl), by repeat (first | (with_reducible first | exact HB.out | apply below_alloc | apply pw_below_drewN | apply below_drew1) | exact HB.out)⟩

/-- THE ONE PURE STATEMENT of deadfallref01_Fixed: yours. -/
def deadfallref01_Fixed.Pure : Prop := ∀ (a0 : Int), (Lit.int .i64 a0).wf = true → deadfallref01_Fixed.f a0 = some true
theorem deadfallref01_Fixed.walk (P : deadfallref01_Fixed.Pure) (a0 : Int) (w : World) (w0 : (Lit.int .i64 a0).wf = true) :
    Calls Tryd.prog 33 #[.int .i64 a0] w fun e w' => e = .returned (.bool true) ∧ Below w.heap.size w w' := by
  have h := P a0 w0
  refine (deadfallref01_Fixed.calls a0 true w h).mono ?_
  rintro e w' ⟨rfl, hd⟩
  exact ⟨rfl, hd⟩

/-! ### sig_Is: function 28 -/
def sig_Is.f (a0 : Int) : Option (Bool) := if a0 > 0 then (some (decide (a0 < 32))) else (some false)
set_option maxHeartbeats 8000000 in
set_option maxRecDepth 100000 in
theorem sig_Is.calls (a0 : Int) (r : Bool) (w : World) (h : sig_Is.f a0 = some r) :
    Calls Tryd.prog 28 #[.int .i64 a0] w fun e w' => e = .returned (.bool r) ∧ Drawn0 w w' := by
  have H : (if a0 > 0 then (some (decide (a0 < 32))) else (some false)) = some r := h
  clear h
  by_cases c2 : a0 > 0
  · rw [if_pos c2] at H
    have c2b0 : decide (0 < a0) = true := decide_eq_true c2
    clear c2
    obtain rfl := Option.some.inj H
    go_enter Tryd.func28, Tryd.ntmps28
    go_wp2
    go_ret
    exact ⟨by first | rfl | (simp; done) | (simp [*]; done), by repeat (first | exact Drawn0.refl _ | apply Drawn0.step)⟩
  · rw [if_neg c2] at H
    have c2b0 : decide (0 < a0) = false := decide_eq_false c2
    clear c2
    obtain rfl := Option.some.inj H
    go_enter Tryd.func28, Tryd.ntmps28
    go_wp2
    go_ret
    exact ⟨by first | rfl | (simp; done) | (simp [*]; done), by repeat (first | exact Drawn0.refl _ | apply Drawn0.step)⟩

/-- THE ONE PURE STATEMENT of sig_Is: yours. -/
def sig_Is.Pure : Prop := ∀ (a0 : Int), (Lit.int .i64 a0).wf = true → sig_Is.f a0 = some true
theorem sig_Is.walk (P : sig_Is.Pure) (a0 : Int) (w : World) (w0 : (Lit.int .i64 a0).wf = true) :
    Calls Tryd.prog 28 #[.int .i64 a0] w fun e w' => e = .returned (.bool true) ∧ Below w.heap.size w w' := by
  have h := P a0 w0
  refine (sig_Is.calls a0 true w h).mono ?_
  rintro e w' ⟨rfl, hd⟩
  exact ⟨rfl, hd.below⟩

/-! ### sig_Mild: function 31 -/
def sig_Mild.f (a0 : Int) : Option (Bool) := if a0 = 17 then (some true) else (if a0 = 18 then (some true) else (if a0 = 23 then (some true) else (some (a0 == 28))))
set_option maxHeartbeats 8000000 in
set_option maxRecDepth 100000 in
theorem sig_Mild.calls (a0 : Int) (r : Bool) (w : World) (h : sig_Mild.f a0 = some r) :
    Calls Tryd.prog 31 #[.int .i64 a0] w fun e w' => e = .returned (.bool r) ∧ Drawn0 w w' := by
  have H : (if a0 = 17 then (some true) else (if a0 = 18 then (some true) else (if a0 = 23 then (some true) else (some (a0 == 28))))) = some r := h
  clear h
  by_cases c2 : a0 = 17
  · rw [if_pos c2] at H
    have c2b0 : (a0 == 17) = true := beq_iff_eq.mpr c2
    have c2b1 : (a0 != 17) = false := bne_eq_false_iff_eq.mpr c2
    clear c2
    obtain rfl := Option.some.inj H
    go_enter Tryd.func31, Tryd.ntmps31
    go_wp2
    go_ret
    exact ⟨by first | rfl | (simp; done) | (simp [*]; done), by repeat (first | exact Drawn0.refl _ | apply Drawn0.step)⟩
  · rw [if_neg c2] at H
    have c2b0 : (a0 == 17) = false := beq_eq_false_iff_ne.mpr c2
    have c2b1 : (a0 != 17) = true := bne_iff_ne.mpr c2
    by_cases c3 : a0 = 18
    · rw [if_pos c3] at H
      have c3b0 : (a0 == 18) = true := beq_iff_eq.mpr c3
      have c3b1 : (a0 != 18) = false := bne_eq_false_iff_eq.mpr c3
      clear c3
      obtain rfl := Option.some.inj H
      go_enter Tryd.func31, Tryd.ntmps31
      go_wp2
      go_ret
      exact ⟨by first | rfl | (simp; done) | (simp [*]; done), by repeat (first | exact Drawn0.refl _ | apply Drawn0.step)⟩
    · rw [if_neg c3] at H
      have c3b0 : (a0 == 18) = false := beq_eq_false_iff_ne.mpr c3
      have c3b1 : (a0 != 18) = true := bne_iff_ne.mpr c3
      by_cases c4 : a0 = 23
      · rw [if_pos c4] at H
        have c4b0 : (a0 == 23) = true := beq_iff_eq.mpr c4
        have c4b1 : (a0 != 23) = false := bne_eq_false_iff_eq.mpr c4
        clear c4
        obtain rfl := Option.some.inj H
        go_enter Tryd.func31, Tryd.ntmps31
        go_wp2
        go_ret
        exact ⟨by first | rfl | (simp; done) | (simp [*]; done), by repeat (first | exact Drawn0.refl _ | apply Drawn0.step)⟩
      · rw [if_neg c4] at H
        have c4b0 : (a0 == 23) = false := beq_eq_false_iff_ne.mpr c4
        have c4b1 : (a0 != 23) = true := bne_iff_ne.mpr c4
        obtain rfl := Option.some.inj H
        go_enter Tryd.func31, Tryd.ntmps31
        go_wp2
        go_ret
        exact ⟨by first | rfl | (simp; done) | (simp [*]; done), by repeat (first | exact Drawn0.refl _ | apply Drawn0.step)⟩

/-- THE ONE PURE STATEMENT of sig_Mild: yours. -/
def sig_Mild.Pure : Prop := ∀ (a0 : Int), (Lit.int .i64 a0).wf = true → sig_Mild.f a0 = some true
theorem sig_Mild.walk (P : sig_Mild.Pure) (a0 : Int) (w : World) (w0 : (Lit.int .i64 a0).wf = true) :
    Calls Tryd.prog 31 #[.int .i64 a0] w fun e w' => e = .returned (.bool true) ∧ Below w.heap.size w w' := by
  have h := P a0 w0
  refine (sig_Mild.calls a0 true w h).mono ?_
  rintro e w' ⟨rfl, hd⟩
  exact ⟨rfl, hd.below⟩

/-! ### sig_Fixed: function 15 -/
def sig_Fixed.f (a0 : Int) : Option (Bool) := if a0 = 9 then (some true) else (some (a0 == 19))
set_option maxHeartbeats 8000000 in
set_option maxRecDepth 100000 in
theorem sig_Fixed.calls (a0 : Int) (r : Bool) (w : World) (h : sig_Fixed.f a0 = some r) :
    Calls Tryd.prog 15 #[.int .i64 a0] w fun e w' => e = .returned (.bool r) ∧ Drawn0 w w' := by
  have H : (if a0 = 9 then (some true) else (some (a0 == 19))) = some r := h
  clear h
  by_cases c2 : a0 = 9
  · rw [if_pos c2] at H
    have c2b0 : (a0 == 9) = true := beq_iff_eq.mpr c2
    have c2b1 : (a0 != 9) = false := bne_eq_false_iff_eq.mpr c2
    clear c2
    obtain rfl := Option.some.inj H
    go_enter Tryd.func15, Tryd.ntmps15
    go_wp2
    go_ret
    exact ⟨by first | rfl | (simp; done) | (simp [*]; done), by repeat (first | exact Drawn0.refl _ | apply Drawn0.step)⟩
  · rw [if_neg c2] at H
    have c2b0 : (a0 == 9) = false := beq_eq_false_iff_ne.mpr c2
    have c2b1 : (a0 != 9) = true := bne_iff_ne.mpr c2
    obtain rfl := Option.some.inj H
    go_enter Tryd.func15, Tryd.ntmps15
    go_wp2
    go_ret
    exact ⟨by first | rfl | (simp; done) | (simp [*]; done), by repeat (first | exact Drawn0.refl _ | apply Drawn0.step)⟩

/-- THE ONE PURE STATEMENT of sig_Fixed: yours. -/
def sig_Fixed.Pure : Prop := ∀ (a0 : Int), (Lit.int .i64 a0).wf = true → sig_Fixed.f a0 = some true
theorem sig_Fixed.walk (P : sig_Fixed.Pure) (a0 : Int) (w : World) (w0 : (Lit.int .i64 a0).wf = true) :
    Calls Tryd.prog 15 #[.int .i64 a0] w fun e w' => e = .returned (.bool true) ∧ Below w.heap.size w w' := by
  have h := P a0 w0
  refine (sig_Fixed.calls a0 true w h).mono ?_
  rintro e w' ⟨rfl, hd⟩
  exact ⟨rfl, hd.below⟩

end Go.Proofs.YtdglcnchdhojnaaDoor.R
