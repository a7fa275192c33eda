/- FrameRuns: what the printed functions of the document answer, by the items' kinds: plain laws. -/
import Derived.Test.YtkepmbkghmkodaaRunPure
import Derived.Test.YtkepmbkghmkodaaWeights5
import Derived.Test.YtkepmbkghmkodaaQ4
import Derived.Test.YtkepmbkghmkodaaQ5
namespace Go.Proofs.Ytkepmbkghmkodaa.Frame
open Go.RowKit Go.Proofs.YtkepmbkghmkodaaW.PrintWords Go.Proofs.Ytkepmbkghmkodaa.Q Go.Proofs.Ytkepmbkghmkodaa.NodeOps Go.Proofs.Ytkepmbkghmkodaa.Weights
set_option linter.unusedVariables false
set_option linter.unusedSimpArgs false
theorem st_ev (l : List ByteArray) (hl : l.length ≤ 9000000000000000000) : ∀ (d i : Nat), l.length - i ≤ d → i ≤ l.length → Ev (fun n => deadfallref09_SameTexts.l0 n l l (l.length : Int) (i : Int)) true := by
  intro d
  induction d with
  | zero =>
    intro i hd hi
    refine Ev.step (f := fun _ => some true) (fun k => ?_) (Ev.now _)
    show deadfallref09_SameTexts.l0 (k + 1) l l (l.length : Int) (i : Int) = _
    rw [deadfallref09_SameTexts.l0, if_neg (by omega)]
  | succ d ih =>
    intro i hd hi
    by_cases hlt : i < l.length
    · refine Ev.step (fun k => ?_) (ih (i + 1) (by omega) (by omega))
      show deadfallref09_SameTexts.l0 (k + 1) l l (l.length : Int) (i : Int) = _
      rw [deadfallref09_SameTexts.l0, if_pos (by omega), if_pos (by omega), if_pos (by omega), if_pos (by omega), if_pos rfl, wr ((i : Int) + 1) (by omega) (by omega)]
      rfl
    · refine Ev.step (f := fun _ => some true) (fun k => ?_) (Ev.now _)
      show deadfallref09_SameTexts.l0 (k + 1) l l (l.length : Int) (i : Int) = _
      rw [deadfallref09_SameTexts.l0, if_neg (by omega)]
theorem sameTexts_ev (l : List ByteArray) (hl : l.length ≤ 9000000000000000000) : Ev (fun n => deadfallref09_SameTexts.f n l l) true := by
  refine Ev.congr (fun k => ?_) (st_ev l hl _ 0 (Nat.le_refl _) (Nat.zero_le _))
  show deadfallref09_SameTexts.f k l l = _
  rw [deadfallref09_SameTexts.f, if_pos rfl]
  rfl
theorem si_ev (l : List Int) (hl : l.length ≤ 9000000000000000000) : ∀ (d i : Nat), l.length - i ≤ d → i ≤ l.length → Ev (fun n => deadfallref12_SameInts.l0 n l l (l.length : Int) (i : Int)) true := by
  intro d
  induction d with
  | zero =>
    intro i hd hi
    refine Ev.step (f := fun _ => some true) (fun k => ?_) (Ev.now _)
    show deadfallref12_SameInts.l0 (k + 1) l l (l.length : Int) (i : Int) = _
    rw [deadfallref12_SameInts.l0, if_neg (by omega)]
  | succ d ih =>
    intro i hd hi
    by_cases hlt : i < l.length
    · refine Ev.step (fun k => ?_) (ih (i + 1) (by omega) (by omega))
      show deadfallref12_SameInts.l0 (k + 1) l l (l.length : Int) (i : Int) = _
      rw [deadfallref12_SameInts.l0, if_pos (by omega), if_pos (by omega), if_pos (by omega), if_pos (by omega), if_pos rfl, wr ((i : Int) + 1) (by omega) (by omega)]
      rfl
    · refine Ev.step (f := fun _ => some true) (fun k => ?_) (Ev.now _)
      show deadfallref12_SameInts.l0 (k + 1) l l (l.length : Int) (i : Int) = _
      rw [deadfallref12_SameInts.l0, if_neg (by omega)]
theorem sameInts_ev (l : List Int) (hl : l.length ≤ 9000000000000000000) : Ev (fun n => deadfallref12_SameInts.f n l l) true := by
  refine Ev.congr (fun k => ?_) (si_ev l hl _ 0 (Nat.le_refl _) (Nat.zero_le _))
  show deadfallref12_SameInts.f k l l = _
  rw [deadfallref12_SameInts.f, if_pos rfl]
  rfl
theorem wall_f (k : Int) : deadfallref15_wall.f k = some (isWall k) := by
  unfold deadfallref15_wall.f isWall isAct
  by_cases h1 : k = 9
  · subst h1; rfl
  · rw [if_neg h1, show (k == 9) = false from beq_eq_false_iff_ne.2 h1]
    by_cases h2 : k = 12
    · subst h2; rfl
    · rw [if_neg h2, show (k == 12) = false from beq_eq_false_iff_ne.2 h2]; rfl
theorem loop_f (k : Int) : deadfallref15_loop.f k = some (isLoop k) := by
  unfold deadfallref15_loop.f isLoop
  by_cases h1 : k = 6
  · subst h1; rfl
  · rw [if_neg h1, show (k == 6) = false from beq_eq_false_iff_ne.2 h1]
    by_cases h2 : k = 7
    · subst h2; rfl
    · rw [if_neg h2, show (k == 7) = false from beq_eq_false_iff_ne.2 h2]; rfl
/-- What the walks know of a row of values: kinds and statuses. -/
structure Likes (vs : List S74) (xs : List It) : Prop where
  len : vs.length = xs.length
  kind : ∀ j (h : j < xs.length), (rd_T74 vs (j : Int)).f0 = xs[j].kind
  status : ∀ j (h : j < xs.length), (rd_T74 vs (j : Int)).f3 = xs[j].status
variable {vs : List S74} {xs : List It}
theorem loops_at (hk : Likes vs xs) (hl : xs.length ≤ 1000000) : ∀ (j : Nat) (acc : List Int), j ≤ xs.length → acc.length + j ≤ xs.length → Ev (fun n => deadfallref15_loops.l0 n vs acc ((j : Int) - 1)) (acc ++ lpsK ((xs.take j).reverse.map It.kind))
  | 0, acc, hj, ha => by
    refine Ev.step (f := fun _ => some (acc ++ lpsK ((xs.take 0).reverse.map It.kind))) (fun k => ?_) (Ev.now _)
    show deadfallref15_loops.l0 (k + 1) vs acc (((0 : Nat) : Int) - 1) = _
    rw [deadfallref15_loops.l0, if_neg (by omega)]
    simp [lpsK]
  | j + 1, acc, hj, ha => by
    have hlt : j < xs.length := by omega
    have e : (((j + 1 : Nat) : Int) - 1) = (j : Int) := by omega
    rw [take_rev hlt, List.map_cons, e]
    have hw := wall_f (xs[j].kind)
    have hp := loop_f (xs[j].kind)
    have hn := hk.len
    unfold lpsK
    by_cases hwl : isWall xs[j].kind = true
    · rw [if_pos hwl, List.append_nil]
      refine Ev.step (f := fun _ => some acc) (fun k => ?_) (Ev.now _)
      show deadfallref15_loops.l0 (k + 1) vs acc (j : Int) = _
      rw [deadfallref15_loops.l0, if_pos (by omega), if_pos (by omega), if_pos (by omega), hk.kind j hlt, hw, Option.bind_some, if_pos hwl]
    · rw [if_neg hwl]
      by_cases hlp : isLoop xs[j].kind = true
      · rw [if_pos hlp]
        have ih := loops_at hk hl j (acc ++ [(j : Int)]) (by omega) (by simp; omega)
        rw [show acc ++ ((((xs.take j).reverse.map It.kind).length : Int) :: lpsK ((xs.take j).reverse.map It.kind)) = acc ++ [(j : Int)] ++ lpsK ((xs.take j).reverse.map It.kind) by simp; omega]
        refine Ev.step (fun k => ?_) ih
        show deadfallref15_loops.l0 (k + 1) vs acc (j : Int) = _
        rw [deadfallref15_loops.l0, if_pos (by omega), if_pos (by omega), if_pos (by omega), hk.kind j hlt, hw, Option.bind_some, if_neg hwl, hp, Option.bind_some, if_pos hlp, if_pos (by omega), wr _ (by omega) (by omega)]
      · rw [if_neg hlp]
        have ih := loops_at hk hl j acc (by omega) (by omega)
        refine Ev.step (fun k => ?_) ih
        show deadfallref15_loops.l0 (k + 1) vs acc (j : Int) = _
        rw [deadfallref15_loops.l0, if_pos (by omega), if_pos (by omega), if_pos (by omega), hk.kind j hlt, hw, Option.bind_some, if_neg hwl, hp, Option.bind_some, if_neg hlp, wr _ (by omega) (by omega)]
theorem loops_ev (hk : Likes vs xs) (hl : xs.length ≤ 1000000) : Ev (fun n => deadfallref15_loops.f n vs) (lpsK (xs.reverse.map It.kind)) := by
  have h := loops_at hk hl xs.length [] (Nat.le_refl _) (by simp)
  rw [List.take_length, List.nil_append] at h
  refine Ev.congr (fun k => ?_) h
  show deadfallref15_loops.f k vs = _
  have hn := hk.len
  rw [deadfallref15_loops.f, wr _ (by omega) (by omega), hn]
theorem loopsN_ev (hk : Likes vs xs) (hl : xs.length ≤ 1000000) : Ev (fun n => deadfallref15_Loops.f n vs) (cntR xs.reverse : Int) := by
  obtain ⟨k0, h0⟩ := loops_ev hk hl
  refine ⟨k0, fun k h => ?_⟩
  show deadfallref15_Loops.f k vs = _
  have h1 : deadfallref15_loops.f k vs = _ := h0 k h
  rw [deadfallref15_Loops.f, h1, Option.bind_some, lpsK_len, cntR_K]
theorem saved_at (hk : Likes vs xs) (hl : xs.length ≤ 1000000) : ∀ (j : Nat), j ≤ xs.length → Ev (fun n => deadfallref15_Saved.l0 n vs ((j : Int) - 1)) (savN (xs.take j).reverse, savB (xs.take j).reverse)
  | 0, hj => by
    refine Ev.step (f := fun _ => some (0, false)) (fun k => ?_) (Ev.now _)
    show deadfallref15_Saved.l0 (k + 1) vs (((0 : Nat) : Int) - 1) = _
    rw [deadfallref15_Saved.l0, if_neg (by omega)]
  | j + 1, hj => by
    have hlt : j < xs.length := by omega
    have e : (((j + 1 : Nat) : Int) - 1) = (j : Int) := by omega
    rw [take_rev hlt, e]
    have hn := hk.len
    by_cases h1 : xs[j].kind = 12
    · rw [show savN (xs[j] :: (xs.take j).reverse) = xs[j].status by show (if isAct xs[j].kind = true then _ else _) = _; rw [h1]; rfl, show savB (xs[j] :: (xs.take j).reverse) = true by show (isAct xs[j].kind || _) = true; rw [h1]; rfl]
      refine Ev.step (f := fun _ => some (xs[j].status, true)) (fun k => ?_) (Ev.now _)
      show deadfallref15_Saved.l0 (k + 1) vs (j : Int) = _
      rw [deadfallref15_Saved.l0, if_pos (by omega), if_pos (by omega), if_pos (by omega), hk.kind j hlt, if_pos h1, hk.status j hlt]
    · by_cases h2 : xs[j].kind = 13
      · rw [show savN (xs[j] :: (xs.take j).reverse) = xs[j].status by show (if isAct xs[j].kind = true then _ else _) = _; rw [h2]; rfl, show savB (xs[j] :: (xs.take j).reverse) = true by show (isAct xs[j].kind || _) = true; rw [h2]; rfl]
        refine Ev.step (f := fun _ => some (xs[j].status, true)) (fun k => ?_) (Ev.now _)
        show deadfallref15_Saved.l0 (k + 1) vs (j : Int) = _
        rw [deadfallref15_Saved.l0, if_pos (by omega), if_pos (by omega), if_pos (by omega), hk.kind j hlt, if_neg h1, if_pos h2, hk.status j hlt]
      · have hz : isAct xs[j].kind = false := by unfold isAct; rw [beq_eq_false_iff_ne.2 h1, beq_eq_false_iff_ne.2 h2]; rfl
        rw [show savN (xs[j] :: (xs.take j).reverse) = savN (xs.take j).reverse by show (if isAct xs[j].kind = true then _ else _) = _; rw [hz]; rfl, show savB (xs[j] :: (xs.take j).reverse) = savB (xs.take j).reverse by show (isAct xs[j].kind || _) = _; rw [hz]; rfl]
        refine Ev.step (fun k => ?_) (saved_at hk hl j (by omega))
        show deadfallref15_Saved.l0 (k + 1) vs (j : Int) = _
        rw [deadfallref15_Saved.l0, if_pos (by omega), if_pos (by omega), if_pos (by omega), hk.kind j hlt, if_neg h1, if_neg h2, wr _ (by omega) (by omega)]
theorem saved_ev (hk : Likes vs xs) (hl : xs.length ≤ 1000000) : Ev (fun n => deadfallref15_Saved.f n vs) (savN xs.reverse, savB xs.reverse) := by
  have h := saved_at hk hl xs.length (Nat.le_refl _)
  rw [List.take_length] at h
  refine Ev.congr (fun k => ?_) h
  show deadfallref15_Saved.f k vs = _
  have hn := hk.len
  rw [deadfallref15_Saved.f, wr _ (by omega) (by omega), hn]
/-- An item that a memory can hold. -/
structure FitItem (v : S74) : Prop where
  node : FitNode v.f1
  words : v.f5.length ≤ 9000000000000000000
  pids : v.f6.length ≤ 9000000000000000000
theorem great_at (vs : List S74) (hf : ∀ v ∈ vs, FitItem v) (hl : vs.length ≤ 9000000000000000000) : ∀ (d i : Nat), vs.length - i ≤ d → i ≤ vs.length → ∃ b, Ev (fun n => deadfalllaw15_great.l0 n vs vs (vs.length : Int) (i : Int)) b ∧ (b = false → vs.length ≤ 40) := by
  intro d
  induction d with
  | zero =>
    intro i hd hi
    refine ⟨_, Ev.step (f := fun _ => some (decide ((vs.length : Int) > 40))) (fun k => ?_) (Ev.now _), fun h => by have := of_decide_eq_false h; omega⟩
    show deadfalllaw15_great.l0 (k + 1) vs vs (vs.length : Int) (i : Int) = _
    rw [deadfalllaw15_great.l0, if_neg (by omega)]
  | succ d ih =>
    intro i hd hi
    by_cases hlt : i < vs.length
    · by_cases h1 : ((rd_T74 vs (i : Int)).f5.length : Int) > 50
      · refine ⟨true, Ev.step (f := fun _ => some true) (fun k => ?_) (Ev.now _), fun h => by cases h⟩
        show deadfalllaw15_great.l0 (k + 1) vs vs (vs.length : Int) (i : Int) = _
        rw [deadfalllaw15_great.l0, if_pos (by omega), if_pos (by omega), if_pos (by omega), if_pos h1]
      · by_cases h2 : ((rd_T74 vs (i : Int)).f6.length : Int) > 50
        · refine ⟨true, Ev.step (f := fun _ => some true) (fun k => ?_) (Ev.now _), fun h => by cases h⟩
          show deadfalllaw15_great.l0 (k + 1) vs vs (vs.length : Int) (i : Int) = _
          rw [deadfalllaw15_great.l0, if_pos (by omega), if_pos (by omega), if_pos (by omega), if_neg h1, if_pos h2]
        · obtain ⟨t, t0, t1, ht⟩ := w05 (rd_T74 vs (i : Int)).f1 (hf _ (rd_mem vs _ i hlt)).node
          by_cases h3 : t > 300
          · refine ⟨true, via ht (h' := fun _ => some true) (Ev.now _) (fun k hk => ?_), fun h => by cases h⟩
            unfold W05 at hk
            show deadfalllaw15_great.l0 (k + 1) vs vs (vs.length : Int) (i : Int) = _
            rw [deadfalllaw15_great.l0, if_pos (by omega), if_pos (by omega), if_pos (by omega), if_neg h1, if_neg h2, hk, Option.bind_some, if_pos h3]
          · obtain ⟨b, hb, hbf⟩ := ih (i + 1) (by omega) (by omega)
            refine ⟨b, via ht hb (fun k hk => ?_), hbf⟩
            unfold W05 at hk
            show deadfalllaw15_great.l0 (k + 1) vs vs (vs.length : Int) (i : Int) = _
            rw [deadfalllaw15_great.l0, if_pos (by omega), if_pos (by omega), if_pos (by omega), if_neg h1, if_neg h2, hk, Option.bind_some, if_neg h3, wr ((i : Int) + 1) (by omega) (by omega)]
            rfl
    · refine ⟨_, Ev.step (f := fun _ => some (decide ((vs.length : Int) > 40))) (fun k => ?_) (Ev.now _), fun h => by have := of_decide_eq_false h; omega⟩
      show deadfalllaw15_great.l0 (k + 1) vs vs (vs.length : Int) (i : Int) = _
      rw [deadfalllaw15_great.l0, if_neg (by omega)]
theorem great_ev (vs : List S74) (hf : ∀ v ∈ vs, FitItem v) (hl : vs.length ≤ 9000000000000000000) : ∃ b, Ev (fun n => deadfalllaw15_great.f n vs) b ∧ (b = false → vs.length ≤ 40) := by
  obtain ⟨b, hb, h⟩ := great_at vs hf hl _ 0 (Nat.le_refl _) (Nat.zero_le _)
  exact ⟨b, Ev.congr (fun k => rfl) hb, h⟩
end Go.Proofs.Ytkepmbkghmkodaa.Frame
