/- deadfallref05.Weight: it has an answer, from 0 to 100000. -/
import Derived.Test.YtkepmbkghmkodaaWeights
namespace Go.Proofs.Ytkepmbkghmkodaa.Weights
open Go.RowKit Go.Proofs.YtkepmbkghmkodaaW.PrintWords Go.Proofs.Ytkepmbkghmkodaa.Q Go.Proofs.Ytkepmbkghmkodaa.NodeOps
set_option linter.unusedVariables false
set_option linter.unusedSimpArgs false
abbrev Nd := S52
abbrev W05 (x : Nd) (deep : Int) : Nat → Option Int := fun n => deadfallref05_Weight.f n x.f0 x.f1 x.f2 x.f3 x.f4 x.f5 x.f6 x.f7 deep
abbrev J0 (x : Nd) (deep : Int) (b : Bool) : Nat → Option Int := fun n => deadfallref05_Weight.j0 n deep b x.f0 x.f1 x.f2 x.f3 x.f4 x.f5 x.f6 x.f7
abbrev L0 (x : Nd) (deep n5 i : Int) : Nat → Option Int := fun n => deadfallref05_Weight.l0 n deep n5 x.f4 (x.f4.length : Int) i x.f0 x.f1 x.f2 x.f3 x.f4 x.f5 x.f6 x.f7
abbrev L1 (x : Nd) (deep n5 i : Int) : Nat → Option Int := fun n => deadfallref05_Weight.l1 n deep n5 x.f3 (x.f3.length : Int) i x.f0 x.f1 x.f2 x.f3 x.f4 x.f5 x.f6 x.f7
abbrev L2 (x : Nd) (deep n5 i : Int) : Nat → Option Int := fun n => deadfallref05_Weight.l2 n deep n5 x.f7 (x.f7.length : Int) i x.f0 x.f1 x.f2 x.f3 x.f4 x.f5 x.f6 x.f7
abbrev L3 (x : Nd) (deep n5 i : Int) (ps : List (List S154)) (j : Int) : Nat → Option Int := fun n => deadfallref05_Weight.l3 n deep n5 x.f7 (x.f7.length : Int) i ps (ps.length : Int) j x.f0 x.f1 x.f2 x.f3 x.f4 x.f5 x.f6 x.f7
theorem l4_any (deep : Int) (ns : List Nd) (hl : ns.length ≤ 30000) (hsub : ∀ y ∈ ns, Has (W05 y (wrap64 (deep + 1)))) : ∀ (d i : Nat), ns.length - i ≤ d → i ≤ ns.length → ∀ n5 : Int, 0 ≤ n5 → n5 ≤ 20000 → Has fun n => deadfallref05_Weight.l4 n deep n5 ns (ns.length : Int) (i : Int) := by
  intro d
  induction d with
  | zero =>
    intro i hd hi n5 h0 h1
    refine has_now n5 h0 (by omega) fun k => ?_
    show deadfallref05_Weight.l4 (k + 1) deep n5 ns (ns.length : Int) (i : Int) = _
    rw [deadfallref05_Weight.l4, if_neg (by omega)]
  | succ d ih =>
    intro i hd hi n5 h0 h1
    by_cases hlt : i < ns.length
    · obtain ⟨t, t0, t1, ht⟩ := hsub _ (rd_mem ns z52 i hlt)
      have e : wrap64 (n5 + t) = n5 + t := wr _ (by omega) (by omega)
      by_cases hb : n5 + t > 20000
      · refine has_nowVia ht 100000 (by omega) (by omega) fun k hk => ?_
        show deadfallref05_Weight.l4 (k + 1) deep n5 ns (ns.length : Int) (i : Int) = _
        rw [deadfallref05_Weight.l4, if_pos (by omega), if_pos (by omega), if_pos (by omega)]
        refine (congrArg (fun o => Option.bind o _) hk).trans ?_
        rw [Option.bind_some, e, if_pos hb]
      · refine has_via ht (ih (i + 1) (by omega) (by omega) (n5 + t) (by omega) (by omega)) fun k hk => ?_
        show deadfallref05_Weight.l4 (k + 1) deep n5 ns (ns.length : Int) (i : Int) = _
        rw [deadfallref05_Weight.l4, if_pos (by omega), if_pos (by omega), if_pos (by omega)]
        refine (congrArg (fun o => Option.bind o _) hk).trans ?_
        rw [Option.bind_some, e, if_neg hb, wr ((i : Int) + 1) (by omega) (by omega)]
        rfl
    · refine has_now n5 h0 (by omega) fun k => ?_
      show deadfallref05_Weight.l4 (k + 1) deep n5 ns (ns.length : Int) (i : Int) = _
      rw [deadfallref05_Weight.l4, if_neg (by omega)]
def sumB (cs : List S116) : Nat := (cs.map fun c => c.f1.length).sum
theorem sumB_app (a b : List S116) : sumB (a ++ b) = sumB a + sumB b := by unfold sumB; rw [List.map_append, List.sum_append]
theorem sumB_succ (cs : List S116) (i : Nat) (h : i < cs.length) : sumB (cs.take (i + 1)) = sumB (cs.take i) + cs[i].f1.length := by
  rw [List.take_succ_eq_append_getElem h, sumB_app]
  rfl
theorem rd_case (cs : List S116) (i : Nat) (h : i < cs.length) : rd_T116 cs (i : Int) = cs[i] := by
  simp [rd_T116, List.getD_eq_getElem?_getD, List.getElem?_eq_getElem h]
theorem fit_within {x : Nd} (h : FitNode x) : ∀ y ∈ x.f5 ++ x.f7.flatMap (fun c => c.f1), FitNode y := by
  cases h with
  | mk _ h1 h3 h4 l5 h5 l6 l7 p7 b7 n7 =>
    intro y hy
    rcases List.mem_append.1 hy with hy | hy
    · exact h5 y hy
    · obtain ⟨c, hc, hy⟩ := List.mem_flatMap.1 hy
      exact n7 c hc y hy
section
variable (x : Nd) (deep : Int) (hf : FitNode x) (k5 : x.f5.length ≤ 5000) (k7 : x.f7.length ≤ 5000) (hsub : ∀ y, FitNode y → Has (W05 y (wrap64 (deep + 1))))
include hf in
/-- The patterns of a case, the next cases known. -/
theorem l3_any (ps : List (List S154)) (hp : FitWords ps) (i : Nat) (hi : i < x.f7.length) (lo hi' : Int) (h20 : 20000 ≤ hi') (hup : hi' ≤ 2000000000000000000) (hlo : 0 ≤ lo)
    (next : ∀ n5 : Int, lo ≤ n5 → n5 ≤ hi' → Has (L2 x deep n5 ((i + 1 : Nat) : Int))) : ∀ (d j : Nat), ps.length - j ≤ d → j ≤ ps.length → ∀ n5 : Int, lo ≤ n5 → n5 ≤ hi' → Has (L3 x deep n5 (i : Int) ps (j : Int)) := by
  have hpl : ps.length ≤ 140737488355328 := hp.1
  have hil : (i : Int) + 1 ≤ 9223372036854775807 := by
    have := hf
    cases this with
    | mk _ h1 h3 h4 l5 h5 l6 l7 p7 b7 n7 => unfold Lim at l7; omega
  have done : ∀ n5 : Int, lo ≤ n5 → n5 ≤ hi' → ∀ j : Nat, ps.length ≤ j → Has (L3 x deep n5 (i : Int) ps (j : Int)) := by
    intro n5 h0 h1 j hj
    refine has_step (next n5 h0 h1) fun k => ?_
    show deadfallref05_Weight.l3 (k + 1) _ _ _ _ _ _ _ _ _ _ _ _ _ _ _ _ = _
    rw [deadfallref05_Weight.l3, if_neg (by omega), wr ((i : Int) + 1) (by omega) hil]
    rfl
  intro d
  induction d with
  | zero => exact fun j hd hj n5 h0 h1 => done n5 h0 h1 j (by omega)
  | succ d ih =>
    intro j hd hj n5 h0 h1
    by_cases hlt : j < ps.length
    · obtain ⟨t, t0, t1, ht⟩ := w03 _ (hp.2 _ (rd_mem ps [] j hlt))
      have e : wrap64 (n5 + wrap64 (1 + t)) = n5 + (1 + t) := by rw [wr (1 + t) (by omega) (by omega)]; exact wr _ (by omega) (by omega)
      by_cases hb : n5 + (1 + t) > 20000
      · refine has_nowVia ht 100000 (by omega) (by omega) fun k hk => ?_
        show deadfallref05_Weight.l3 (k + 1) _ _ _ _ _ _ _ _ _ _ _ _ _ _ _ _ = _
        rw [deadfallref05_Weight.l3, if_pos (by omega), if_pos (by omega), if_pos (by omega)]
        refine (congrArg (fun o => Option.bind o _) hk).trans ?_
        rw [Option.bind_some, e, if_pos hb]
      · refine has_via ht (ih (j + 1) (by omega) (by omega) (n5 + (1 + t)) (by omega) (by omega)) fun k hk => ?_
        show deadfallref05_Weight.l3 (k + 1) _ _ _ _ _ _ _ _ _ _ _ _ _ _ _ _ = _
        rw [deadfallref05_Weight.l3, if_pos (by omega), if_pos (by omega), if_pos (by omega)]
        refine (congrArg (fun o => Option.bind o _) hk).trans ?_
        rw [Option.bind_some, e, if_neg hb, wr ((j : Int) + 1) (by omega) (by omega)]
        rfl
    · exact done n5 h0 h1 j (by omega)
include hf k5 k7 hsub in
theorem l2_any : ∀ (d i : Nat), x.f7.length - i ≤ d → i ≤ x.f7.length → ∀ n5 : Int, (sumB (x.f7.take i) : Int) ≤ n5 → n5 ≤ 1100000000000000000 + (i : Int) * 1000000000000 → Has (L2 x deep n5 (i : Int)) := by
  have hf' := hf
  obtain ⟨_, h1, h3, h4, l5, h5, l6, l7, p7, b7, n7⟩ := hf'
  have done : ∀ n5 : Int, (sumB (x.f7.take x.f7.length) : Int) ≤ n5 → ∀ i : Nat, x.f7.length ≤ i → Has (L2 x deep n5 (i : Int)) := by
    intro n5 h0 i hi
    rw [List.take_length] at h0
    by_cases hb : n5 > 20000
    · refine has_now 100000 (by omega) (by omega) fun k => ?_
      show deadfallref05_Weight.l2 (k + 1) _ _ _ _ _ _ _ _ _ _ _ _ _ = _
      rw [deadfallref05_Weight.l2, if_neg (by omega), if_pos hb]
    · have hw := within_loop x.f7 k7 x.f7.length 0 (by omega) (by omega) ([] ++ x.f5) (by
        have : sumB x.f7 ≤ 20000 := by omega
        unfold sumB at this
        rw [List.drop_zero, List.nil_append]; omega)
      rw [List.drop_zero, List.nil_append] at hw
      have hlen : (x.f5 ++ x.f7.flatMap fun c => c.f1).length ≤ 30000 := by
        have e9 : (x.f7.flatMap fun c => c.f1).length = sumB x.f7 := by unfold sumB; rw [List.length_flatMap]
        rw [List.length_append, e9]
        omega
      refine has_via hw (l4_any deep _ hlen (fun y hy => hsub y (fit_within hf y hy)) _ 0 (Nat.le_refl _) (by omega) n5 (by omega) (by omega)) fun k hk => ?_
      show deadfallref05_Weight.l2 (k + 1) _ _ _ _ _ _ _ _ _ _ _ _ _ = _
      rw [deadfallref05_Weight.l2, if_neg (by omega), if_neg hb]
      have hwf : deadfallref05_Within.f k x.f0 x.f1 x.f2 x.f3 x.f4 x.f5 x.f6 x.f7 = some (x.f5 ++ x.f7.flatMap fun c => c.f1) := by
        unfold deadfallref05_Within.f
        rw [Option.bind_some, if_pos (by rw [List.length_nil]; omega), List.nil_append]
        exact hk
      rw [hwf]
      rfl
  intro d
  induction d with
  | zero =>
    intro i hd hi n5 h0 h1
    exact done n5 (by rw [show i = x.f7.length by omega] at h0; exact h0) i (by omega)
  | succ d ih =>
    intro i hd hi n5 h0 h1
    by_cases hlt : i < x.f7.length
    · have hm : x.f7[i] ∈ x.f7 := List.getElem_mem hlt
      have hbl := b7 _ hm
      have hs := sumB_succ x.f7 i hlt
      have e : wrap64 (n5 + wrap64 (1 + ((x.f7[i]).f1.length : Int))) = n5 + (1 + ((x.f7[i]).f1.length : Int)) := by rw [wr (1 + _) (by omega) (by omega)]; exact wr _ (by omega) (by omega)
      refine has_step (l3_any x deep hf (x.f7[i]).f0 (p7 _ hm) i hlt (sumB (x.f7.take (i + 1)) : Int) (1100000000000000000 + ((i + 1 : Nat) : Int) * 1000000000000) (by omega) (by omega) (by omega) (fun n hn0 hn1 => ih (i + 1) (by omega) (by omega) n hn0 hn1) _ 0 (Nat.le_refl _) (by omega) (n5 + (1 + ((x.f7[i]).f1.length : Int))) (by omega) (by omega)) fun k => ?_
      show deadfallref05_Weight.l2 (k + 1) _ _ _ _ _ _ _ _ _ _ _ _ _ = _
      rw [deadfallref05_Weight.l2, if_pos (by omega), if_pos (by omega), if_pos (by omega), rd_case x.f7 i hlt, e]
      rfl
    · exact done n5 (by rw [show i = x.f7.length by omega] at h0; exact h0) i (by omega)
include hf k5 k7 hsub in
theorem l1_any (k3 : x.f3.length ≤ 5000) : ∀ (d i : Nat), x.f3.length - i ≤ d → i ≤ x.f3.length → ∀ n5 : Int, 0 ≤ n5 → n5 ≤ 300000000000000 + (i : Int) * 200000000000000 → Has (L1 x deep n5 (i : Int)) := by
  have hf' := hf
  obtain ⟨_, h1, h3, h4, l5, h5, l6, l7, p7, b7, n7⟩ := hf'
  have done : ∀ n5 : Int, 0 ≤ n5 → n5 ≤ 1100000000000000000 → ∀ i : Nat, x.f3.length ≤ i → Has (L1 x deep n5 (i : Int)) := by
    intro n5 h0 h1 i hi
    refine has_step (l2_any x deep hf k5 k7 hsub _ 0 (Nat.le_refl _) (by omega) n5 (by simpa [sumB] using h0) (by omega)) fun k => ?_
    show deadfallref05_Weight.l1 (k + 1) _ _ _ _ _ _ _ _ _ _ _ _ _ = _
    rw [deadfallref05_Weight.l1, if_neg (by omega)]
    rfl
  intro d
  induction d with
  | zero => exact fun i hd hi n5 h0 h1 => done n5 h0 (by omega) i (by omega)
  | succ d ih =>
    intro i hd hi n5 h0 h1
    by_cases hlt : i < x.f3.length
    · have hm := rd_mem x.f3 z114 i hlt
      obtain ⟨ha, hw⟩ := h3.2 _ hm
      obtain ⟨t, t0, t1, ht⟩ := w03 _ hw
      unfold Lim at ha
      have ha' : (rd_T114 x.f3 (i : Int)).f0.size ≤ 140737488355328 := ha
      obtain ⟨a, hadef⟩ : ∃ a : Int, a = ((rd_T114 x.f3 (i : Int)).f0.size : Int) := ⟨_, rfl⟩
      have e : wrap64 (n5 + wrap64 (wrap64 (1 + a) + t)) = n5 + (1 + a + t) := by rw [wr (1 + a) (by omega) (by omega), wr (1 + a + t) (by omega) (by omega)]; exact wr _ (by omega) (by omega)
      refine has_via ht (ih (i + 1) (by omega) (by omega) (n5 + (1 + a + t)) (by omega) (by omega)) fun k hk => ?_
      show deadfallref05_Weight.l1 (k + 1) _ _ _ _ _ _ _ _ _ _ _ _ _ = _
      rw [deadfallref05_Weight.l1, if_pos (by omega), if_pos (by omega), if_pos (by omega)]
      refine (congrArg (fun o => Option.bind o _) hk).trans ?_
      rw [Option.bind_some, ← hadef, e, wr ((i : Int) + 1) (by omega) (by omega)]
      rfl
    · exact done n5 h0 (by omega) i (by omega)
include hf k5 k7 hsub in
theorem l0_any (k3 : x.f3.length ≤ 5000) (k4 : x.f4.length ≤ 5000) : ∀ (d i : Nat), x.f4.length - i ≤ d → i ≤ x.f4.length → ∀ n5 : Int, 0 ≤ n5 → n5 ≤ 200000000000000 + (i : Int) * 200000 → Has (L0 x deep n5 (i : Int)) := by
  have hf' := hf
  obtain ⟨_, h1, h3, h4, l5, h5, l6, l7, p7, b7, n7⟩ := hf'
  have done : ∀ n5 : Int, 0 ≤ n5 → n5 ≤ 300000000000000 → ∀ i : Nat, x.f4.length ≤ i → Has (L0 x deep n5 (i : Int)) := by
    intro n5 h0 h1 i hi
    refine has_step (l1_any x deep hf k5 k7 hsub k3 _ 0 (Nat.le_refl _) (by omega) n5 h0 (by omega)) fun k => ?_
    show deadfallref05_Weight.l0 (k + 1) _ _ _ _ _ _ _ _ _ _ _ _ _ = _
    rw [deadfallref05_Weight.l0, if_neg (by omega)]
    rfl
  intro d
  induction d with
  | zero => exact fun i hd hi n5 h0 h1 => done n5 h0 (by omega) i (by omega)
  | succ d ih =>
    intro i hd hi n5 h0 h1
    by_cases hlt : i < x.f4.length
    · obtain ⟨t, t0, t1, ht⟩ := w03 _ (h4.2 _ (rd_mem x.f4 [] i hlt))
      have e : wrap64 (n5 + wrap64 (1 + t)) = n5 + (1 + t) := by rw [wr (1 + t) (by omega) (by omega)]; exact wr _ (by omega) (by omega)
      refine has_via ht (ih (i + 1) (by omega) (by omega) (n5 + (1 + t)) (by omega) (by omega)) fun k hk => ?_
      show deadfallref05_Weight.l0 (k + 1) _ _ _ _ _ _ _ _ _ _ _ _ _ = _
      rw [deadfallref05_Weight.l0, if_pos (by omega), if_pos (by omega), if_pos (by omega)]
      refine (congrArg (fun o => Option.bind o _) hk).trans ?_
      rw [Option.bind_some, e, wr ((i : Int) + 1) (by omega) (by omega)]
      rfl
    · exact done n5 h0 (by omega) i (by omega)
end
theorem w05_any : ∀ (d : Nat), d ≤ 901 → ∀ x, FitNode x → Has (W05 x (901 - (d : Int))) := by
  intro d
  induction d with
  | zero =>
    intro _ x _
    refine has_step (f := J0 x (901 - ((0 : Nat) : Int)) true) (has_now 100000 (by omega) (by omega) fun k => ?_) fun k => ?_
    · show deadfallref05_Weight.j0 (k + 1) _ _ _ _ _ _ _ _ _ _ = _
      rw [deadfallref05_Weight.j0, if_pos rfl]
    · show deadfallref05_Weight.f (k + 1) _ _ _ _ _ _ _ _ _ = _
      rw [deadfallref05_Weight.f, if_pos (by omega)]
  | succ d ih =>
    intro hd x hf
    obtain ⟨dp, hdp⟩ : ∃ dp : Int, dp = 901 - ((d + 1 : Nat) : Int) := ⟨_, rfl⟩
    rw [← hdp]
    have hw : wrap64 (dp + 1) = 901 - (d : Int) := by rw [wr (dp + 1) (by omega) (by omega)]; omega
    have hs5 : ∀ y, FitNode y → Has (W05 y (wrap64 (dp + 1))) := fun y hy => by rw [hw]; exact ih (by omega) y hy
    have hf' := hf
    obtain ⟨_, h1, h3, h4, l5, h5, l6, l7, p7, b7, n7⟩ := hf'
    have e3 := h3.1
    have e4 := h4.1
    unfold Lim at h1 e3 e4 l6 l7
    have e : wrap64 (wrap64 (wrap64 (wrap64 ((x.f5.length : Int) + (x.f7.length : Int)) + (x.f4.length : Int)) + (x.f3.length : Int)) + (x.f6.length : Int)) = (x.f5.length : Int) + (x.f7.length : Int) + (x.f4.length : Int) + (x.f3.length : Int) + (x.f6.length : Int) := by
      rw [wr ((x.f5.length : Int) + (x.f7.length : Int)) (by omega) (by omega), wr ((x.f5.length : Int) + (x.f7.length : Int) + (x.f4.length : Int)) (by omega) (by omega), wr ((x.f5.length : Int) + (x.f7.length : Int) + (x.f4.length : Int) + (x.f3.length : Int)) (by omega) (by omega)]
      exact wr _ (by omega) (by omega)
    obtain ⟨s, hs⟩ : ∃ s, s = (x.f5.length : Int) + (x.f7.length : Int) + (x.f4.length : Int) + (x.f3.length : Int) + (x.f6.length : Int) := ⟨_, rfl⟩
    rw [← hs] at e
    refine has_step (f := J0 x dp (decide (s > 5000))) ?_ (fun k => ?_)
    · by_cases hb : s > 5000
      · refine has_now 100000 (by omega) (by omega) fun k => ?_
        show deadfallref05_Weight.j0 (k + 1) _ _ _ _ _ _ _ _ _ _ = _
        rw [deadfallref05_Weight.j0, if_pos (decide_eq_true hb)]
      · have e2 : wrap64 (wrap64 (1 + (x.f1.size : Int)) + (x.f6.length : Int)) = 1 + (x.f1.size : Int) + (x.f6.length : Int) := by rw [wr (1 + (x.f1.size : Int)) (by omega) (by omega)]; exact wr _ (by omega) (by omega)
        obtain ⟨n0, hn0⟩ : ∃ n0 : Int, n0 = 1 + (x.f1.size : Int) + (x.f6.length : Int) := ⟨_, rfl⟩
        rw [← hn0] at e2
        have k3 : x.f3.length ≤ 5000 := by omega
        have k4 : x.f4.length ≤ 5000 := by omega
        have k5 : x.f5.length ≤ 5000 := by omega
        have k7 : x.f7.length ≤ 5000 := by omega
        have b0 : 0 ≤ n0 := by omega
        have b1 : n0 ≤ 200000000000000 + ((0 : Nat) : Int) * 200000 := by omega
        have hL := l0_any x dp hf k5 k7 hs5 k3 k4 x.f4.length 0 (Nat.le_refl _) (Nat.zero_le _) n0 b0 b1
        refine has_step hL fun k => ?_
        show deadfallref05_Weight.j0 (k + 1) _ _ _ _ _ _ _ _ _ _ = _
        rw [deadfallref05_Weight.j0, if_neg (by simpa using hb), e2]
        rfl
    · show deadfallref05_Weight.f (k + 1) _ _ _ _ _ _ _ _ _ = _
      rw [deadfallref05_Weight.f, if_neg (by omega), e]
theorem w05 (x : Nd) (h : FitNode x) : Has (W05 x 0) := w05_any 901 (by omega) x h
end Go.Proofs.Ytkepmbkghmkodaa.Weights
