/- SigNames: the walk. -/
import Derived.Test.YtdglcnchdhojnaaDoorSigMore
namespace Go.Proofs.YtdglcnchdhojnaaDoor.Sig
open Go.RowKit Go.Proofs.YtdglcnchdhojnaaDoorW.PrintWords Go.Proofs.YtdglcnchdhojnaaDoorW.PrintLast Go.Proofs.YtdglcnchdhojnaaDoor.R Go.Proofs.YtdglcnchdhojnaaDoor.Num
set_option linter.unusedVariables false
set_option linter.unusedSimpArgs false
theorem fndT_le (t : ByteArray) : ∀ d s, 0 ≤ fndT t d s
  | 0, s => Int.le_refl 0
  | d + 1, s => by
    show 0 ≤ (if t = nm s ∨ t = dgT.getD s ByteArray.empty then (s : Int) else fndT t d (s + 1))
    split
    · exact Int.natCast_nonneg _
    · exact fndT_le t d (s + 1)
theorem num_nonneg (t : ByteArray) : 0 ≤ num t := by
  unfold num
  rw [fnd_tab _ 31 1 (by omega) (by omega)]
  exact fndT_le _ _ _
set_option maxHeartbeats 2000000 in
set_option maxRecDepth 100000 in
theorem cond_any (t : ByteArray) (w : World) (hs : t.size ≤ 281474976710656) (hg : Gs w) :
    Calls Tryd.prog 25 #[.string t] w fun e w' => e = .returned (.tuple #[.int .i64 (max (cond t) 0), .bool (decide (0 ≤ cond t))]) ∧ Below w.heap.size w w' := by
  have HG := Aside0.mk hg
  have HS := Aside0.mk hs
  have hnn := num_nonneg t
  clear hg hs
  by_cases h1 : t.toList = ([48] : List UInt8)
  · have hc : cond t = 0 := by unfold cond; rw [if_pos (Or.inl h1)]
    rw [hc]
    clear hnn hc
    go_enter Tryd.func25, Tryd.ntmps25
    go_wp2
    go_ret2
    exact ⟨rfl, Below.refl _ _⟩
  · by_cases h2 : t.toList = ([69, 88, 73, 84] : List UInt8)
    · have hc : cond t = 0 := by unfold cond; rw [if_pos (Or.inr h2)]
      rw [hc]
      clear hnn hc h1
      go_enter Tryd.func25, Tryd.ntmps25
      go_wp2
      go_ret2
      exact ⟨rfl, Below.refl _ _⟩
    · have e1 : (t.toList == ([48] : List UInt8)) = false := beq_eq_false_iff_ne.2 h1
      have e2 : (t.toList == ([69, 88, 73, 84] : List UInt8)) = false := beq_eq_false_iff_ne.2 h2
      have hc : max (cond t) 0 = num t ∧ decide (0 ≤ cond t) = decide (0 < num t) := by
        unfold cond
        rw [if_neg (by rintro (e | e); exact h1 e; exact h2 e)]
        by_cases h0 : num t = 0
        · rw [if_pos h0, h0]; exact ⟨rfl, rfl⟩
        · rw [if_neg h0]
          refine ⟨by omega, ?_⟩
          rw [decide_eq_true (show 0 ≤ num t by omega), decide_eq_true (show 0 < num t by omega)]
      rw [hc.1, hc.2]
      clear hc hnn
      go_enter Tryd.func25, Tryd.ntmps25
      go_wp2_with (go_at_call 24; (with_reducible refine (number_any t _ HS.out HG.out).mono ?_); rintro e w1 ⟨rfl, hB⟩; have HB := Aside0.mk hB; clear hB)
      go_ret2
      exact ⟨rfl, HB.out⟩
set_option maxHeartbeats 2000000 in
set_option maxRecDepth 100000 in
theorem alive_any (w : World) (hg : Gs w) : Calls Tryd.prog 23 #[] w fun e w' => e = .returned (.bool true) ∧ Below w.heap.size w w' := by
  have HG := Aside0.mk hg
  have HB := Aside0.mk (Below.refl w.heap.size w)
  have H1 := Aside0.mk (show num ⟨#[73, 78, 84]⟩ = 2 from (num_name 2 (by decide) (by decide)).1)
  have H2 := Aside0.mk (show num ⟨#[83, 73, 71, 73, 78, 84]⟩ = 0 by unfold num; rw [fnd_tab _ 31 1 (by omega) (by omega)]; decide +kernel)
  have H3 := Aside0.mk (show name 2 = ⟨#[73, 78, 84]⟩ from rfl)
  clear hg
  go_enter Tryd.func23, Tryd.ntmps23
  go_wp2_with (first
    | (go_at_call 24; (with_reducible refine (number_any ⟨#[73, 78, 84]⟩ _ (by decide) HG.out).mono ?_); rintro e w1 ⟨rfl, hB⟩; rw [H1.out]; have n0 := Aside0.mk (gs_below HG.out hB); have n1 := Aside0.mk (below_trans HB.out (below_sub hB HB.out.size)); clear hB HG HB; have HG := n0; have HB := n1; clear n0 n1)
    | (go_at_call 24; (with_reducible refine (number_any ⟨#[83, 73, 71, 73, 78, 84]⟩ _ (by decide) HG.out).mono ?_); rintro e w1 ⟨rfl, hB⟩; rw [H2.out]; have n0 := Aside0.mk (gs_below HG.out hB); have n1 := Aside0.mk (below_trans HB.out (below_sub hB HB.out.size)); clear hB HG HB; have HG := n0; have HB := n1; clear n0 n1)
    | (go_at_call 29; (with_reducible refine (name_any 2 _ HG.out).mono ?_); rintro e w1 ⟨rfl, hB⟩; rw [H3.out]; have n0 := Aside0.mk (gs_below HG.out hB); have n1 := Aside0.mk (below_trans HB.out (below_sub hB HB.out.size)); clear hB HG HB; have HG := n0; have HB := n1; clear n0 n1))
  go_ret
  exact ⟨rfl, HB.out⟩
theorem rnum_any (t : ByteArray) (w : World) : Calls Tryd.prog 26 #[.string t] w fun e w' => e = .returned (.int .i64 (num t)) ∧ Below w.heap.size w w' := by
  obtain ⟨k, hk⟩ := (rnum_ev t).rounds
  exact deadfallref01_Number.calls k t _ w hk
theorem rcond_any (t : ByteArray) (w : World) : Calls Tryd.prog 27 #[.string t] w fun e w' => e = .returned (.int .i64 (cond t)) ∧ Below w.heap.size w w' := by
  obtain ⟨k, hk⟩ := (rcond_ev t).rounds
  exact deadfallref01_Cond.calls k t _ w hk
theorem rname_any (s : Int) (w : World) (h0 : -9223372036854775808 ≤ s) (h1 : s ≤ 9223372036854775807) : Calls Tryd.prog 30 #[.int .i64 s] w fun e w' => e = .returned (.string (name s)) ∧ Below w.heap.size w w' :=
  deadfallref01_Name.calls s _ w (rname_f s h0 h1)
theorem ris_any (s : Int) (w : World) : Calls Tryd.prog 21 #[.int .i64 s] w fun e w' => e = .returned (.bool (decide (0 < s) && decide (s < 32))) ∧ Below w.heap.size w w' := by
  have h : deadfallref01_Is.f s = some (decide (0 < s) && decide (s < 32)) := by
    unfold deadfallref01_Is.f
    by_cases h0 : s ≥ 1
    · rw [if_pos h0, decide_eq_true (show 0 < s by omega), Bool.true_and]
      congr 1
      rw [Bool.eq_iff_iff, decide_eq_true_eq, decide_eq_true_eq]; omega
    · rw [if_neg h0, decide_eq_false (show ¬ 0 < s by omega), Bool.false_and]
  exact (deadfallref01_Is.calls s _ w h).mono fun e w' h => ⟨h.1, h.2.below⟩
def mild (s : Int) : Bool := s == 17 || s == 18 || s == 23 || s == 28
def fixed (s : Int) : Bool := s == 9 || s == 19
theorem mild_f (s : Int) : sig_Mild.f s = some (mild s) := by
  unfold sig_Mild.f mild
  by_cases h1 : s = 17
  · subst h1; rfl
  · by_cases h2 : s = 18
    · subst h2; rfl
    · by_cases h3 : s = 23
      · subst h3; rfl
      · rw [if_neg h1, if_neg h2, if_neg h3, beq_eq_false_iff_ne.2 h1, beq_eq_false_iff_ne.2 h2, beq_eq_false_iff_ne.2 h3]
        simp
theorem fixed_f (s : Int) : sig_Fixed.f s = some (fixed s) := by
  unfold sig_Fixed.f fixed
  by_cases h1 : s = 9
  · subst h1; rfl
  · rw [if_neg h1, beq_eq_false_iff_ne.2 h1]
    simp
theorem rmild_f (s : Int) (h0 : -9223372036854775808 ≤ s) (h1 : s ≤ 9223372036854775807) : deadfallref01_Mild.f s = some (mild s) := by
  unfold deadfallref01_Mild.f
  rw [rname_f s h0 h1, Option.bind_some]
  by_cases h : 1 ≤ s ∧ s ≤ 31
  · have key : ∀ i : Fin 31, (if (name ((i.val + 1 : Nat) : Int)).toList = ([67, 72, 76, 68] : List UInt8) then (some true) else (if (name ((i.val + 1 : Nat) : Int)).toList = ([67, 79, 78, 84] : List UInt8) then (some true) else (if (name ((i.val + 1 : Nat) : Int)).toList = ([85, 82, 71] : List UInt8) then (some true) else (some ((name ((i.val + 1 : Nat) : Int)).toList == ([87, 73, 78, 67, 72] : List UInt8)))))) = some (mild ((i.val + 1 : Nat) : Int)) := by decide +kernel
    have := key ⟨s.toNat - 1, by omega⟩
    rw [show ((s.toNat - 1 + 1 : Nat) : Int) = s by omega] at this
    exact this
  · have hn : name s = ⟨#[]⟩ := by unfold name; rw [if_neg h]
    have hm : mild s = false := by
      unfold mild
      rw [beq_eq_false_iff_ne.2 (show s ≠ 17 by omega), beq_eq_false_iff_ne.2 (show s ≠ 18 by omega), beq_eq_false_iff_ne.2 (show s ≠ 23 by omega), beq_eq_false_iff_ne.2 (show s ≠ 28 by omega)]
      rfl
    rw [hn, hm]
    decide +kernel
theorem rfixed_f (s : Int) (h0 : -9223372036854775808 ≤ s) (h1 : s ≤ 9223372036854775807) : deadfallref01_Fixed.f s = some (fixed s) := by
  unfold deadfallref01_Fixed.f
  rw [rname_f s h0 h1, Option.bind_some, Option.bind_some]
  by_cases h : 1 ≤ s ∧ s ≤ 31
  · have key : ∀ i : Fin 31, (if (name ((i.val + 1 : Nat) : Int)).toList = ([75, 73, 76, 76] : List UInt8) then (some true) else (some ((name ((i.val + 1 : Nat) : Int)).toList == ([83, 84, 79, 80] : List UInt8)))) = some (fixed ((i.val + 1 : Nat) : Int)) := by decide +kernel
    have := key ⟨s.toNat - 1, by omega⟩
    rw [show ((s.toNat - 1 + 1 : Nat) : Int) = s by omega] at this
    exact this
  · have hn : name s = ⟨#[]⟩ := by unfold name; rw [if_neg h]
    have hm : fixed s = false := by
      unfold fixed
      rw [beq_eq_false_iff_ne.2 (show s ≠ 9 by omega), beq_eq_false_iff_ne.2 (show s ≠ 19 by omega)]
      rfl
    rw [hn, hm]
    decide +kernel
theorem smild_any (s : Int) (w : World) : Calls Tryd.prog 31 #[.int .i64 s] w fun e w' => e = .returned (.bool (mild s)) ∧ Below w.heap.size w w' := (sig_Mild.calls s _ w (mild_f s)).mono fun e w' h => ⟨h.1, h.2.below⟩
theorem sfixed_any (s : Int) (w : World) : Calls Tryd.prog 15 #[.int .i64 s] w fun e w' => e = .returned (.bool (fixed s)) ∧ Below w.heap.size w w' := (sig_Fixed.calls s _ w (fixed_f s)).mono fun e w' h => ⟨h.1, h.2.below⟩
set_option maxHeartbeats 4000000 in
set_option maxRecDepth 100000 in
theorem names_law (s : Int) (t : ByteArray) (w : World) (h0 : -9223372036854775808 ≤ s) (h1 : s ≤ 9223372036854775807) (hs : t.size ≤ 281474976710656) (hg : Gs w) :
    Calls Tryd.prog 4 #[.int .i64 s, .string t] w fun e w' => e = .returned (.bool true) ∧ Below w.heap.size w w' := by
  have HG := Aside0.mk hg
  have HS := Aside0.mk hs
  have HN := Aside0.mk (And.intro h0 h1)
  have HB := Aside0.mk (Below.refl w.heap.size w)
  obtain ⟨a, ha⟩ : ∃ a, a = num t := ⟨_, rfl⟩
  obtain ⟨c, hc⟩ : ∃ c, c = cond t := ⟨_, rfl⟩
  obtain ⟨b, hb⟩ : ∃ b, b = (decide (0 < s) && decide (s < 32)) := ⟨_, rfl⟩
  obtain ⟨x, hx⟩ : ∃ x, x = name s := ⟨_, rfl⟩
  have HNM := Aside0.mk ha
  have HCD := Aside0.mk hc
  have HIS := Aside0.mk hb
  have HNA := Aside0.mk hx
  clear ha hc hb hx hg hs h0 h1
  go_enter Tryd.func4, Tryd.ntmps4
  go_wp2_with (first
    | (go_at_call 23; (with_reducible refine (alive_any _ HG.out).mono ?_); rintro e w1 ⟨rfl, hB⟩; have n0 := Aside0.mk (gs_below HG.out hB); have n1 := Aside0.mk (below_trans HB.out (below_sub hB HB.out.size)); clear hB HG HB; have HG := n0; have HB := n1; clear n0 n1)
    | (go_at_call 24; (with_reducible refine (number_any t _ HS.out HG.out).mono ?_); rintro e w1 ⟨rfl, hB⟩; rw [← HNM.out]; have n0 := Aside0.mk (gs_below HG.out hB); have n1 := Aside0.mk (below_trans HB.out (below_sub hB HB.out.size)); clear hB HG HB; have HG := n0; have HB := n1; clear n0 n1)
    | (go_at_call 25; (with_reducible refine (cond_any t _ HS.out HG.out).mono ?_); rintro e w1 ⟨rfl, hB⟩; rw [← HCD.out]; have n0 := Aside0.mk (gs_below HG.out hB); have n1 := Aside0.mk (below_trans HB.out (below_sub hB HB.out.size)); clear hB HG HB; have HG := n0; have HB := n1; clear n0 n1)
    | (go_at_call 26; (with_reducible refine (rnum_any t _).mono ?_); rintro e w1 ⟨rfl, hB⟩; rw [← HNM.out]; have n0 := Aside0.mk (gs_below HG.out hB); have n1 := Aside0.mk (below_trans HB.out (below_sub hB HB.out.size)); clear hB HG HB; have HG := n0; have HB := n1; clear n0 n1)
    | (go_at_call 27; (with_reducible refine (rcond_any t _).mono ?_); rintro e w1 ⟨rfl, hB⟩; rw [← HCD.out]; have n0 := Aside0.mk (gs_below HG.out hB); have n1 := Aside0.mk (below_trans HB.out (below_sub hB HB.out.size)); clear hB HG HB; have HG := n0; have HB := n1; clear n0 n1)
    | (go_at_call 28; (with_reducible refine (is_any s _).mono ?_); rintro e w1 ⟨rfl, hB⟩; rw [← HIS.out]; have n0 := Aside0.mk (gs_below HG.out hB); have n1 := Aside0.mk (below_trans HB.out (below_sub hB HB.out.size)); clear hB HG HB; have HG := n0; have HB := n1; clear n0 n1)
    | (go_at_call 21; (with_reducible refine (ris_any s _).mono ?_); rintro e w1 ⟨rfl, hB⟩; rw [← HIS.out]; have n0 := Aside0.mk (gs_below HG.out hB); have n1 := Aside0.mk (below_trans HB.out (below_sub hB HB.out.size)); clear hB HG HB; have HG := n0; have HB := n1; clear n0 n1)
    | (go_at_call 29; (with_reducible refine (name_any s _ HG.out).mono ?_); rintro e w1 ⟨rfl, hB⟩; rw [← HNA.out]; have n0 := Aside0.mk (gs_below HG.out hB); have n1 := Aside0.mk (below_trans HB.out (below_sub hB HB.out.size)); clear hB HG HB; have HG := n0; have HB := n1; clear n0 n1)
    | (go_at_call 30; (with_reducible refine (rname_any s _ HN.out.1 HN.out.2).mono ?_); rintro e w1 ⟨rfl, hB⟩; rw [← HNA.out]; have n0 := Aside0.mk (gs_below HG.out hB); have n1 := Aside0.mk (below_trans HB.out (below_sub hB HB.out.size)); clear hB HG HB; have HG := n0; have HB := n1; clear n0 n1)
    | (go_at_call 31; (with_reducible refine (smild_any s _).mono ?_); rintro e w1 ⟨rfl, hB⟩; have n0 := Aside0.mk (gs_below HG.out hB); have n1 := Aside0.mk (below_trans HB.out (below_sub hB HB.out.size)); clear hB HG HB; have HG := n0; have HB := n1; clear n0 n1)
    | (go_at_call 32; (with_reducible refine (deadfallref01_Mild.calls s _ _ (rmild_f s HN.out.1 HN.out.2)).mono ?_); rintro e w1 ⟨rfl, hB⟩; have n0 := Aside0.mk (gs_below HG.out hB); have n1 := Aside0.mk (below_trans HB.out (below_sub hB HB.out.size)); clear hB HG HB; have HG := n0; have HB := n1; clear n0 n1)
    | (go_at_call 15; (with_reducible refine (sfixed_any s _).mono ?_); rintro e w1 ⟨rfl, hB⟩; have n0 := Aside0.mk (gs_below HG.out hB); have n1 := Aside0.mk (below_trans HB.out (below_sub hB HB.out.size)); clear hB HG HB; have HG := n0; have HB := n1; clear n0 n1)
    | (go_at_call 33; (with_reducible refine (deadfallref01_Fixed.calls s _ _ (rfixed_f s HN.out.1 HN.out.2)).mono ?_); rintro e w1 ⟨rfl, hB⟩; have n0 := Aside0.mk (gs_below HG.out hB); have n1 := Aside0.mk (below_trans HB.out (below_sub hB HB.out.size)); clear hB HG HB; have HG := n0; have HB := n1; clear n0 n1))
  go_ret
  exact ⟨rfl, HB.out⟩
end Go.Proofs.YtdglcnchdhojnaaDoor.Sig
