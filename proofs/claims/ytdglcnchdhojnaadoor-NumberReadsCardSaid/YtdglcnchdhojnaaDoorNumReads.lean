/- NumberReads: the walk. -/
import Derived.Test.YtdglcnchdhojnaaDoorNumDig
namespace Go.Proofs.YtdglcnchdhojnaaDoor.Num
open Go.RowKit Go.Proofs.YtdglcnchdhojnaaDoorW.PrintWords Go.Proofs.YtdglcnchdhojnaaDoorW.PrintLast Go.Proofs.YtdglcnchdhojnaaDoor.P
set_option linter.unusedVariables false
set_option linter.unusedSimpArgs false
set_option maxHeartbeats 2000000 in
set_option maxRecDepth 100000 in
theorem count_yes (s : ByteArray) (n : Int) (w : World) (h : okD s.data.toList = true) (h1 : 1 ≤ valD s.data.toList) (hn0 : -9223372036854775808 ≤ n) (hn1 : n ≤ 9223372036854775807) : Calls Tryd.prog 59 #[.string s, .int .i64 n] w fun e w' => e = .returned (.tuple #[.int .i64 (min (valD s.data.toList : Int) (max n 0)), .bool true]) ∧ Below w.heap.size w w' := by
  obtain ⟨v, hv⟩ : ∃ v : Int, v = (valD s.data.toList : Int) := ⟨_, rfl⟩
  have HV := Aside0.mk hv
  have d1 : decide (v < 1) = false := decide_eq_false (by omega)
  have HH := Aside0.mk h
  rw [← hv]
  clear h hv h1
  go_enter Tryd.func59, Tryd.ntmps59
  go_wp2_with (go_at_call 57; (with_reducible refine (read_yes s _ HH.out).mono ?_); rintro e w1 ⟨rfl, hB⟩; rw [← HV.out]; have HB := Aside0.mk hB; clear hB)
  go_ret2
  exact ⟨rfl, HB.out⟩
set_option maxHeartbeats 2000000 in
set_option maxRecDepth 100000 in
theorem count_none (s : ByteArray) (n : Int) (w : World) (h : okD s.data.toList = false) : Calls Tryd.prog 59 #[.string s, .int .i64 n] w fun e w' => e = .returned (.tuple #[.int .i64 0, .bool false]) ∧ Below w.heap.size w w' := by
  have HH := Aside0.mk h
  clear h
  go_enter Tryd.func59, Tryd.ntmps59
  go_wp2_with (go_at_call 57; (with_reducible refine (read_no s _ HH.out).mono ?_); rintro e w1 ⟨rfl, hB⟩; have HB := Aside0.mk hB; clear hB)
  go_ret2
  exact ⟨rfl, HB.out⟩
set_option maxHeartbeats 2000000 in
set_option maxRecDepth 100000 in
theorem count_zero (s : ByteArray) (n : Int) (w : World) (h : okD s.data.toList = true) (h1 : valD s.data.toList < 1) : Calls Tryd.prog 59 #[.string s, .int .i64 n] w fun e w' => e = .returned (.tuple #[.int .i64 0, .bool false]) ∧ Below w.heap.size w w' := by
  have HV := Aside0.mk (show (valD s.data.toList : Int) = 0 by omega)
  have HH := Aside0.mk h
  clear h h1
  go_enter Tryd.func59, Tryd.ntmps59
  go_wp2_with (go_at_call 57; (with_reducible refine (read_yes s _ HH.out).mono ?_); rintro e w1 ⟨rfl, hB⟩; rw [HV.out]; have HB := Aside0.mk hB; clear hB)
  go_ret2
  exact ⟨rfl, HB.out⟩
theorem rread_any (s : ByteArray) (w : World) (hs : s.size ≤ 1000000) : Calls Tryd.prog 58 #[.string s] w fun e w' => e = .returned (.int .i64 (refR s)) ∧ Below w.heap.size w w' := by
  obtain ⟨k, hk⟩ := (read_ev s hs).rounds
  exact (deadfallref14_Read.calls k s _ w hk).mono fun e w' h => ⟨h.1, h.2.below⟩
def refC (s : ByteArray) (n : Int) : Int := if refR s < 1 then -1 else if n < 0 then 0 else if refR s > n then n else refR s
theorem rcount_any (s : ByteArray) (n : Int) (w : World) (hs : s.size ≤ 1000000) : Calls Tryd.prog 60 #[.string s, .int .i64 n] w fun e w' => e = .returned (.int .i64 (refC s n)) ∧ Below w.heap.size w w' := by
  obtain ⟨k, hk⟩ := (read_ev s hs).rounds
  have h : deadfallref14_Count.f k s n = some (refC s n) := by
    unfold deadfallref14_Count.f
    rw [show deadfallref14_Read.f k s = some (refR s) from hk, Option.bind_some]
    unfold refC
    split
    · rfl
    · split
      · rfl
      · split <;> rfl
  exact (deadfallref14_Count.calls k s n _ w h).mono fun e w' h => ⟨h.1, h.2.below⟩
theorem rstatus_any (n : Int) (w : World) (h0 : -9223372036854775808 ≤ n) (h1 : n ≤ 9223372036854775807) : Calls Tryd.prog 62 #[.int .i64 n] w fun e w' => e = .returned (.int .i64 (n % 256)) ∧ Below w.heap.size w w' := by
  have ht : -256 < n.tmod 256 ∧ n.tmod 256 < 256 ∧ (n.tmod 256 + 256) % 256 = n % 256 := by
    have h := Int.tmod_add_mul_tdiv n 256
    have hlt := Int.tmod_lt_of_pos n (show (0 : Int) < 256 by decide)
    have hgt : -256 < n.tmod 256 := by
      rcases Int.lt_or_le n 0 with hn | hn
      · have e := Int.neg_tmod (-n) 256
        rw [Int.neg_neg] at e
        have := Int.tmod_lt_of_pos (-n) (show (0 : Int) < 256 by decide)
        omega
      · have := Int.tmod_nonneg 256 hn
        omega
    refine ⟨hgt, hlt, ?_⟩
    omega
  have h : deadfallref14_Status.f n = some (n % 256) := by
    unfold deadfallref14_Status.f
    rw [wr _ (by omega) (by omega), Int.tmod_eq_emod_of_nonneg (by omega), ht.2.2]
  exact (deadfallref14_Status.calls n _ w h).mono fun e w' h => ⟨h.1, h.2.below⟩
theorem rdig_any (n : Int) (w : World) (h0 : -9223372036854775808 ≤ n) (h1 : n ≤ 9223372036854775807) : Calls Tryd.prog 64 #[.int .i64 n] w fun e w' => e = .returned (.string ⟨(Lib.itoa n).toArray⟩) ∧ Below w.heap.size w w' := by
  obtain ⟨k, hk⟩ := (dig_ev n h0 h1).rounds
  exact deadfallref09_Digits.calls k n _ w hk
/-- What the two counts say. -/
theorem count_same (s : ByteArray) (n : Int) (h : okD s.data.toList = true) (h1 : 1 ≤ valD s.data.toList) : decide (0 ≤ refC s n) = true ∧ (min (valD s.data.toList : Int) (max n 0) == max (refC s n) 0) = true := by
  have hr : refR s = (valD s.data.toList : Int) := by unfold refR; rw [if_pos h]
  unfold refC
  rw [hr, if_neg (by omega)]
  by_cases hn : n < 0
  · rw [if_pos hn]
    exact ⟨rfl, by rw [beq_iff_eq]; omega⟩
  · rw [if_neg hn]
    by_cases hv : (valD s.data.toList : Int) > n
    · rw [if_pos hv]
      exact ⟨decide_eq_true (by omega), by rw [beq_iff_eq]; omega⟩
    · rw [if_neg hv]
      exact ⟨decide_eq_true (by omega), by rw [beq_iff_eq]; omega⟩
set_option maxHeartbeats 4000000 in
set_option maxRecDepth 100000 in
theorem reads_law (s : ByteArray) (n : Int) (w : World) (h0 : -9223372036854775808 ≤ n) (h1 : n ≤ 9223372036854775807) (ht : Tab w) :
    Calls Tryd.prog 8 #[.string s, .int .i64 n] w fun e w' => e = .returned (.bool true) ∧ Below w.heap.size w w' := by
  have HT := Aside0.mk ht
  have HN := Aside0.mk (And.intro h0 h1)
  clear ht h0 h1
  by_cases hs : s.size > 2000
  · have d0 : decide ((2000 : Int) < (s.size : Int)) = true := decide_eq_true (by omega)
    go_enter Tryd.func8, Tryd.ntmps8
    go_wp2_with (go_at_call 56; (with_reducible refine (alive_any _).mono ?_); rintro e w1 ⟨rfl, hB⟩; have HB := Aside0.mk hB; clear hB)
    go_ret
    exact ⟨rfl, HB.out⟩
  have d0 : decide ((2000 : Int) < (s.size : Int)) = false := decide_eq_false (by omega)
  have HSZ := Aside0.mk (show s.size ≤ 1000000 by omega)
  clear hs
  obtain ⟨tx, htx⟩ : ∃ tx : ByteArray, tx = ⟨(Lib.itoa n).toArray⟩ := ⟨_, rfl⟩
  have HTX := Aside0.mk htx
  obtain ⟨st, hst⟩ : ∃ st : Int, st = n % 256 := ⟨_, rfl⟩
  have HST := Aside0.mk hst
  clear htx hst
  cases hok : okD s.data.toList with
  | true =>
    obtain ⟨v, hv⟩ : ∃ v : Int, v = (valD s.data.toList : Int) := ⟨_, rfl⟩
    have HV := Aside0.mk hv
    have HR := Aside0.mk (show refR s = v by unfold refR; rw [if_pos hok, hv])
    have HOK := Aside0.mk hok
    have dv : decide (0 ≤ v) = true := decide_eq_true (by omega)
    have mv : max v 0 = v := by omega
    by_cases hv1 : 1 ≤ valD s.data.toList
    · obtain ⟨q1, q2⟩ := count_same s n hok hv1
      have HV1 := Aside0.mk hv1
      obtain ⟨cr, hcr⟩ : ∃ cr : Int, cr = refC s n := ⟨_, rfl⟩
      obtain ⟨y, hy⟩ : ∃ y : Int, y = min (valD s.data.toList : Int) (max n 0) := ⟨_, rfl⟩
      rw [← hcr] at q1 q2
      rw [← hy] at q2
      have HCR := Aside0.mk hcr
      have HY := Aside0.mk hy
      clear hok hv hv1 hcr hy
      go_enter Tryd.func8, Tryd.ntmps8
      go_wp2_with (first
        | (go_at_call 56; (with_reducible refine (alive_any _).mono ?_); rintro e w1 ⟨rfl, hB⟩; have HB := Aside0.mk hB; have n0 := Aside0.mk (tab_keep HT.out hB); clear hB HT; have HT := n0; clear n0)
        | (go_at_call 57; (with_reducible refine (read_yes s _ HOK.out).mono ?_); rintro e w2 ⟨rfl, hB⟩; rw [← HV.out]; have n1 := Aside0.mk (below_trans HB.out (below_sub hB HB.out.size)); have n0 := Aside0.mk (tab_keep HT.out hB); clear hB HT HB; have HT := n0; have HB := n1; clear n0 n1)
        | (go_at_call 58; (with_reducible refine (rread_any s _ HSZ.out).mono ?_); rintro e w3 ⟨rfl, hB⟩; rw [HR.out]; have n1 := Aside0.mk (below_trans HB.out (below_sub hB HB.out.size)); have n0 := Aside0.mk (tab_keep HT.out hB); clear hB HT HB; have HT := n0; have HB := n1; clear n0 n1)
        | (go_at_call 59; (with_reducible refine (count_yes s n _ HOK.out HV1.out HN.out.1 HN.out.2).mono ?_); rintro e w4 ⟨rfl, hB⟩; rw [← HY.out]; have n1 := Aside0.mk (below_trans HB.out (below_sub hB HB.out.size)); have n0 := Aside0.mk (tab_keep HT.out hB); clear hB HT HB; have HT := n0; have HB := n1; clear n0 n1)
        | (go_at_call 60; (with_reducible refine (rcount_any s n _ HSZ.out).mono ?_); rintro e w5 ⟨rfl, hB⟩; rw [← HCR.out]; have n1 := Aside0.mk (below_trans HB.out (below_sub hB HB.out.size)); have n0 := Aside0.mk (tab_keep HT.out hB); clear hB HT HB; have HT := n0; have HB := n1; clear n0 n1)
        | (go_at_call 61; (with_reducible refine (status_any n _).mono ?_); rintro e w' ⟨rfl, rfl⟩; rw [← HST.out])
        | (go_at_call 62; (with_reducible refine (rstatus_any n _ HN.out.1 HN.out.2).mono ?_); rintro e w6 ⟨rfl, hB⟩; rw [← HST.out]; have n1 := Aside0.mk (below_trans HB.out (below_sub hB HB.out.size)); have n0 := Aside0.mk (tab_keep HT.out hB); clear hB HT HB; have HT := n0; have HB := n1; clear n0 n1)
        | (go_at_call 63; (with_reducible refine (text_any n _ HN.out.1 HN.out.2 HT.out).mono ?_); rintro e w7 ⟨rfl, hB⟩; rw [← HTX.out]; have n1 := Aside0.mk (below_trans HB.out (below_sub hB HB.out.size)); have n0 := Aside0.mk (tab_keep HT.out hB); clear hB HT HB; have HT := n0; have HB := n1; clear n0 n1)
        | (go_at_call 64; (with_reducible refine (rdig_any n _ HN.out.1 HN.out.2).mono ?_); rintro e w8 ⟨rfl, hB⟩; rw [← HTX.out]; have n1 := Aside0.mk (below_trans HB.out (below_sub hB HB.out.size)); have n0 := Aside0.mk (tab_keep HT.out hB); clear hB HT HB; have HT := n0; have HB := n1; clear n0 n1))
      go_ret
      exact ⟨rfl, HB.out⟩
    · have HV1 := Aside0.mk (show valD s.data.toList < 1 by omega)
      obtain ⟨m1, hm1⟩ : ∃ m1 : Int, m1 = -1 := ⟨_, rfl⟩
      have HCR := Aside0.mk (show refC s n = m1 by unfold refC; rw [HR.out, if_pos (by omega), hm1])
      have dm : decide (0 ≤ m1) = false := by rw [hm1]; rfl
      have mm : max m1 0 = 0 := by rw [hm1]; rfl
      clear hok hv hv1 hm1
      go_enter Tryd.func8, Tryd.ntmps8
      go_wp2_with (first
        | (go_at_call 56; (with_reducible refine (alive_any _).mono ?_); rintro e w1 ⟨rfl, hB⟩; have HB := Aside0.mk hB; have n0 := Aside0.mk (tab_keep HT.out hB); clear hB HT; have HT := n0; clear n0)
        | (go_at_call 57; (with_reducible refine (read_yes s _ HOK.out).mono ?_); rintro e w2 ⟨rfl, hB⟩; rw [← HV.out]; have n1 := Aside0.mk (below_trans HB.out (below_sub hB HB.out.size)); have n0 := Aside0.mk (tab_keep HT.out hB); clear hB HT HB; have HT := n0; have HB := n1; clear n0 n1)
        | (go_at_call 58; (with_reducible refine (rread_any s _ HSZ.out).mono ?_); rintro e w3 ⟨rfl, hB⟩; rw [HR.out]; have n1 := Aside0.mk (below_trans HB.out (below_sub hB HB.out.size)); have n0 := Aside0.mk (tab_keep HT.out hB); clear hB HT HB; have HT := n0; have HB := n1; clear n0 n1)
        | (go_at_call 59; (with_reducible refine (count_zero s n _ HOK.out HV1.out).mono ?_); rintro e w4 ⟨rfl, hB⟩; have n1 := Aside0.mk (below_trans HB.out (below_sub hB HB.out.size)); have n0 := Aside0.mk (tab_keep HT.out hB); clear hB HT HB; have HT := n0; have HB := n1; clear n0 n1)
        | (go_at_call 60; (with_reducible refine (rcount_any s n _ HSZ.out).mono ?_); rintro e w5 ⟨rfl, hB⟩; rw [HCR.out]; have n1 := Aside0.mk (below_trans HB.out (below_sub hB HB.out.size)); have n0 := Aside0.mk (tab_keep HT.out hB); clear hB HT HB; have HT := n0; have HB := n1; clear n0 n1)
        | (go_at_call 61; (with_reducible refine (status_any n _).mono ?_); rintro e w' ⟨rfl, rfl⟩; rw [← HST.out])
        | (go_at_call 62; (with_reducible refine (rstatus_any n _ HN.out.1 HN.out.2).mono ?_); rintro e w6 ⟨rfl, hB⟩; rw [← HST.out]; have n1 := Aside0.mk (below_trans HB.out (below_sub hB HB.out.size)); have n0 := Aside0.mk (tab_keep HT.out hB); clear hB HT HB; have HT := n0; have HB := n1; clear n0 n1)
        | (go_at_call 63; (with_reducible refine (text_any n _ HN.out.1 HN.out.2 HT.out).mono ?_); rintro e w7 ⟨rfl, hB⟩; rw [← HTX.out]; have n1 := Aside0.mk (below_trans HB.out (below_sub hB HB.out.size)); have n0 := Aside0.mk (tab_keep HT.out hB); clear hB HT HB; have HT := n0; have HB := n1; clear n0 n1)
        | (go_at_call 64; (with_reducible refine (rdig_any n _ HN.out.1 HN.out.2).mono ?_); rintro e w8 ⟨rfl, hB⟩; rw [← HTX.out]; have n1 := Aside0.mk (below_trans HB.out (below_sub hB HB.out.size)); have n0 := Aside0.mk (tab_keep HT.out hB); clear hB HT HB; have HT := n0; have HB := n1; clear n0 n1))
      go_ret
      exact ⟨rfl, HB.out⟩
  | false =>
    have HOK := Aside0.mk hok
    obtain ⟨m1, hm1⟩ : ∃ m1 : Int, m1 = -1 := ⟨_, rfl⟩
    have HR := Aside0.mk (show refR s = m1 by unfold refR; rw [if_neg (by rw [hok]; decide), hm1])
    have HCR := Aside0.mk (show refC s n = m1 by unfold refC; rw [HR.out, if_pos (by omega), hm1])
    have dm : decide (0 ≤ m1) = false := by rw [hm1]; rfl
    have mm : max m1 0 = 0 := by rw [hm1]; rfl
    clear hok hm1
    go_enter Tryd.func8, Tryd.ntmps8
    go_wp2_with (first
      | (go_at_call 56; (with_reducible refine (alive_any _).mono ?_); rintro e w1 ⟨rfl, hB⟩; have HB := Aside0.mk hB; have n0 := Aside0.mk (tab_keep HT.out hB); clear hB HT; have HT := n0; clear n0)
      | (go_at_call 57; (with_reducible refine (read_no s _ HOK.out).mono ?_); rintro e w2 ⟨rfl, hB⟩; have n1 := Aside0.mk (below_trans HB.out (below_sub hB HB.out.size)); have n0 := Aside0.mk (tab_keep HT.out hB); clear hB HT HB; have HT := n0; have HB := n1; clear n0 n1)
      | (go_at_call 58; (with_reducible refine (rread_any s _ HSZ.out).mono ?_); rintro e w3 ⟨rfl, hB⟩; rw [HR.out]; have n1 := Aside0.mk (below_trans HB.out (below_sub hB HB.out.size)); have n0 := Aside0.mk (tab_keep HT.out hB); clear hB HT HB; have HT := n0; have HB := n1; clear n0 n1)
      | (go_at_call 59; (with_reducible refine (count_none s n _ HOK.out).mono ?_); rintro e w4 ⟨rfl, hB⟩; have n1 := Aside0.mk (below_trans HB.out (below_sub hB HB.out.size)); have n0 := Aside0.mk (tab_keep HT.out hB); clear hB HT HB; have HT := n0; have HB := n1; clear n0 n1)
      | (go_at_call 60; (with_reducible refine (rcount_any s n _ HSZ.out).mono ?_); rintro e w5 ⟨rfl, hB⟩; rw [HCR.out]; have n1 := Aside0.mk (below_trans HB.out (below_sub hB HB.out.size)); have n0 := Aside0.mk (tab_keep HT.out hB); clear hB HT HB; have HT := n0; have HB := n1; clear n0 n1)
      | (go_at_call 61; (with_reducible refine (status_any n _).mono ?_); rintro e w' ⟨rfl, rfl⟩; rw [← HST.out])
      | (go_at_call 62; (with_reducible refine (rstatus_any n _ HN.out.1 HN.out.2).mono ?_); rintro e w6 ⟨rfl, hB⟩; rw [← HST.out]; have n1 := Aside0.mk (below_trans HB.out (below_sub hB HB.out.size)); have n0 := Aside0.mk (tab_keep HT.out hB); clear hB HT HB; have HT := n0; have HB := n1; clear n0 n1)
      | (go_at_call 63; (with_reducible refine (text_any n _ HN.out.1 HN.out.2 HT.out).mono ?_); rintro e w7 ⟨rfl, hB⟩; rw [← HTX.out]; have n1 := Aside0.mk (below_trans HB.out (below_sub hB HB.out.size)); have n0 := Aside0.mk (tab_keep HT.out hB); clear hB HT HB; have HT := n0; have HB := n1; clear n0 n1)
      | (go_at_call 64; (with_reducible refine (rdig_any n _ HN.out.1 HN.out.2).mono ?_); rintro e w8 ⟨rfl, hB⟩; rw [← HTX.out]; have n1 := Aside0.mk (below_trans HB.out (below_sub hB HB.out.size)); have n0 := Aside0.mk (tab_keep HT.out hB); clear hB HT HB; have HT := n0; have HB := n1; clear n0 n1))
    go_ret
    exact ⟨rfl, HB.out⟩
end Go.Proofs.YtdglcnchdhojnaaDoor.Num
