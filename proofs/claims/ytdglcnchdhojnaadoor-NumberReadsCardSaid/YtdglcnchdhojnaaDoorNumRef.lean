/- number: the document's answer, in plain words. -/
import Derived.Test.YtdglcnchdhojnaaDoorNumBack
import Derived.Test.YtdglcnchdhojnaaDoorP1
namespace Go.Proofs.YtdglcnchdhojnaaDoor.Num
open Go.RowKit Go.Proofs.YtdglcnchdhojnaaDoorW.PrintWords Go.Proofs.YtdglcnchdhojnaaDoorW.PrintLast Go.Proofs.YtdglcnchdhojnaaDoor.P
set_option linter.unusedVariables false
set_option linter.unusedSimpArgs false
theorem wr (x : Int) (h0 : -9223372036854775808 ≤ x) (h1 : x ≤ 9223372036854775807) : wrap64 x = x := by unfold wrap64; omega
theorem via {α β : Type} {g h' : Nat → Option α} {h : Nat → Option β} {b : β} {r : α} (hb : Ev h b) (hk : Ev h' r) (e : ∀ k, h k = some b → g (k + 1) = h' k) : Ev g r := by
  obtain ⟨k0, h0⟩ := hb
  obtain ⟨k1, h1⟩ := hk
  refine ⟨max k0 k1 + 1, fun k hk => ?_⟩
  obtain ⟨j, rfl⟩ : ∃ j, k = j + 1 := ⟨k - 1, by omega⟩
  rw [e j (h0 j (by omega))]
  exact h1 j (by omega)
def isDI (c : Int) : Bool := decide (48 ≤ c) && decide (c ≤ 57)
theorem digit_ev (c : Int) (h0 : 0 ≤ c) (h1 : c ≤ 255) : Ev (fun k => deadfallref02_Digit.f k c) (isDI c) := by
  have key : ∀ n : Fin 256, deadfallref02_Digit.f 20 (n.val : Int) = some (isDI (n.val : Int)) := by decide +kernel
  have h := key ⟨c.toNat, by omega⟩
  simp only [Int.toNat_of_nonneg h0] at h
  exact Ev.of (deadfallref02_Digit.mono c) h
theorem bt_get (s : ByteArray) (i : Nat) (h : i < s.data.toList.length) : bt s (i : Int) = ((s.data.toList[i]).toNat : Int) := by
  have hs : i < s.size := h
  unfold bt
  rw [dif_pos (by rw [Int.toNat_natCast]; exact hs)]
  rfl
theorem isDI_nat (b : UInt8) : isDI (b.toNat : Int) = isD b := by
  unfold isDI isD
  congr 1
  · rw [Bool.eq_iff_iff, decide_eq_true_eq, decide_eq_true_eq]; omega
  · rw [Bool.eq_iff_iff, decide_eq_true_eq, decide_eq_true_eq]; omega
theorem digits_ev (s : ByteArray) (hs : s.size ≤ 1000000) : ∀ (d i : Nat), s.size - i ≤ d → i ≤ s.size → Ev (fun k => deadfallref02_Digits.l0 k s (i : Int)) ((s.data.toList.drop i).all isD && decide ((s.size : Int) > 0)) := by
  intro d
  induction d with
  | zero =>
    intro i hd hi
    rw [List.drop_eq_nil_of_le (show s.data.toList.length ≤ i by rw [toList_len]; omega), List.all_nil, Bool.true_and]
    refine Ev.step (f := fun _ => some (decide ((s.size : Int) > 0))) (fun k => ?_) (Ev.now _)
    show deadfallref02_Digits.l0 (k + 1) s (i : Int) = _
    rw [deadfallref02_Digits.l0, if_neg (by omega)]
  | succ d ih =>
    intro i hd hi
    by_cases hlt : i < s.size
    · have hl : i < s.data.toList.length := hlt
      have hb := bt_range s (i : Int)
      have hdig := digit_ev (bt s (i : Int)) hb.1 hb.2
      rw [List.drop_eq_getElem_cons hl, List.all_cons]
      have he : isDI (bt s (i : Int)) = isD (s.data.toList[i]) := by rw [bt_get s i hl, isDI_nat]
      rw [he] at hdig
      cases hq : isD (s.data.toList[i]) with
      | true =>
        rw [hq] at hdig
        rw [Bool.true_and]
        refine via hdig (ih (i + 1) (by omega) (by omega)) fun k hk => ?_
        show deadfallref02_Digits.l0 (k + 1) s (i : Int) = _
        rw [deadfallref02_Digits.l0, if_pos (by omega), if_pos (by omega), hk, Option.bind_some, if_pos rfl, wr ((i : Int) + 1) (by omega) (by omega)]
        rfl
      | false =>
        rw [hq] at hdig
        refine via (h' := fun _ => some false) hdig (Ev.now _) fun k hk => ?_
        show deadfallref02_Digits.l0 (k + 1) s (i : Int) = _
        rw [deadfallref02_Digits.l0, if_pos (by omega), if_pos (by omega), hk, Option.bind_some, if_neg (by decide)]
    · rw [List.drop_eq_nil_of_le (show s.data.toList.length ≤ i by rw [toList_len]; omega), List.all_nil, Bool.true_and]
      refine Ev.step (f := fun _ => some (decide ((s.size : Int) > 0))) (fun k => ?_) (Ev.now _)
      show deadfallref02_Digits.l0 (k + 1) s (i : Int) = _
      rw [deadfallref02_Digits.l0, if_neg (by omega)]
theorem value_ev (s : ByteArray) (hs : s.size ≤ 9) (hall : s.data.toList.all isD = true) : ∀ (d i : Nat), s.size - i ≤ d → i ≤ s.size → ∀ n : Nat, n < 10 ^ i → Ev (fun k => deadfallref14_Read.l0 k s (n : Int) (i : Int)) (((Lib.decFrom n (s.data.toList.drop i)).getD 0 : Nat) : Int) := by
  intro d
  induction d with
  | zero =>
    intro i hd hi n hn
    rw [List.drop_eq_nil_of_le (show s.data.toList.length ≤ i by rw [toList_len]; omega)]
    refine Ev.step (f := fun _ => some (n : Int)) (fun k => ?_) (Ev.now _)
    show deadfallref14_Read.l0 (k + 1) s (n : Int) (i : Int) = _
    rw [deadfallref14_Read.l0, if_neg (by omega)]
  | succ d ih =>
    intro i hd hi n hn
    by_cases hlt : i < s.size
    · have hl : i < s.data.toList.length := hlt
      have hD : isD (s.data.toList[i]) = true := List.all_eq_true.1 hall _ (List.getElem_mem hl)
      have hD' := hD
      unfold isD at hD'
      simp only [Bool.and_eq_true, decide_eq_true_eq] at hD'
      have hp : (10 : Nat) ^ i ≤ 10 ^ 9 := Nat.pow_le_pow_right (by decide) (by omega)
      have e9 : (10 : Nat) ^ 9 = 1000000000 := by decide
      have hb := bt_get s i hl
      rw [List.drop_eq_getElem_cons hl]
      have hstep : Lib.decFrom n (s.data.toList[i] :: s.data.toList.drop (i + 1)) = Lib.decFrom (n * 10 + ((s.data.toList[i]).toNat - 48)) (s.data.toList.drop (i + 1)) := by
        rw [Lib.decFrom, digit_val hD]
      rw [hstep]
      have hn' : n * 10 + ((s.data.toList[i]).toNat - 48) < 10 ^ (i + 1) := by rw [Nat.pow_succ]; omega
      refine Ev.step (fun k => ?_) (ih (i + 1) (by omega) (by omega) (n * 10 + ((s.data.toList[i]).toNat - 48)) hn')
      show deadfallref14_Read.l0 (k + 1) s (n : Int) (i : Int) = _
      rw [deadfallref14_Read.l0, if_pos (by omega), if_pos (by omega), hb, wr ((n : Int) * 10) (by omega) (by omega), wr (((s.data.toList[i]).toNat : Int)) (by omega) (by omega), wr ((n : Int) * 10 + ((s.data.toList[i]).toNat : Int)) (by omega) (by omega), wr ((n : Int) * 10 + ((s.data.toList[i]).toNat : Int) - 48) (by omega) (by omega), wr ((i : Int) + 1) (by omega) (by omega)]
      rw [show (n : Int) * 10 + ((s.data.toList[i]).toNat : Int) - 48 = ((n * 10 + ((s.data.toList[i]).toNat - 48) : Nat) : Int) by omega]
      rfl
    · rw [List.drop_eq_nil_of_le (show s.data.toList.length ≤ i by rw [toList_len]; omega)]
      refine Ev.step (f := fun _ => some (n : Int)) (fun k => ?_) (Ev.now _)
      show deadfallref14_Read.l0 (k + 1) s (n : Int) (i : Int) = _
      rw [deadfallref14_Read.l0, if_neg (by omega)]
def refR (s : ByteArray) : Int := if okD s.data.toList = true then (valD s.data.toList : Int) else -1
theorem isEmpty_size (s : ByteArray) : s.data.toList.isEmpty = decide (s.size = 0) := by
  cases h : s.data.toList with
  | nil => rw [← toList_len, h]; rfl
  | cons a t => rw [← toList_len, h]; rfl
theorem read_ev (s : ByteArray) (hs : s.size ≤ 1000000) : Ev (fun k => deadfallref14_Read.f k s) (refR s) := by
  have hd := digits_ev s hs s.size 0 (by omega) (by omega)
  rw [List.drop_zero] at hd
  have hd' : Ev (fun k => deadfallref02_Digits.f k s) (s.data.toList.all isD && decide ((s.size : Int) > 0)) := hd
  unfold deadfallref14_Read.f
  refine Ev.bind (f := fun k t => if t = true then deadfallref14_Read.j0 k s (decide ((s.size : Int) > 9)) else deadfallref14_Read.j0 k s true) hd' ?_
  have off : Ev (fun k => deadfallref14_Read.j0 k s true) (-1) := by
    refine Ev.step (f := fun _ => some (-1)) (fun k => ?_) (Ev.now _)
    show deadfallref14_Read.j0 (k + 1) s true = _
    rw [deadfallref14_Read.j0, if_pos rfl]
  cases hq : (s.data.toList.all isD && decide ((s.size : Int) > 0)) with
  | false =>
    refine Ev.congr (fun k => if_neg (by decide)) ?_
    have : refR s = -1 := by
      unfold refR
      rw [if_neg]
      intro h
      obtain ⟨h1, h2, h3⟩ := ok_size h
      rw [h3, Bool.true_and, decide_eq_true (by omega)] at hq
      cases hq
    rw [this]
    exact off
  | true =>
    refine Ev.congr (fun k => if_pos rfl) ?_
    rw [Bool.and_eq_true] at hq
    have h0 := of_decide_eq_true hq.2
    by_cases h9 : s.size ≤ 9
    · rw [decide_eq_false (show ¬ ((s.size : Int) > 9) by omega)]
      have hok : okD s.data.toList = true := by
        unfold okD
        rw [hq.1, isEmpty_size, decide_eq_false (show ¬ s.size = 0 by omega), decide_eq_true (show s.data.toList.length ≤ 9 from h9)]
        rfl
      have : refR s = (valD s.data.toList : Int) := by unfold refR; rw [if_pos hok]
      rw [this]
      refine Ev.step (fun k => ?_) (value_ev s h9 hq.1 s.size 0 (by omega) (by omega) 0 (by decide))
      show deadfallref14_Read.j0 (k + 1) s false = _
      rw [deadfallref14_Read.j0, if_neg (by decide)]
      rfl
    · rw [decide_eq_true (show (s.size : Int) > 9 by omega)]
      have : refR s = -1 := by
        unfold refR
        rw [if_neg]
        intro h
        exact h9 (ok_size h).2.1
      rw [this]
      exact off
end Go.Proofs.YtdglcnchdhojnaaDoor.Num
