/- class: Param and Reserved. -/
import Derived.Test.YtkepmbkghmkodaaClass2
namespace Go.Proofs.Ytkepmbkghmkodaa.Class
open Go.RowKit Go.Proofs.YtkepmbkghmkodaaW.PrintWords Go.Proofs.YtkepmbkghmkodaaW.PrintLast Go.Proofs.Ytkepmbkghmkodaa.Base
set_option linter.unusedVariables false
set_option linter.unusedSimpArgs false
def setB (c : Int) : Bool := [64, 42, 35, 63, 36, 33].contains c
def allD (s : ByteArray) : Bool := (bytesOf s).all digitB
def paramB (s : ByteArray) : Bool := (decide (s.size = 1) && (digitB (bt s 0) || setB (bt s 0))) || nameB s || (allD s && decide (1 < s.size) && decide (s.size ≤ 3) && bt s 0 != 48)
theorem set_eq (c : UInt8) : decide (0 ≤ Lib.indexByte [64, 42, 35, 63, 36, 33] c) = setB (c.toNat : Int) := by
  have h : ∀ n : Fin 256, decide (0 ≤ Lib.indexByte [64, 42, 35, 63, 36, 33] (UInt8.ofNat n.val)) = setB ((n.val : Nat) : Int) := by decide +kernel
  have := h ⟨c.toNat, c.toNat_lt⟩
  simpa using this
theorem contains_set (c : UInt8) (w : World) : Calls Try.prog 103 #[.string ⟨#[64, 42, 35, 63, 36, 33]⟩, .string ⟨#[c]⟩] w fun e w' => e = .returned (.bool (setB (c.toNat : Int))) ∧ w = w' := by
  refine (Try.strings_Contains_one _ c w).mono ?_
  rintro e w' ⟨rfl, rfl⟩
  exact ⟨ret_b (set_eq c), rfl⟩
def notDigit (x : Nat) : Bool := decide (x < 48) || decide (57 < x)
set_option maxHeartbeats 400000 in
theorem closure_any (x : Nat) (w : World) : Calls Try.prog 105 #[.int .i32 (x : Int)] w fun e w' => e = .returned (.bool (notDigit x)) ∧ w = w' := by
  unfold notDigit
  have e1 : decide ((x : Int) < 48) = decide (x < 48) := by simp; omega
  have e2 : decide ((57 : Int) < (x : Int)) = decide (57 < x) := by simp; omega
  by_cases h1 : x < 48
  · have d1 : decide ((x : Int) < 48) = true := by rw [e1]; simpa using h1
    clear e1 e2
    go_enter Try.func105, Try.ntmps105
    go_wp2
    go_ret
    exact ⟨ret_b (by rw [decide_eq_true h1]; rfl), rfl⟩
  · have d1 : decide ((x : Int) < 48) = false := by rw [e1]; simpa using h1
    have d2 : decide ((57 : Int) < (x : Int)) = decide (57 < x) := e2
    have D2 := Aside0.mk d2
    clear e1 e2 d2
    go_enter Try.func105, Try.ntmps105
    go_wp2
    go_ret
    exact ⟨ret_b (by rw [decide_eq_false h1]; first | exact D2.out | (simp; done) | rfl), rfl⟩
theorem idx_from (s : ByteArray) : ∀ (f pos : Nat), s.size ≤ pos + f → (0 ≤ Lib.idxFuncFrom notDigit true s f pos ↔ ∃ j : Nat, pos ≤ j ∧ j < s.size ∧ digitB (bt s j) = false)
  | 0, pos, h => by
    simp only [Lib.idxFuncFrom]
    constructor
    · intro h; omega
    · rintro ⟨j, h1, h2, _⟩; omega
  | f + 1, pos, h => by
    unfold Lib.idxFuncFrom
    by_cases hp : pos < s.size
    · rw [if_pos hp]
      have hbt : bt s pos = ((s[pos]'hp).toNat : Int) := (bt_nat s pos hp).symm
      by_cases ha : (s[pos]'hp).toNat < 128
      · rw [decode_ascii s pos hp ha]
        by_cases hd : notDigit (s[pos]'hp).toNat = true
        · rw [if_pos hd]
          refine ⟨fun _ => ⟨pos, Nat.le_refl _, hp, ?_⟩, fun _ => by omega⟩
          rw [hbt]
          simp only [notDigit, digitB, Bool.or_eq_true, decide_eq_true_eq] at hd ⊢
          simp
          omega
        · rw [if_neg hd]
          rw [idx_from s f (pos + 1) (by omega)]
          constructor
          · rintro ⟨j, h1, h2, h3⟩; exact ⟨j, by omega, h2, h3⟩
          · rintro ⟨j, h1, h2, h3⟩
            rcases Nat.lt_or_ge pos j with h4 | h4
            · exact ⟨j, h4, h2, h3⟩
            · obtain rfl : j = pos := by omega
              rw [hbt] at h3
              simp only [notDigit, digitB, Bool.or_eq_true, decide_eq_true_eq] at hd h3
              simp at h3
              omega
      · have hh := decode_high s pos hp (by omega)
        have hd : notDigit (Utf8.decode s pos).1 = true := by simp only [notDigit, Bool.or_eq_true, decide_eq_true_eq]; omega
        rw [if_pos hd]
        refine ⟨fun _ => ⟨pos, Nat.le_refl _, hp, ?_⟩, fun _ => by omega⟩
        rw [hbt]
        simp only [digitB]
        simp
        omega
    · rw [if_neg hp]
      constructor
      · intro h; omega
      · rintro ⟨j, h1, h2, _⟩; omega
theorem idx_digits (s : ByteArray) : decide (0 ≤ Lib.idxFunc notDigit true s) = !allD s := by
  have h := idx_from s s.size 0 (by omega)
  have ha := all_iff s digitB
  unfold Lib.idxFunc
  cases hd : allD s with
  | true =>
    simp only [Bool.not_true, decide_eq_false_iff_not]
    rw [h]
    rintro ⟨j, _, h2, h3⟩
    rw [ha.1 hd j h2] at h3
    cases h3
  | false =>
    simp only [Bool.not_false, decide_eq_true_eq]
    rw [h]
    apply Classical.byContradiction
    intro hn
    have : allD s = true := ha.2 fun k hk => by
      cases hb : digitB (bt s k) with
      | true => rfl
      | false => exact absurd ⟨k, Nat.zero_le _, hk, hb⟩ hn
    rw [hd] at this
    cases this
theorem containsFunc_any (s : ByteArray) (w : World) : Calls Try.prog 104 #[.string s, .func (.func 105) #[] #[]] w fun e w' => e = .returned (.bool (!allD s)) ∧ Below w.heap.size w w' := by
  refine (Try.strings_ContainsFunc_grows 105 #[] (enters_of Try.func105 (by kernel_rfl) rfl) notDigit s w ?_).mono ?_
  · intro W x hx hb
    refine (closure_any x W).mono ?_
    rintro e w' ⟨rfl, rfl⟩
    exact ⟨rfl, Below.refl _ _⟩
  · rintro e w' ⟨rfl, hB⟩
    exact ⟨ret_b (idx_digits s), hB⟩
set_option maxHeartbeats 1000000 in
set_option maxRecDepth 100000 in
theorem param_one (c : UInt8) (w : World) : Calls Try.prog 64 #[.string ⟨#[c]⟩] w fun e w' => e = .returned (.bool (paramB ⟨#[c]⟩)) ∧ Below w.heap.size w w' := by
  have hb0 : bt ⟨#[c]⟩ 0 = (c.toNat : Int) := by unfold bt; rw [dif_pos (by show (0 : Nat) < 1; omega)]; rfl
  have hix : ∀ h : 0 < (⟨#[c]⟩ : ByteArray).size, (((⟨#[c]⟩ : ByteArray)[0]'h).toNat : Int) = (c.toNat : Int) := fun _ => rfl
  have hA : allD ⟨#[c]⟩ = digitB (c.toNat : Int) := by simp [allD, bytesOf]
  have hP : paramB ⟨#[c]⟩ = (digitB (c.toNat : Int) || setB (c.toNat : Int) || nameB ⟨#[c]⟩) := by
    unfold paramB
    rw [hb0, show (⟨#[c]⟩ : ByteArray).size = 1 from rfl]
    simp
  have HA := Aside0.mk hA
  rw [hP]
  clear hA hP
  generalize hN : nameB ⟨#[c]⟩ = nm
  have HN := Aside0.mk hN
  clear hN hb0
  by_cases h1 : digitB (c.toNat : Int) = true
  · go_enter Try.func64, Try.ntmps64
    go_wp2_with (go_at_call 61; refine (digit_any _ _).mono ?_; rintro e w' ⟨rfl, rfl⟩)
    go_ret
    exact ⟨ret_b (by simp [h1]), Below.refl _ _⟩
  · replace h1 := Bool.eq_false_iff.mpr h1
    by_cases h2 : setB (c.toNat : Int) = true
    · go_enter Try.func64, Try.ntmps64
      go_wp2_with (first
        | (go_at_call 61; refine (digit_any _ _).mono ?_; rintro e w' ⟨rfl, rfl⟩)
        | (go_at_call 103; refine (contains_set _ _).mono ?_; rintro e w' ⟨rfl, rfl⟩))
      go_ret
      exact ⟨ret_b (by simp [h2]), Below.refl _ _⟩
    · replace h2 := Bool.eq_false_iff.mpr h2
      cases nm with
      | true =>
        go_enter Try.func64, Try.ntmps64
        go_wp2_with (first
          | (go_at_call 61; refine (digit_any _ _).mono ?_; rintro e w' ⟨rfl, rfl⟩)
          | (go_at_call 103; refine (contains_set _ _).mono ?_; rintro e w' ⟨rfl, rfl⟩)
          | (go_at_call 63; refine (name_any _ _ (by show (1 : Nat) ≤ 140737488355328; omega)).mono ?_; rintro e w' ⟨rfl, rfl⟩; rw [HN.out]))
        go_ret
        exact ⟨ret_b (by simp), Below.refl _ _⟩
      | false =>
        go_enter Try.func64, Try.ntmps64
        go_wp2_with (first
          | (go_at_call 61; refine (digit_any _ _).mono ?_; rintro e w' ⟨rfl, rfl⟩)
          | (go_at_call 103; refine (contains_set _ _).mono ?_; rintro e w' ⟨rfl, rfl⟩)
          | (go_at_call 63; refine (name_any _ _ (by show (1 : Nat) ≤ 140737488355328; omega)).mono ?_; rintro e w' ⟨rfl, rfl⟩; rw [HN.out])
          | (go_at_call 104; refine (containsFunc_any _ _).mono ?_; rintro e w1 ⟨rfl, hB⟩; rw [HA.out]; have HB := Aside0.mk hB; clear hB))
        go_ret
        exact ⟨ret_b (by simp [h1, h2]), HB.out⟩
set_option maxHeartbeats 1000000 in
set_option maxRecDepth 100000 in
theorem param_many (s : ByteArray) (w : World) (hs : s.size ≤ 140737488355328) (h1 : s.size ≠ 1) : Calls Try.prog 64 #[.string s] w fun e w' => e = .returned (.bool (paramB s)) ∧ Below w.heap.size w w' := by
  have hP : paramB s = (nameB s || (allD s && decide (1 < s.size) && decide (s.size ≤ 3) && bt s 0 != 48)) := by
    unfold paramB
    simp [h1]
  rw [hP]
  clear hP
  have hn1 : ((s.size : Int) == 1) = false := by simp; omega
  have hn2 : (s.size == 1) = false := by simp; omega
  clear h1
  generalize hN : nameB s = nm
  have HN := Aside0.mk hN
  clear hN
  generalize hD : allD s = ad
  have HD := Aside0.mk hD
  clear hD
  cases nm with
  | true =>
    go_enter Try.func64, Try.ntmps64
    go_wp2_with (first
      | (go_at_call 63; refine (name_any _ _ hs).mono ?_; rintro e w' ⟨rfl, rfl⟩; rw [HN.out]))
    go_ret
    exact ⟨ret_b (by simp), Below.refl _ _⟩
  | false =>
    by_cases h2 : 1 < s.size
    · have hbt : ∀ h : 0 < s.size, ((s[0]'h).toNat : Int) = bt s 0 := bt_nat s 0
      have hi1 : (0 : Int) < (s.size : Int) := by omega
      have hi2 : 0 < s.size := by omega
      have hd1 : decide ((1 : Int) < (s.size : Int)) = true := by simp; omega
      by_cases h3 : s.size ≤ 3
      · have hd3 : decide ((s.size : Int) ≤ 3) = true := by simp; omega
        cases ad
        all_goals
          go_enter Try.func64, Try.ntmps64
          go_wp2_with (first
            | (go_at_call 63; refine (name_any _ _ hs).mono ?_; rintro e w' ⟨rfl, rfl⟩; rw [HN.out])
            | (go_at_call 104; refine (containsFunc_any _ _).mono ?_; rintro e w1 ⟨rfl, hB⟩; rw [HD.out]; have HB := Aside0.mk hB; clear hB))
          go_ret
          exact ⟨ret_b (by simp [h2, h3]), HB.out⟩
      · have hd3 : decide ((s.size : Int) ≤ 3) = false := by simp; omega
        cases ad
        all_goals
          go_enter Try.func64, Try.ntmps64
          go_wp2_with (first
            | (go_at_call 63; refine (name_any _ _ hs).mono ?_; rintro e w' ⟨rfl, rfl⟩; rw [HN.out])
            | (go_at_call 104; refine (containsFunc_any _ _).mono ?_; rintro e w1 ⟨rfl, hB⟩; rw [HD.out]; have HB := Aside0.mk hB; clear hB))
          go_ret
          exact ⟨ret_b (by simp [h2, h3]), HB.out⟩
    · have hd1 : decide ((1 : Int) < (s.size : Int)) = false := by simp; omega
      cases ad
      all_goals
        go_enter Try.func64, Try.ntmps64
        go_wp2_with (first
          | (go_at_call 63; refine (name_any _ _ hs).mono ?_; rintro e w' ⟨rfl, rfl⟩; rw [HN.out])
          | (go_at_call 104; refine (containsFunc_any _ _).mono ?_; rintro e w1 ⟨rfl, hB⟩; rw [HD.out]; have HB := Aside0.mk hB; clear hB))
        go_ret
        exact ⟨ret_b (by simp [h2]), HB.out⟩
theorem one_byte {s : ByteArray} (h : s.size = 1) : ∃ c, s = ⟨#[c]⟩ := by
  obtain ⟨⟨l⟩⟩ := s
  match l, h with
  | [c], _ => exact ⟨c, rfl⟩
theorem param_any (s : ByteArray) (w : World) (hs : s.size ≤ 140737488355328) : Calls Try.prog 64 #[.string s] w fun e w' => e = .returned (.bool (paramB s)) ∧ Below w.heap.size w w' := by
  by_cases h1 : s.size = 1
  · obtain ⟨c, rfl⟩ := one_byte h1
    exact param_one c w
  · exact param_many s w hs h1
def RES : List ByteArray := [⟨#[33]⟩, ⟨#[123]⟩, ⟨#[125]⟩, ⟨#[105, 102]⟩, ⟨#[116, 104, 101, 110]⟩, ⟨#[101, 108, 115, 101]⟩, ⟨#[101, 108, 105, 102]⟩, ⟨#[102, 105]⟩, ⟨#[119, 104, 105, 108, 101]⟩, ⟨#[117, 110, 116, 105, 108]⟩, ⟨#[100, 111]⟩, ⟨#[100, 111, 110, 101]⟩, ⟨#[102, 111, 114]⟩, ⟨#[105, 110]⟩, ⟨#[99, 97, 115, 101]⟩, ⟨#[101, 115, 97, 99]⟩]
def reservedB (s : ByteArray) : Bool := Lib.containsS RES s
theorem cells_of_list {w : World} {g t : Nat} {zs : List ByteArray} {cs : Array Value} (hg : w.heap[g]? = some (.cells cs t (0, 0))) (hc : cs = (zs.map Value.string).toArray) : ∀ j, j < zs.length → w.cell? ⟨g, 0 + j, none⟩ = some (.string (zs.getD j ByteArray.empty)) := by
  intro j hj
  rw [Nat.zero_add, blk_cell hg, hc]
  simp [List.getElem?_eq_getElem hj, List.getD_eq_getElem?_getD]
set_option maxHeartbeats 1000000 in
set_option maxRecDepth 100000 in
theorem reserved_any (s : ByteArray) (w : World) : Calls Try.prog 67 #[.string s] w fun e w' => e = .returned (.bool (reservedB s)) ∧ Below w.heap.size w w' := by
  have hB := Aside0.mk (below_alloc (Below.refl w.heap.size w) (.cells (RES.map Value.string).toArray 9))
  have hbl := Aside0.mk (blk_new w (.cells (RES.map Value.string).toArray 9))
  go_enter Try.func67, Try.ntmps67
  go_wp2_with (go_at_call 107; refine (Try.slices_Contains_string _ 0 _ _ RES _ _ (by decide) (by decide) (cells_of_list hbl.out rfl)).mono ?_; rintro e w' ⟨rfl, rfl⟩)
  go_ret
  exact ⟨ret_b rfl, hB.out⟩
end Go.Proofs.Ytkepmbkghmkodaa.Class
