/- class: the reference. -/
import Derived.Test.YtkepmbkghmkodaaClass3
namespace Go.Proofs.Ytkepmbkghmkodaa.Class
open Go.RowKit Go.Proofs.YtkepmbkghmkodaaW.PrintWords Go.Proofs.YtkepmbkghmkodaaW.PrintLast Go.Proofs.Ytkepmbkghmkodaa.Base
set_option linter.unusedVariables false
set_option linter.unusedSimpArgs false
set_option maxHeartbeats 400000 in
theorem rblank_any (c : Int) (w : World) : Calls Try.prog 53 #[.int .u8 c] w fun e w' => e = .returned (.bool (blankB c)) ∧ w = w' := by
  unfold blankB
  go_enter Try.func53, Try.ntmps53
  go_wp2
  all_goals
    go_ret
    exact ⟨ret_b (by simp [*]), rfl⟩
set_option maxHeartbeats 400000 in
theorem rbreak_any (c : Int) (w : World) : Calls Try.prog 54 #[.int .u8 c] w fun e w' => e = .returned (.bool (breakB c)) ∧ w = w' := by
  unfold breakB blankB
  go_enter Try.func54, Try.ntmps54
  go_wp2
  all_goals
    go_ret
    exact ⟨ret_b (by simp [*]), rfl⟩
theorem u8_range {c : Int} (h : (Lit.int .u8 c).wf = true) : 0 ≤ c ∧ c ≤ 255 := by
  simp only [Lit.wf, Bool.and_eq_true, decide_eq_true_eq] at h
  have h1 : IntKind.u8.min = 0 := rfl
  have h2 : IntKind.u8.max = 255 := rfl
  rw [h1, h2] at h
  exact h
theorem contains_iff (s : ByteArray) (c : Int) : (bytesOf s).contains c = true ↔ ∃ k : Nat, k < s.size ∧ bt s k = c := by
  rw [List.contains_iff_mem]
  constructor
  · intro h
    obtain ⟨k, hk, rfl⟩ := List.getElem_of_mem h
    rw [bytesOf_length] at hk
    exact ⟨k, hk, (bytes_get s k hk).symm⟩
  · rintro ⟨k, hk, rfl⟩
    rw [← bytes_get s k hk]
    exact List.getElem_mem _
set_option maxHeartbeats 400000 in
theorem among_any (c : Int) (s : ByteArray) (w : World) (hs : s.size ≤ 140737488355328) : Calls Try.prog 102 #[.int .u8 c, .string s] w fun e w' => e = .returned (.bool ((bytesOf s).contains c)) ∧ w = w' := by
  have HI := Aside0.mk (contains_iff s c)
  generalize (bytesOf s).contains c = r at *
  go_enter Try.func102, Try.ntmps102
  go_wp2
  go_loop [5] (fun v5 => ∃ k : Nat, k ≤ s.size ∧ v5 = .int .i64 k ∧ Aside0 (∀ j : Nat, j < k → bt s j ≠ c)) (fun v5 => s.size - (intOf v5).toNat)
  case atStart => exact ⟨0, Nat.zero_le _, rfl, ⟨by omega⟩⟩
  case round =>
    obtain ⟨k, hk, rfl, HA⟩ := hrel
    by_cases hlt : k < s.size
    · have hbt := bt_nat s k
      have hi0 : (0 : Int) ≤ (k : Int) := by omega
      have hi1 : (k : Int) < (s.size : Int) := by omega
      by_cases h1 : bt s k = c
      · have hq : (bt s k == c) = true := beq_iff_eq.2 h1
        have H1 := Aside0.mk h1
        clear h1
        go_wp2
        go_ret
        exact ⟨ret_b (HI.out.2 ⟨k, hlt, H1.out⟩).symm, rfl⟩
      · have hq : (bt s k == c) = false := beq_eq_false_iff_ne.2 h1
        have H1 := Aside0.mk h1
        clear h1
        go_wp2
        go_round
        case measure => simp [intOf]; omega
        case rel =>
          refine ⟨k + 1, by omega, by go_num, ⟨fun j hj => ?_⟩⟩
          rcases Nat.lt_or_ge j k with h | h
          · exact HA.out j h
          · obtain rfl : j = k := by omega
            exact H1.out
    · go_wp2
      go_ret
      refine ⟨ret_b ?_, rfl⟩
      cases hr : r with
      | false => rfl
      | true =>
        obtain ⟨j, h1, h2⟩ := HI.out.1 hr
        exact absurd h2 (HA.out j (by omega))
theorem rsign_eq {c : Int} (h0 : 0 ≤ c) (h1 : c ≤ 255) : (bytesOf ⟨#[59, 38, 124, 40, 41, 60, 62]⟩).contains c = signB c :=
  all_bytes (p := fun c => (bytesOf ⟨#[59, 38, 124, 40, 41, 60, 62]⟩).contains c = signB c) (by decide +kernel) h0 h1
set_option maxHeartbeats 400000 in
theorem rsign_any (c : Int) (w : World) (h0 : 0 ≤ c) (h1 : c ≤ 255) : Calls Try.prog 56 #[.int .u8 c] w fun e w' => e = .returned (.bool (signB c)) ∧ w = w' := by
  have HE := Aside0.mk (rsign_eq h0 h1)
  go_enter Try.func56, Try.ntmps56
  go_wp2_with (go_at_call 102; refine (among_any _ ⟨#[59, 38, 124, 40, 41, 60, 62]⟩ _ (by decide)).mono ?_; rintro e w' ⟨rfl, rfl⟩; rw [HE.out])
  go_ret
  exact ⟨rfl, rfl⟩
theorem rletter_eq {c : Int} (h0 : 0 ≤ c) (h1 : c ≤ 255) : (bytesOf ⟨#[97, 98, 99, 100, 101, 102, 103, 104, 105, 106, 107, 108, 109, 110, 111, 112, 113, 114, 115, 116, 117, 118, 119, 120, 121, 122, 65, 66, 67, 68, 69, 70, 71, 72, 73, 74, 75, 76, 77, 78, 79, 80, 81, 82, 83, 84, 85, 86, 87, 88, 89, 90, 95]⟩).contains c = letterB c :=
  all_bytes (p := fun c => (bytesOf ⟨#[97, 98, 99, 100, 101, 102, 103, 104, 105, 106, 107, 108, 109, 110, 111, 112, 113, 114, 115, 116, 117, 118, 119, 120, 121, 122, 65, 66, 67, 68, 69, 70, 71, 72, 73, 74, 75, 76, 77, 78, 79, 80, 81, 82, 83, 84, 85, 86, 87, 88, 89, 90, 95]⟩).contains c = letterB c) (by decide +kernel) h0 h1
set_option maxHeartbeats 400000 in
theorem rletter_any (c : Int) (w : World) (h0 : 0 ≤ c) (h1 : c ≤ 255) : Calls Try.prog 60 #[.int .u8 c] w fun e w' => e = .returned (.bool (letterB c)) ∧ w = w' := by
  have HE := Aside0.mk (rletter_eq h0 h1)
  go_enter Try.func60, Try.ntmps60
  go_wp2_with (go_at_call 102; refine (among_any _ ⟨#[97, 98, 99, 100, 101, 102, 103, 104, 105, 106, 107, 108, 109, 110, 111, 112, 113, 114, 115, 116, 117, 118, 119, 120, 121, 122, 65, 66, 67, 68, 69, 70, 71, 72, 73, 74, 75, 76, 77, 78, 79, 80, 81, 82, 83, 84, 85, 86, 87, 88, 89, 90, 95]⟩ _ (by decide)).mono ?_; rintro e w' ⟨rfl, rfl⟩; rw [HE.out])
  go_ret
  exact ⟨rfl, rfl⟩
theorem rdigit_eq {c : Int} (h0 : 0 ≤ c) (h1 : c ≤ 255) : (bytesOf ⟨#[48, 49, 50, 51, 52, 53, 54, 55, 56, 57]⟩).contains c = digitB c :=
  all_bytes (p := fun c => (bytesOf ⟨#[48, 49, 50, 51, 52, 53, 54, 55, 56, 57]⟩).contains c = digitB c) (by decide +kernel) h0 h1
set_option maxHeartbeats 400000 in
theorem rdigit_any (c : Int) (w : World) (h0 : 0 ≤ c) (h1 : c ≤ 255) : Calls Try.prog 62 #[.int .u8 c] w fun e w' => e = .returned (.bool (digitB c)) ∧ w = w' := by
  have HE := Aside0.mk (rdigit_eq h0 h1)
  go_enter Try.func62, Try.ntmps62
  go_wp2_with (go_at_call 102; refine (among_any _ ⟨#[48, 49, 50, 51, 52, 53, 54, 55, 56, 57]⟩ _ (by decide)).mono ?_; rintro e w' ⟨rfl, rfl⟩; rw [HE.out])
  go_ret
  exact ⟨rfl, rfl⟩
set_option maxHeartbeats 400000 in
theorem rbare_any (c : Int) (w : World) (h0 : 0 ≤ c) (h1 : c ≤ 255) : Calls Try.prog 58 #[.int .u8 c] w fun e w' => e = .returned (.bool (bareB c)) ∧ w = w' := by
  have e : bareB c = (!breakB c && !signB c && c != 34 && c != 36 && c != 39 && c != 92 && c != 96) := by
    unfold bareB
    cases breakB c <;> cases signB c <;> cases c != 34 <;> cases c != 36 <;> cases c != 39 <;> cases c != 92 <;> cases c != 96 <;> rfl
  rw [e]
  clear e
  go_enter Try.func58, Try.ntmps58
  go_wp2_with (first
    | (go_at_call 54; refine (rbreak_any _ _).mono ?_; rintro e w' ⟨rfl, rfl⟩)
    | (go_at_call 56; refine (rsign_any _ _ h0 h1).mono ?_; rintro e w' ⟨rfl, rfl⟩))
  all_goals
    go_ret
    exact ⟨ret_b (by simp [*]), rfl⟩
set_option maxHeartbeats 1000000 in
set_option maxRecDepth 100000 in
theorem rname_any (s : ByteArray) (w : World) (hs : s.size ≤ 140737488355328) : Calls Try.prog 65 #[.string s] w fun e w' => e = .returned (.bool (nameB s)) ∧ w = w' := by
  have HN := Aside0.mk (name_iff s)
  generalize nameB s = nm at *
  by_cases hz : s.size = 0
  · have h1 : ((s.size : Int) == 0) = true := by simp [hz]
    have HZ := Aside0.mk hz
    clear hz
    go_enter Try.func65, Try.ntmps65
    go_wp2
    go_ret
    refine ⟨ret_b ?_, rfl⟩
    cases hn : nm with
    | false => rfl
    | true => exact absurd HZ.out (HN.out.1 hn).1
  · have h1 : ((s.size : Int) == 0) = false := by simp [hz]
    have hp : 0 < s.size := by omega
    have hpi : (0 : Int) < (s.size : Int) := by omega
    have hbt0 : ∀ h : 0 < s.size, ((s[0]'h).toNat : Int) = bt s 0 := bt_nat s 0
    have hr0 := bt_range s 0
    by_cases hl0 : letterB (bt s 0) = true
    · go_enter Try.func65, Try.ntmps65
      go_wp2_with (go_at_call 60; refine (rletter_any _ _ (by first | exact hr0.1 | omega) (by first | exact hr0.2 | omega)).mono ?_; rintro e w' ⟨rfl, rfl⟩)
      clear hbt0
      go_loop [3] (fun v3 => ∃ k : Nat, 1 ≤ k ∧ k ≤ s.size ∧ v3 = .int .i64 k ∧ Aside0 (∀ j : Nat, j < k → (letterB (bt s j) || digitB (bt s j)) = true)) (fun v3 => s.size - (intOf v3).toNat)
      case atStart =>
        refine ⟨1, Nat.le_refl _, hp, rfl, ⟨fun j hj => ?_⟩⟩
        obtain rfl : j = 0 := by omega
        have : letterB (bt s ((0 : Nat) : Int)) = true := hl0
        rw [this]
        rfl
      case round =>
        obtain ⟨k, hk1, hk, rfl, HA⟩ := hrel
        by_cases hlt : k < s.size
        · have hbt := bt_nat s k
          have hr := bt_range s k
          have hi0 : (0 : Int) ≤ (k : Int) := by omega
          have hi1 : (k : Int) < (s.size : Int) := by omega
          by_cases h2 : letterB (bt s k) = true
          · go_wp2_with (go_at_call 60; refine (rletter_any _ _ hr.1 hr.2).mono ?_; rintro e w' ⟨rfl, rfl⟩)
            go_round
            case measure => simp [intOf]; omega
            case rel =>
              refine ⟨k + 1, by omega, by omega, by go_num, ⟨fun j hj => ?_⟩⟩
              rcases Nat.lt_or_ge j k with h | h
              · exact HA.out j h
              · obtain rfl : j = k := by omega
                rw [h2]; rfl
          · replace h2 := Bool.eq_false_iff.mpr h2
            by_cases h3 : digitB (bt s k) = true
            · go_wp2_with (first
                | (go_at_call 60; refine (rletter_any _ _ hr.1 hr.2).mono ?_; rintro e w' ⟨rfl, rfl⟩)
                | (go_at_call 62; refine (rdigit_any _ _ hr.1 hr.2).mono ?_; rintro e w' ⟨rfl, rfl⟩))
              go_round
              case measure => simp [intOf]; omega
              case rel =>
                refine ⟨k + 1, by omega, by omega, by go_num, ⟨fun j hj => ?_⟩⟩
                rcases Nat.lt_or_ge j k with h | h
                · exact HA.out j h
                · obtain rfl : j = k := by omega
                  rw [h2, h3]; rfl
            · replace h3 := Bool.eq_false_iff.mpr h3
              go_wp2_with (first
                | (go_at_call 60; refine (rletter_any _ _ hr.1 hr.2).mono ?_; rintro e w' ⟨rfl, rfl⟩)
                | (go_at_call 62; refine (rdigit_any _ _ hr.1 hr.2).mono ?_; rintro e w' ⟨rfl, rfl⟩))
              go_ret
              refine ⟨ret_b ?_, rfl⟩
              cases hn : nm with
              | false => rfl
              | true => have := (HN.out.1 hn).2.2 k hlt; rw [h2, h3] at this; cases this
        · obtain rfl : k = s.size := by omega
          have hnt : nm = true := HN.out.2 ⟨hz, hl0, fun k hk => HA.out k hk⟩
          have HT := Aside0.mk hnt
          clear hnt
          go_wp2
          go_ret
          exact ⟨ret_b (by rw [HT.out]), rfl⟩
    · replace hl0 := Bool.eq_false_iff.mpr hl0
      go_enter Try.func65, Try.ntmps65
      go_wp2_with (go_at_call 60; refine (rletter_any _ _ (by first | exact hr0.1 | omega) (by first | exact hr0.2 | omega)).mono ?_; rintro e w' ⟨rfl, rfl⟩)
      go_ret
      refine ⟨ret_b ?_, rfl⟩
      cases hn : nm with
      | false => rfl
      | true => have := (HN.out.1 hn).2.1; rw [hl0] at this; cases this
set_option maxHeartbeats 1000000 in
theorem rdigits_any (s : ByteArray) (w : World) (hs : s.size ≤ 140737488355328) : Calls Try.prog 106 #[.string s] w fun e w' => e = .returned (.bool (allD s && decide (0 < s.size))) ∧ w = w' := by
  have HD := Aside0.mk (all_iff s digitB)
  rw [show allD s = (bytesOf s).all digitB from rfl]
  generalize (bytesOf s).all digitB = ad at *
  go_enter Try.func106, Try.ntmps106
  go_wp2
  go_loop [3] (fun v3 => ∃ k : Nat, k ≤ s.size ∧ v3 = .int .i64 k ∧ Aside0 (∀ j : Nat, j < k → digitB (bt s j) = true)) (fun v3 => s.size - (intOf v3).toNat)
  case atStart => exact ⟨0, Nat.zero_le _, rfl, ⟨by omega⟩⟩
  case round =>
    obtain ⟨k, hk, rfl, HA⟩ := hrel
    by_cases hlt : k < s.size
    · have hbt := bt_nat s k
      have hr := bt_range s k
      have hi0 : (0 : Int) ≤ (k : Int) := by omega
      have hi1 : (k : Int) < (s.size : Int) := by omega
      by_cases h2 : digitB (bt s k) = true
      · go_wp2_with (go_at_call 62; refine (rdigit_any _ _ hr.1 hr.2).mono ?_; rintro e w' ⟨rfl, rfl⟩)
        go_round
        case measure => simp [intOf]; omega
        case rel =>
          refine ⟨k + 1, by omega, by go_num, ⟨fun j hj => ?_⟩⟩
          rcases Nat.lt_or_ge j k with h | h
          · exact HA.out j h
          · obtain rfl : j = k := by omega
            exact h2
      · replace h2 := Bool.eq_false_iff.mpr h2
        go_wp2_with (go_at_call 62; refine (rdigit_any _ _ hr.1 hr.2).mono ?_; rintro e w' ⟨rfl, rfl⟩)
        go_ret
        refine ⟨ret_b ?_, rfl⟩
        cases hn : ad with
        | false => rfl
        | true => have := HD.out.1 hn k hlt; rw [h2] at this; cases this
    · obtain rfl : k = s.size := by omega
      have ht : ad = true := HD.out.2 fun k hk => HA.out k hk
      have HT := Aside0.mk ht
      have e1 : decide ((0 : Int) < (s.size : Int)) = decide (0 < s.size) := by simp
      have E1 := Aside0.mk e1
      clear ht e1
      go_wp2
      go_ret
      exact ⟨ret_b (by rw [HT.out, Bool.true_and] <;> first | rfl | exact E1.out), rfl⟩
theorem rset_eq {c : Int} (h0 : 0 ≤ c) (h1 : c ≤ 255) : (bytesOf ⟨#[64, 42, 35, 63, 36, 33, 48]⟩).contains c = (setB c || c == 48) :=
  all_bytes (p := fun c => (bytesOf ⟨#[64, 42, 35, 63, 36, 33, 48]⟩).contains c = (setB c || c == 48)) (by decide +kernel) h0 h1
theorem digit_48 {c : Int} : (c == 48) = true → digitB c = true := by
  intro h
  have : c = 48 := by simpa using h
  subst this
  rfl
theorem paramB_eq (s : ByteArray) : paramB s = ((decide (s.size = 1) && (setB (bt s 0) || bt s 0 == 48)) || nameB s || ((allD s && decide (0 < s.size)) && decide (s.size ≤ 3) && bt s 0 != 48)) := by
  unfold paramB
  by_cases h1 : s.size = 1
  · obtain ⟨c, rfl⟩ := one_byte h1
    have hb0 : bt ⟨#[c]⟩ 0 = (c.toNat : Int) := by unfold bt; rw [dif_pos (by show (0 : Nat) < 1; omega)]; rfl
    have hA : allD ⟨#[c]⟩ = digitB (c.toNat : Int) := by simp [allD, bytesOf]
    rw [hb0, hA, show (⟨#[c]⟩ : ByteArray).size = 1 from rfl]
    have hd := @digit_48 (c.toNat : Int)
    simp only [decide_true, Bool.true_and, bne]
    cases h : ((c.toNat : Int) == 48) <;> cases hh : digitB (c.toNat : Int) <;> simp_all
  · by_cases h0 : s.size = 0
    · simp [h0]
    · have h2 : (1 < s.size) = (0 < s.size) := by apply propext; omega
      simp [h1, h2]
set_option maxHeartbeats 2000000 in
set_option maxRecDepth 100000 in
theorem rparam_any (s : ByteArray) (w : World) (hs : s.size ≤ 140737488355328) : Calls Try.prog 66 #[.string s] w fun e w' => e = .returned (.bool (paramB s)) ∧ w = w' := by
  have HP := Aside0.mk (paramB_eq s)
  generalize paramB s = r at *
  have hr0 := bt_range s 0
  have hset := rset_eq hr0.1 hr0.2
  have hbt0 : ∀ h : 0 < s.size, ((s[0]'h).toNat : Int) = bt s 0 := bt_nat s 0
  by_cases h1 : s.size = 1
  · have e1 : ((s.size : Int) == 1) = true := by simp [h1]
    have hp : 0 < s.size := by omega
    have hpi : (0 : Int) < (s.size : Int) := by omega
    have HS := Aside0.mk hset
    have H1 := Aside0.mk h1
    clear hset h1
    cases hq : (setB (bt s 0) || bt s 0 == 48) with
    | true =>
      have HQ := Aside0.mk hq
      clear hq
      go_enter Try.func66, Try.ntmps66
      go_wp2_with (go_at_call 102; refine (among_any _ _ _ (by decide)).mono ?_; rintro e w' ⟨rfl, rfl⟩; rw [HS.out, HQ.out])
      go_ret
      exact ⟨ret_b (by rw [HP.out, HQ.out]; simp [H1.out]), rfl⟩
    | false =>
      have HQ := Aside0.mk hq
      clear hq
      generalize hN : nameB s = nm at *
      have HN := Aside0.mk hN
      clear hN
      cases nm with
      | true =>
        go_enter Try.func66, Try.ntmps66
        go_wp2_with (first
          | (go_at_call 102; refine (among_any _ _ _ (by decide)).mono ?_; rintro e w' ⟨rfl, rfl⟩; rw [HS.out, HQ.out])
          | (go_at_call 65; refine (rname_any _ _ hs).mono ?_; rintro e w' ⟨rfl, rfl⟩; rw [HN.out]))
        go_ret
        exact ⟨ret_b (by rw [HP.out]; simp), rfl⟩
      | false =>
        cases hd : (allD s && decide (0 < s.size)) with
        | true =>
          have HD := Aside0.mk hd
          have hd3 : decide ((s.size : Int) ≤ 3) = true := by simp; have := H1.out; omega
          clear hd
          go_enter Try.func66, Try.ntmps66
          go_wp2_with (first
            | (go_at_call 102; refine (among_any _ _ _ (by decide)).mono ?_; rintro e w' ⟨rfl, rfl⟩; rw [HS.out, HQ.out])
            | (go_at_call 65; refine (rname_any _ _ hs).mono ?_; rintro e w' ⟨rfl, rfl⟩; rw [HN.out])
            | (go_at_call 106; refine (rdigits_any _ _ hs).mono ?_; rintro e w' ⟨rfl, rfl⟩; rw [HD.out]))
          go_ret
          exact ⟨ret_b (by rw [HP.out, HQ.out, HD.out]; simp [H1.out]), rfl⟩
        | false =>
          have HD := Aside0.mk hd
          clear hd
          go_enter Try.func66, Try.ntmps66
          go_wp2_with (first
            | (go_at_call 102; refine (among_any _ _ _ (by decide)).mono ?_; rintro e w' ⟨rfl, rfl⟩; rw [HS.out, HQ.out])
            | (go_at_call 65; refine (rname_any _ _ hs).mono ?_; rintro e w' ⟨rfl, rfl⟩; rw [HN.out])
            | (go_at_call 106; refine (rdigits_any _ _ hs).mono ?_; rintro e w' ⟨rfl, rfl⟩; rw [HD.out]))
          go_ret
          exact ⟨ret_b (by rw [HP.out, HQ.out, HD.out]; simp), rfl⟩
  · have e1 : ((s.size : Int) == 1) = false := by simp; omega
    have H1 := Aside0.mk h1
    clear h1 hset
    generalize hN : nameB s = nm at *
    have HN := Aside0.mk hN
    clear hN
    cases nm with
    | true =>
      go_enter Try.func66, Try.ntmps66
      go_wp2_with (go_at_call 65; refine (rname_any _ _ hs).mono ?_; rintro e w' ⟨rfl, rfl⟩; rw [HN.out])
      go_ret
      exact ⟨ret_b (by rw [HP.out]; simp), rfl⟩
    | false =>
      cases hd : (allD s && decide (0 < s.size)) with
      | true =>
        have hp : 0 < s.size := by simp at hd; exact hd.2
        have hpi : (0 : Int) < (s.size : Int) := by omega
        have HD := Aside0.mk hd
        clear hd
        by_cases h3 : s.size ≤ 3
        · have hd3 : decide ((s.size : Int) ≤ 3) = true := by simp; omega
          go_enter Try.func66, Try.ntmps66
          go_wp2_with (first
            | (go_at_call 65; refine (rname_any _ _ hs).mono ?_; rintro e w' ⟨rfl, rfl⟩; rw [HN.out])
            | (go_at_call 106; refine (rdigits_any _ _ hs).mono ?_; rintro e w' ⟨rfl, rfl⟩; rw [HD.out]))
          go_ret
          exact ⟨ret_b (by rw [HP.out, HD.out]; simp [H1.out, h3]), rfl⟩
        · have hd3 : decide ((s.size : Int) ≤ 3) = false := by simp; omega
          go_enter Try.func66, Try.ntmps66
          go_wp2_with (first
            | (go_at_call 65; refine (rname_any _ _ hs).mono ?_; rintro e w' ⟨rfl, rfl⟩; rw [HN.out])
            | (go_at_call 106; refine (rdigits_any _ _ hs).mono ?_; rintro e w' ⟨rfl, rfl⟩; rw [HD.out]))
          go_ret
          exact ⟨ret_b (by rw [HP.out, HD.out]; simp [H1.out, h3]), rfl⟩
      | false =>
        have HD := Aside0.mk hd
        clear hd
        go_enter Try.func66, Try.ntmps66
        go_wp2_with (first
          | (go_at_call 65; refine (rname_any _ _ hs).mono ?_; rintro e w' ⟨rfl, rfl⟩; rw [HN.out])
          | (go_at_call 106; refine (rdigits_any _ _ hs).mono ?_; rintro e w' ⟨rfl, rfl⟩; rw [HD.out]))
        go_ret
        exact ⟨ret_b (by rw [HP.out, HD.out]; simp [H1.out]), rfl⟩
set_option maxHeartbeats 2000000 in
set_option maxRecDepth 100000 in
theorem rreserved_any (s : ByteArray) (w : World) : Calls Try.prog 68 #[.string s] w fun e w' => e = .returned (.bool (reservedB s)) ∧ Below w.heap.size w w' := by
  have HB := Aside0.mk (below_alloc (Below.refl w.heap.size w) (.cells (RES.map Value.string).toArray 9))
  have hbl := cells_of_list (blk_new w (.cells (RES.map Value.string).toArray 9)) (zs := RES) rfl
  have HI := Aside0.mk (Lib.containsS_iff RES s)
  rw [show reservedB s = Lib.containsS RES s from rfl]
  generalize Lib.containsS RES s = r at *
  have hlen : RES.length = 16 := rfl
  have HC := Aside0.mk hbl
  clear hbl
  go_enter Try.func68, Try.ntmps68
  go_wp2
  rw [show (Obj.cells #[Value.string ⟨#[33]⟩, Value.string ⟨#[123]⟩, Value.string ⟨#[125]⟩, Value.string ⟨#[105, 102]⟩, Value.string ⟨#[116, 104, 101, 110]⟩, Value.string ⟨#[101, 108, 115, 101]⟩, Value.string ⟨#[101, 108, 105, 102]⟩, Value.string ⟨#[102, 105]⟩, Value.string ⟨#[119, 104, 105, 108, 101]⟩, Value.string ⟨#[117, 110, 116, 105, 108]⟩, Value.string ⟨#[100, 111]⟩, Value.string ⟨#[100, 111, 110, 101]⟩, Value.string ⟨#[102, 111, 114]⟩, Value.string ⟨#[105, 110]⟩, Value.string ⟨#[99, 97, 115, 101]⟩, Value.string ⟨#[101, 115, 97, 99]⟩] 9) = .cells (RES.map Value.string).toArray 9 from rfl]
  generalize w.alloc (.cells (RES.map Value.string).toArray 9) = wb at *
  go_loop [7] (fun v7 => ∃ k : Nat, k ≤ 16 ∧ v7 = .int .i64 k ∧ Aside0 (∀ j : Nat, j < k → RES.getD j ByteArray.empty ≠ s)) (fun v7 => 16 - (intOf v7).toNat)
  case atStart => exact ⟨0, Nat.zero_le _, rfl, ⟨by omega⟩⟩
  case round =>
    obtain ⟨k, hk, rfl, HA⟩ := hrel
    by_cases hlt : k < 16
    · have h0 := HC.out k (by rw [hlen]; exact hlt)
      rw [Nat.zero_add] at h0
      have hmem : RES.getD k ByteArray.empty ∈ RES := by
        rw [List.getD_eq_getElem?_getD, List.getElem?_eq_getElem (by rw [hlen]; exact hlt)]
        exact List.getElem_mem _
      generalize hp : RES.getD k ByteArray.empty = p at *
      have HP := Aside0.mk hp
      have HM := Aside0.mk hmem
      clear hp hmem hlen
      have hi0 : (0 : Int) ≤ (k : Int) := by omega
      have hi1 : (k : Int) < 16 := by omega
      by_cases h1 : p = s
      · subst h1
        have hq : (p.toList == p.toList) = true := beq_self_eq_true _
        go_wp2
        go_ret
        exact ⟨ret_b (HI.out.2 HM.out).symm, HB.out⟩
      · have hq : (s.toList == p.toList) = false := by
          rw [beq_eq_false_iff_ne]
          intro h
          rw [ByteArray.toList_eq, ByteArray.toList_eq] at h
          exact h1 (ByteArray.ext (Array.toList_inj.1 h.symm))
        have H1 := Aside0.mk h1
        clear h1
        go_wp2
        go_round
        case measure => simp [intOf]; omega
        case rel =>
          refine ⟨k + 1, by omega, by go_num, ⟨fun j hj => ?_⟩⟩
          rcases Nat.lt_or_ge j k with h | h
          · exact HA.out j h
          · obtain rfl : j = k := by omega
            rw [HP.out]
            exact H1.out
    · go_wp2
      go_ret
      refine ⟨ret_b ?_, HB.out⟩
      cases hr : r with
      | false => rfl
      | true =>
        have hm := HI.out.1 hr
        obtain ⟨j, hj, he⟩ := List.getElem_of_mem hm
        rw [hlen] at hj
        exact absurd (by rw [List.getD_eq_getElem?_getD, List.getElem?_eq_getElem (by rw [hlen]; exact hj)]; exact he) (HA.out j (by omega))
end Go.Proofs.Ytkepmbkghmkodaa.Class
