/- class: the other functions of the program. -/
import Derived.Test.YtkepmbkghmkodaaClass
import Derived.Test.YtkepmbkghmkodaaShelf
namespace Go.Proofs.Ytkepmbkghmkodaa.Class
open Go.RowKit Go.Proofs.YtkepmbkghmkodaaW.PrintWords Go.Proofs.YtkepmbkghmkodaaW.PrintLast Go.Proofs.Ytkepmbkghmkodaa.Base
set_option linter.unusedVariables false
set_option linter.unusedSimpArgs false
def digitB (c : Int) : Bool := decide (48 ≤ c) && decide (c ≤ 57)
def letterB (c : Int) : Bool := (decide (97 ≤ c) && decide (c ≤ 122)) || (decide (65 ≤ c) && decide (c ≤ 90)) || c == 95
def signB (c : Int) : Bool := [59, 38, 124, 40, 41, 60, 62].contains c
def bareB (c : Int) : Bool := !breakB c && !signB c && c != 36 && c != 92 && c != 34 && c != 39 && c != 96
theorem ret_b {a b : Bool} (h : a = b) : Ending.returned (.bool a) = .returned (.bool b) := by rw [h]
/-- A fact of all bytes. -/
theorem all_bytes {p : Int → Prop} (h : ∀ n : Fin 256, p ((n.val : Nat) : Int)) {c : Int} (h0 : 0 ≤ c) (h1 : c ≤ 255) : p c := by
  obtain ⟨n, rfl⟩ := Int.eq_ofNat_of_zero_le h0
  exact h ⟨n, by omega⟩
set_option maxHeartbeats 400000 in
theorem digit_any (c : Int) (w : World) : Calls Try.prog 61 #[.int .u8 c] w fun e w' => e = .returned (.bool (digitB c)) ∧ w = w' := by
  unfold digitB
  go_enter Try.func61, Try.ntmps61
  go_wp2
  all_goals
    go_ret
    exact ⟨ret_b (by first | (simp [*]; done) | (simp; omega)), rfl⟩
set_option maxHeartbeats 400000 in
theorem letter_any (c : Int) (w : World) : Calls Try.prog 59 #[.int .u8 c] w fun e w' => e = .returned (.bool (letterB c)) ∧ w = w' := by
  unfold letterB
  go_enter Try.func59, Try.ntmps59
  go_wp2
  all_goals
    go_ret
    refine ⟨ret_b ?_, rfl⟩
    simp at *
    first | done | omega
theorem sign_eq {c : Int} (h0 : 0 ≤ c) (h1 : c ≤ 255) : decide (0 ≤ Lib.indexByte [59, 38, 124, 40, 41, 60, 62] c.toNat.toUInt8) = signB c :=
  all_bytes (p := fun c => decide (0 ≤ Lib.indexByte [59, 38, 124, 40, 41, 60, 62] c.toNat.toUInt8) = signB c) (by decide +kernel) h0 h1
set_option maxHeartbeats 400000 in
theorem sign_any (c : Int) (w : World) (h0 : 0 ≤ c) (h1 : c ≤ 255) : Calls Try.prog 55 #[.int .u8 c] w fun e w' => e = .returned (.bool (signB c)) ∧ w = w' := by
  have hs := sign_eq h0 h1
  go_enter Try.func55, Try.ntmps55
  go_wp2_with (go_at_call 101; refine (Try.strings_IndexByte _ _ _).mono ?_; rintro e w' ⟨rfl, rfl⟩)
  go_ret
  exact ⟨ret_b (by first | rfl | exact hs), rfl⟩
set_option maxHeartbeats 400000 in
theorem bare_any (c : Int) (w : World) (h0 : 0 ≤ c) (h1 : c ≤ 255) : Calls Try.prog 57 #[.int .u8 c] w fun e w' => e = .returned (.bool (bareB c)) ∧ w = w' := by
  unfold bareB
  go_enter Try.func57, Try.ntmps57
  go_wp2_with (first
    | (go_at_call 18; refine (break_any _ _).mono ?_; rintro e w' ⟨rfl, rfl⟩)
    | (go_at_call 55; refine (sign_any _ _ h0 h1).mono ?_; rintro e w' ⟨rfl, rfl⟩))
  all_goals
    go_ret
    exact ⟨ret_b (by simp [*]), rfl⟩
/-- Names, parameters, of a text's bytes. -/
def nameL (l : List Int) : Bool := match l with
  | [] => false
  | c :: r => letterB c && r.all fun c => letterB c || digitB c
def nameB (s : ByteArray) : Bool := nameL (bytesOf s)
theorem bytes_get (s : ByteArray) (k : Nat) (h : k < s.size) : (bytesOf s)[k]'(by rw [bytesOf_length]; exact h) = bt s k := by
  rw [← rd_bytesOf]
  simp [rd, List.getD_eq_getElem?_getD, List.getElem?_eq_getElem (show k < (bytesOf s).length by rw [bytesOf_length]; exact h)]
/-- 'all' and 'contains' by places. -/
theorem all_iff (s : ByteArray) (p : Int → Bool) : (bytesOf s).all p = true ↔ ∀ k : Nat, k < s.size → p (bt s k) = true := by
  rw [List.all_eq_true]
  constructor
  · intro h k hk
    rw [← bytes_get s k hk]
    exact h _ (List.getElem_mem _)
  · intro h x hx
    obtain ⟨k, hk, rfl⟩ := List.getElem_of_mem hx
    rw [bytesOf_length] at hk
    rw [bytes_get s k hk]
    exact h k hk
theorem name_iff (s : ByteArray) : nameB s = true ↔ s.size ≠ 0 ∧ letterB (bt s 0) = true ∧ ∀ k : Nat, k < s.size → (letterB (bt s k) || digitB (bt s k)) = true := by
  unfold nameB
  have hl := bytesOf_length s
  have ha := all_iff s (fun c => letterB c || digitB c)
  cases hb : bytesOf s with
  | nil => rw [hb] at hl; simp at hl; simp [nameL, hl.symm]
  | cons c r =>
    rw [hb] at hl ha
    have h0 : 0 < s.size := by simp at hl; omega
    have hc : c = bt s 0 := by
      have := bytes_get s 0 h0
      simp only [hb, List.getElem_cons_zero] at this
      exact this
    simp only [nameL, Bool.and_eq_true]
    rw [← hc, ← ha]
    simp only [List.all_cons, Bool.and_eq_true, Bool.or_eq_true]
    constructor
    · rintro ⟨h1, h2⟩; exact ⟨by omega, h1, .inl h1, h2⟩
    · rintro ⟨_, h1, _, h2⟩; exact ⟨h1, h2⟩
set_option maxHeartbeats 1000000 in
set_option maxRecDepth 100000 in
theorem name_any (s : ByteArray) (w : World) (hs : s.size ≤ 140737488355328) : Calls Try.prog 63 #[.string s] w fun e w' => e = .returned (.bool (nameB s)) ∧ w = w' := by
  go_enter Try.func63, Try.ntmps63
  go_wp2
  go_loop [6] (fun v6 => ∃ k : Nat, k ≤ s.size ∧ v6 = .int .i64 k ∧ Aside0 (∀ j : Nat, j < k → (letterB (bt s j) || digitB (bt s j)) = true ∧ (j = 0 → letterB (bt s 0) = true))) (fun v6 => s.size - (intOf v6).toNat)
  case atStart => exact ⟨0, Nat.zero_le _, rfl, ⟨by omega⟩⟩
  case round =>
    obtain ⟨k, hk, rfl, HA⟩ := hrel
    by_cases hlt : k < s.size
    · have hbt := bt_nat s k
      have hi0 : (0 : Int) ≤ (k : Int) := by omega
      have hi1 : (k : Int) < (s.size : Int) := by omega
      by_cases h1 : letterB (bt s k) = true
      · go_wp2_with (first
          | (go_at_call 59; refine (letter_any _ _).mono ?_; rintro e w' ⟨rfl, rfl⟩)
          | (go_at_call 61; refine (digit_any _ _).mono ?_; rintro e w' ⟨rfl, rfl⟩))
        go_round
        case measure => simp [intOf]; omega
        case rel =>
          refine ⟨k + 1, by omega, by go_num, ⟨fun j hj => ?_⟩⟩
          rcases Nat.lt_or_ge j k with h | h
          · exact HA.out j h
          · obtain rfl : j = k := by omega
            exact ⟨by rw [h1]; rfl, by rintro rfl; exact h1⟩
      · replace h1 := Bool.eq_false_iff.mpr h1
        by_cases hk0 : k = 0
        · subst hk0
          have h10 : letterB (bt s 0) = false := h1
          have hb0 : ∀ h : 0 < s.size, ((s[0]'h).toNat : Int) = bt s 0 := bt_nat s 0
          clear hbt
          go_wp2_with (first
            | (go_at_call 59; refine (letter_any _ _).mono ?_; rintro e w' ⟨rfl, rfl⟩)
            | (go_at_call 61; refine (digit_any _ _).mono ?_; rintro e w' ⟨rfl, rfl⟩))
          go_ret
          refine ⟨ret_b ?_, rfl⟩
          cases hn : nameB s with
          | false => rfl
          | true => have := ((name_iff s).1 hn).2.1; rw [show ((0 : Nat) : Int) = 0 from rfl] at h1; rw [h1] at this; cases this
        · have hd0 : ((k : Int) == 0) = false := by simpa using hk0
          by_cases h2 : digitB (bt s k) = true
          · go_wp2_with (first
              | (go_at_call 59; refine (letter_any _ _).mono ?_; rintro e w' ⟨rfl, rfl⟩)
              | (go_at_call 61; refine (digit_any _ _).mono ?_; rintro e w' ⟨rfl, rfl⟩))
            go_round
            case measure => simp [intOf]; omega
            case rel =>
              refine ⟨k + 1, by omega, by go_num, ⟨fun j hj => ?_⟩⟩
              rcases Nat.lt_or_ge j k with h | h
              · exact HA.out j h
              · obtain rfl : j = k := by omega
                exact ⟨by rw [h1, h2]; rfl, fun h => absurd h hk0⟩
          · replace h2 := Bool.eq_false_iff.mpr h2
            go_wp2_with (first
              | (go_at_call 59; refine (letter_any _ _).mono ?_; rintro e w' ⟨rfl, rfl⟩)
              | (go_at_call 61; refine (digit_any _ _).mono ?_; rintro e w' ⟨rfl, rfl⟩))
            go_ret
            refine ⟨ret_b ?_, rfl⟩
            cases hn : nameB s with
            | false => rfl
            | true => have := ((name_iff s).1 hn).2.2 k hlt; rw [h1, h2] at this; cases this
    · obtain rfl : k = s.size := by omega
      have HN := Aside0.mk (name_iff s)
      by_cases hz : s.size = 0
      · have he : s.toList = [] := by rw [ByteArray.toList_eq]; exact List.eq_nil_of_length_eq_zero (by rw [data_length]; exact hz)
        have hnf : nameB s = false := by
          cases hn : nameB s with
          | false => rfl
          | true => exact absurd hz ((name_iff s).1 hn).1
        have HF := Aside0.mk hnf
        clear hnf
        go_wp2
        go_ret
        exact ⟨ret_b (by rw [HF.out] <;> simp [he]), rfl⟩
      · obtain ⟨he0, he1, he2⟩ := str_ne_empty hz
        have hnt : nameB s = true := (name_iff s).2 ⟨hz, (HA.out 0 (by omega)).2 rfl, fun k hk => (HA.out k hk).1⟩
        have HT := Aside0.mk hnt
        clear hnt
        go_wp2
        go_ret
        exact ⟨ret_b (by rw [HT.out] <;> simp [he1, he2, he0]), rfl⟩
end Go.Proofs.Ytkepmbkghmkodaa.Class
