/- field.Join and its kin. -/
import Derived.Test.YtkepmbkghmkodaaFieldLib
import Derived.Test.YtkepmbkghmkodaaFieldLaw
import Derived.Test.YtkepmbkghmkodaaBuilder
namespace Go.Proofs.Ytkepmbkghmkodaa.Field
open Go.RowKit Go.Proofs.YtkepmbkghmkodaaW.PrintWords Go.Proofs.YtkepmbkghmkodaaW.PrintLast Go.Proofs.Ytkepmbkghmkodaa.Seq Go.Proofs.Ytkepmbkghmkodaa.Base Go.Proofs.Ytkepmbkghmkodaa.Class
set_option linter.unusedVariables false
set_option linter.unusedSimpArgs false
def pbytes (p : Piece) : List UInt8 := if p.cut then [32] else p.text.data.toList
def joinL (l : List Piece) : List UInt8 := l.flatMap pbytes
theorem joinL_succ (l : List Piece) (k : Nat) (h : k < l.length) : joinL (l.take (k + 1)) = joinL (l.take k) ++ pbytes l[k] := by
  unfold joinL
  rw [List.take_succ_eq_append_getElem h, List.flatMap_append]
  simp
theorem joinL_size (l : List Piece) : (joinL l).length ≤ psize l := by
  induction l with
  | nil => simp [joinL]
  | cons p l ih =>
    have h : (pbytes p).length ≤ p.text.size + 1 := by
      unfold pbytes
      split
      · simp
      · rw [data_length]; omega
    simp only [joinL, psize, List.flatMap_cons, List.length_append, List.map_cons, List.sum_cons] at *
    omega
set_option maxHeartbeats 1000000 in
set_option maxRecDepth 100000 in
theorem join_any (A : Option Addr) (n c : Nat) (l : List Piece) (w : World) (hr : Kd.C kPiece w A n l) (hl : psize l ≤ 100000000) :
    Calls Try.prog 21 #[.slice A n c] w fun e w' => e = .returned (.string ⟨(joinL l).toArray⟩) ∧ Below w.heap.size w w' := by
  obtain rfl := hr.1
  have HR := Aside0.mk hr
  clear hr
  have hm := Kd.C_max HR.out
  go_enter Try.func21, Try.ntmps21
  go_wp2
  go_loopw [8] (fun v8 w' => ∃ k : Nat, k ≤ l.length ∧ v8 = .int .i64 k ∧ Aside0 (Builder.Bld w' w.heap.size w.heap.size (joinL (l.take k))) ∧ Aside0 (Below w.heap.size w w')) (fun v8 _ => l.length - (intOf v8).toNat)
  case atStart => exact ⟨0, Nat.zero_le _, rfl, ⟨Builder.Bld_new (blk_new w _) (Nat.le_refl _)⟩, ⟨below_alloc (Below.refl _ _) _⟩⟩
  case round =>
    obtain ⟨k, hk, rfl, HS, HB⟩ := hrel
    by_cases hlt : k < l.length
    · have hsc := joinL_succ l k hlt
      have hw := joinL_size (l.take k)
      have hps := psize_get l k hlt
      obtain ⟨ad, rfl, h0, h1, h2⟩ := at_piece HR.out k hlt
      replace h0 := pw_cell_below HB.out h0
      replace h1 := pw_cell_below HB.out h1
      replace h2 := pw_cell_below HB.out h2
      generalize l[k] = p at *
      generalize joinL (l.take k) = q at *
      have HSC := Aside0.mk hsc
      clear hsc
      have hi0 : (0 : Int) ≤ (k : Int) := by omega
      have hi1 : (k : Int) < (l.length : Int) := by omega
      by_cases hcut : p.cut = true
      · go_wp2_with (first
          | (go_at_call 75; refine (Builder.writeByte_any _ _ q 32 _ (Builder.Bld_below HS.out (by repeat (first | exact Below.refl _ _ | refine below_drew ?_ | refine below_alloc ?_ _ | refine below_set ?_ (by simp; done) | refine below_set ?_ (by simp; omega)))) (by omega) (by simp; have := HB.out.size; omega)).mono ?_; rintro e w1 ⟨rfl, hS1, hB1⟩; have HS1 := Aside0.mk hS1; have HB1 := Aside0.mk hB1; clear hS1 hB1))
        go_roundw
        case measure => simp [intOf]; omega
        case rel => exact ⟨k + 1, by omega, by go_num, by rw [HSC.out]; unfold pbytes; rw [if_pos hcut]; exact HS1, ⟨below_trans (below_trans HB.out (below_sub (by repeat (first | exact Below.refl _ _ | refine below_drew ?_ | refine below_alloc ?_ _ | refine below_set ?_ (by simp; done) | refine below_set ?_ (by simp; omega))) HB.out.size)) HB1.out⟩⟩
      · replace hcut := Bool.eq_false_iff.mpr hcut
        go_wp2_with (first
          | (go_at_call 76; refine (Builder.writeString_any _ _ q _ _ (Builder.Bld_below HS.out (by repeat (first | exact Below.refl _ _ | refine below_drew ?_ | refine below_alloc ?_ _ | refine below_set ?_ (by simp; done) | refine below_set ?_ (by simp; omega)))) (by omega) (by simp; have := HB.out.size; omega)).mono ?_; rintro e w1 ⟨rfl, hS1, hB1⟩; have HS1 := Aside0.mk hS1; have HB1 := Aside0.mk hB1; clear hS1 hB1))
        go_roundw
        case measure => simp [intOf]; omega
        case rel => exact ⟨k + 1, by omega, by go_num, by rw [HSC.out]; unfold pbytes; rw [if_neg (by simp [hcut])]; exact HS1, ⟨below_trans (below_trans HB.out (below_sub (by repeat (first | exact Below.refl _ _ | refine below_drew ?_ | refine below_alloc ?_ _ | refine below_set ?_ (by simp; done) | refine below_set ?_ (by simp; omega))) HB.out.size)) HB1.out⟩⟩
    · go_wp2_with (first
          | (go_at_call 77; refine (Builder.string_any _ _ _ _ HS.out HB.out.size).mono ?_; rintro e w1 ⟨rfl, hB1⟩; have HB1 := Aside0.mk hB1; clear hB1))
      go_ret
      obtain rfl : k = l.length := by omega
      exact ⟨by rw [List.take_of_length_le (Nat.le_refl _)]; rfl, below_trans HB.out HB1.out⟩
set_option maxHeartbeats 1000000 in
set_option maxRecDepth 100000 in
theorem rjoin_any (A : Option Addr) (n c : Nat) (l : List Piece) (w : World) (hr : Kd.C kPiece w A n l) (hl : psize l ≤ 100000000) :
    Calls Try.prog 34 #[.slice A n c] w fun e w' => e = .returned (.string ⟨(joinL l).toArray⟩) ∧ Below w.heap.size w w' := by
  obtain rfl := hr.1
  have HR := Aside0.mk hr
  clear hr
  have hm := Kd.C_max HR.out
  go_enter Try.func34, Try.ntmps34
  go_wp2
  go_loopw [3, 8] (fun v3 v8 w' => ∃ k : Nat, k ≤ l.length ∧ v8 = .int .i64 k ∧ v3 = .string ⟨(joinL (l.take k)).toArray⟩ ∧ Aside0 (Below w.heap.size w w')) (fun _ v8 _ => l.length - (intOf v8).toNat)
  case atStart => exact ⟨0, Nat.zero_le _, rfl, rfl, ⟨Below.refl _ _⟩⟩
  case round =>
    obtain ⟨k, hk, rfl, rfl, HB⟩ := hrel
    by_cases hlt : k < l.length
    · have hsc := joinL_succ l k hlt
      have hw := joinL_size (l.take k)
      have hps := psize_get l k hlt
      obtain ⟨ad, rfl, h0, h1, h2⟩ := at_piece HR.out k hlt
      replace h0 := pw_cell_below HB.out h0
      replace h1 := pw_cell_below HB.out h1
      replace h2 := pw_cell_below HB.out h2
      generalize l[k] = p at *
      generalize joinL (l.take k) = q at *
      have HSC := Aside0.mk hsc
      clear hsc
      have hi0 : (0 : Int) ≤ (k : Int) := by omega
      have hi1 : (k : Int) < (l.length : Int) := by omega
      by_cases hcut : p.cut = true
      · go_wp2
        go_roundw
        case measure => simp [intOf]; omega
        case rel => exact ⟨k + 1, by omega, by go_num, by rw [HSC.out]; unfold pbytes; rw [if_pos hcut, str_app], ⟨below_trans HB.out (below_sub (by repeat (first | exact Below.refl _ _ | refine below_drew ?_ | refine below_alloc ?_ _ | refine below_set ?_ (by simp; done) | refine below_set ?_ (by simp; omega))) HB.out.size)⟩⟩
      · replace hcut := Bool.eq_false_iff.mpr hcut
        go_wp2
        go_roundw
        case measure => simp [intOf]; omega
        case rel => exact ⟨k + 1, by omega, by go_num, by rw [HSC.out]; unfold pbytes; rw [if_neg (by simp [hcut]), str_app], ⟨below_trans HB.out (below_sub (by repeat (first | exact Below.refl _ _ | refine below_drew ?_ | refine below_alloc ?_ _ | refine below_set ?_ (by simp; done) | refine below_set ?_ (by simp; omega))) HB.out.size)⟩⟩
    · go_wp2
      go_ret
      obtain rfl : k = l.length := by omega
      exact ⟨by rw [List.take_of_length_le (Nat.le_refl _)]; rfl, HB.out⟩
end Go.Proofs.Ytkepmbkghmkodaa.Field
