/- field: contracts of the laws' own functions. -/
import Derived.Test.YtkepmbkghmkodaaField
import Derived.Deep.QuietTactic
import Derived.BigQuiet
namespace Go.Proofs.Ytkepmbkghmkodaa.Field
open Go.RowKit Go.Proofs.YtkepmbkghmkodaaW.PrintWords Go.Proofs.YtkepmbkghmkodaaW.PrintLast Go.Proofs.Ytkepmbkghmkodaa.Seq Go.Proofs.Ytkepmbkghmkodaa.Base Go.Proofs.Ytkepmbkghmkodaa.Class
set_option linter.unusedVariables false
set_option linter.unusedSimpArgs false

set_option maxHeartbeats 1000000 in
set_option maxRecDepth 100000 in
theorem same_true (A : Option Addr) (n c : Nat) (A' : Option Addr) (n' c' : Nat) (l : List ByteArray) (w : World) (hr : Kd.string.C w A n l) (hr' : Kd.string.C w A' n' l) :
    Calls Try.prog 16 #[.slice A n c, .slice A' n' c'] w fun e w' => e = .returned (.bool true) ∧ Below w.heap.size w w' := by
  obtain rfl := hr.1
  obtain rfl := hr'.1
  have HR := Aside0.mk hr
  have HR' := Aside0.mk hr'
  clear hr hr'
  have hm := Kd.C_max HR.out
  go_enter Try.func16, Try.ntmps16
  go_wp2
  go_loopw [13] (fun v13 w' => ∃ k : Nat, k ≤ l.length ∧ v13 = .int .i64 k ∧ Aside0 (Below w.heap.size w w')) (fun v13 _ => l.length - (intOf v13).toNat)
  case atStart => exact ⟨0, Nat.zero_le _, rfl, ⟨Below.refl _ _⟩⟩
  case round =>
    obtain ⟨k, hk, rfl, HB⟩ := hrel
    by_cases hlt : k < l.length
    · obtain ⟨ad, rfl, h0⟩ := at_str HR.out k hlt
      obtain ⟨ad', rfl, h1⟩ := at_str HR'.out k hlt
      replace h0 := pw_cell_below HB.out h0
      replace h1 := pw_cell_below HB.out h1
      generalize l[k] = p at *
      have hi0 : (0 : Int) ≤ (k : Int) := by omega
      have hi1 : (k : Int) < (l.length : Int) := by omega
      go_wp2
      go_quiet (fail)
      go_wp2
      go_roundw
      case measure => simp [intOf]; omega
      case rel => exact ⟨k + 1, by omega, by go_num, ⟨by first | exact HB.out | exact pw_below_drewN HB.out _ | exact below_drew HB.out⟩⟩
    · go_wp2
      go_ret
      exact ⟨rfl, HB.out⟩

def heavyI (l : List Piece) : Int := if psize l ≤ 5000 then 0 else 1
set_option maxHeartbeats 1000000 in
set_option maxRecDepth 100000 in
theorem heavy_any (A : Option Addr) (n c : Nat) (l : List Piece) (w : World) (hr : Kd.C kPiece w A n l) (hc : n ≤ c) (hs : ∀ p ∈ l, p.text.size ≤ reachBytes) :
    Calls Try.prog 15 #[.slice A n c] w fun e w' => e = .returned (.int .i64 (heavyI l)) ∧ Below w.heap.size w w' := by
  obtain rfl := hr.1
  have HR := Aside0.mk hr
  have HC := Aside0.mk hc
  have HZ := Aside0.mk hs
  clear hr hc hs
  have hm := Kd.C_max HR.out
  go_enter Try.func15, Try.ntmps15
  go_wp2
  go_loopw [3, 8] (fun v3 v8 w' => ∃ k : Nat, k ≤ l.length ∧ v8 = .int .i64 k ∧ v3 = .int .i64 (psize (l.take k) : Nat) ∧ psize (l.take k) ≤ 5000 ∧ Aside0 (Below w.heap.size w w')) (fun _ v8 _ => l.length - (intOf v8).toNat)
  case atStart => exact ⟨0, Nat.zero_le _, rfl, rfl, by simp [psize], ⟨Below.refl _ _⟩⟩
  case round =>
    obtain ⟨k, hk, rfl, rfl, h5, HB⟩ := hrel
    by_cases hlt : k < l.length
    · have hps := psize_get l k hlt
      have hsu := psize_succ l k hlt
      have hz : l[k].text.size ≤ reachBytes := HZ.out _ (List.getElem_mem hlt)
      have hz' : l[k].text.size ≤ 140737488355328 := Nat.le_trans hz (by decide)
      obtain ⟨ad, rfl, h0, h1, h2⟩ := at_piece HR.out k hlt
      replace h0 := pw_cell_below HB.out h0
      replace h1 := pw_cell_below HB.out h1
      replace h2 := pw_cell_below HB.out h2
      generalize l[k] = p at *
      generalize psize (l.take k) = n at *
      have HSU := Aside0.mk hsu
      clear hsu hz
      have hi0 : (0 : Int) ≤ (k : Int) := by omega
      have hi1 : (k : Int) < (l.length : Int) := by omega
      by_cases hgt : 5000 < n + (p.text.size + 1)
      · have hd : decide ((5000 : Int) < (n : Int) + ((p.text.size : Int) + 1)) = true := by simp; omega
        go_wp2
        go_ret
        refine ⟨?_, below_trans HB.out (below_sub (by repeat (first | exact Below.refl _ _ | refine below_drew ?_ | refine below_alloc ?_ _ | refine below_set ?_ (by simp; done) | refine below_set ?_ (by simp; omega))) HB.out.size)⟩
        have : ¬ psize l ≤ 5000 := by omega
        simp [heavyI, this]
      · have hd : decide ((5000 : Int) < (n : Int) + ((p.text.size : Int) + 1)) = false := by simp; omega
        go_wp2
        go_roundw
        case measure => simp [intOf]; omega
        case rel => exact ⟨k + 1, by omega, by go_num, by rw [HSU.out]; go_num, by rw [HSU.out]; omega, ⟨below_trans HB.out (below_sub (by repeat (first | exact Below.refl _ _ | refine below_drew ?_ | refine below_alloc ?_ _ | refine below_set ?_ (by simp; done) | refine below_set ?_ (by simp; omega))) HB.out.size)⟩⟩
    · go_wp2
      go_ret
      obtain rfl : k = l.length := by omega
      rw [List.take_of_length_le (Nat.le_refl _)] at h5
      exact ⟨by simp [heavyI, h5], HB.out⟩
end Go.Proofs.Ytkepmbkghmkodaa.Field
