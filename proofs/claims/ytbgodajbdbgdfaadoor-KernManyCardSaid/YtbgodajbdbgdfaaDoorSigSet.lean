/- sig: With, Without, Has, Of, Least: their contracts. -/
import Derived.Test.YtbgodajbdbgdfaaDoorSigSlim
import Derived.Test.YtbgodajbdbgdfaaDoorSigBits
import Derived.Laws.BitsAllLaws
import Derived.Shelf.Spec.TrailingZeros
namespace Go.Proofs.YtbgodajbdbgdfaaDoor.Sig
open Go.RowKit Go.Proofs.YtbgodajbdbgdfaaDoorW.PrintWords Go.Proofs.YtbgodajbdbgdfaaDoorW.PrintLast Go.Proofs.YtbgodajbdbgdfaaDoor.R Go.Proofs.YtbgodajbdbgdfaaDoor.Num
set_option linter.unusedVariables false
set_option linter.unusedSimpArgs false
theorem ret_u {a b : Int} (h : a = b) : Ending.returned (.int .u32 a) = .returned (.int .u32 b) := by rw [h]
theorem ret_bb {a b : Bool} (h : a = b) : Ending.returned (.bool a) = .returned (.bool b) := by rw [h]
theorem pow_i (n : Nat) (h : n < 32) : (2 : Int) ^ n % 4294967296 = ((2 ^ n : Nat) : Int) := by
  have e : ((2 : Int) ^ n) = ((2 ^ n : Nat) : Int) := by rw [Int.natCast_pow]; rfl
  rw [e]
  have := pow_lt32 h
  refine Int.emod_eq_of_lt (Int.natCast_nonneg _) ?_
  generalize 2 ^ n = y at this
  omega
set_option maxHeartbeats 2000000 in
set_option maxRecDepth 100000 in
theorem with_any (x : Nat) (s : Int) (w : World) (hx : x < 4294967296) : Calls Tryd.prog 34 #[.int .u32 (x : Int), .int .i64 s] w fun e w' => e = .returned (.int .u32 (wth x s : Nat)) ∧ Below w.heap.size w w' := by
  cases hg : isg s with
  | false =>
    have hw : wth x s = x := by unfold wth; rw [hg]; rfl
    rw [hw]
    have HG := Aside0.mk hg
    clear hg hw
    go_enter Tryd.func34, Tryd.ntmps34
    go_wp2_with (go_at_call 48; (with_reducible refine (is_any s _).mono ?_); rintro e w1 ⟨rfl, hB⟩; rw [show (decide (0 < s) && decide (s < 32)) = false from HG.out]; have HB := Aside0.mk hB; clear hB)
    go_ret
    exact ⟨rfl, HB.out⟩
  | true =>
    have hi := isg_iff.1 hg
    obtain ⟨n, rfl⟩ : ∃ n : Nat, s = (n : Int) := ⟨s.toNat, by omega⟩
    have hw : wth x n = x ||| 2 ^ n := by unfold wth; rw [hg]; rfl
    have h0 : (0 : Int) ≤ (n : Int) := by omega
    have h1 : (n : Int) ≤ 32 := by omega
    have hn : n < 32 := by omega
    have HG := Aside0.mk hg
    have key := Aside0.mk (u32_or_nat x (2 ^ n) hx (pow_lt32 hn))
    have HW := Aside0.mk hw
    have HP := Aside0.mk (pow_i n hn)
    clear hg hw hi
    go_enter Tryd.func34, Tryd.ntmps34
    go_wp2_with (go_at_call 48; (with_reducible refine (is_any (n : Int) _).mono ?_); rintro e w1 ⟨rfl, hB⟩; rw [show (decide (0 < (n : Int)) && decide ((n : Int) < 32)) = true from HG.out]; have HB := Aside0.mk hB; clear hB)
    go_ret
    refine ⟨ret_u ?_, HB.out⟩
    rw [HW.out, ← key.out, ← HP.out]
set_option maxHeartbeats 2000000 in
set_option maxRecDepth 100000 in
theorem wto_any (x : Nat) (s : Int) (w : World) (hx : x < 4294967296) : Calls Tryd.prog 54 #[.int .u32 (x : Int), .int .i64 s] w fun e w' => e = .returned (.int .u32 (wto x s : Nat)) ∧ Below w.heap.size w w' := by
  cases hg : isg s with
  | false =>
    have hw : wto x s = x := by unfold wto; rw [hg]; rfl
    rw [hw]
    have HG := Aside0.mk hg
    clear hg hw
    go_enter Tryd.func54, Tryd.ntmps54
    go_wp2_with (go_at_call 48; (with_reducible refine (is_any s _).mono ?_); rintro e w1 ⟨rfl, hB⟩; rw [show (decide (0 < s) && decide (s < 32)) = false from HG.out]; have HB := Aside0.mk hB; clear hB)
    go_ret
    exact ⟨rfl, HB.out⟩
  | true =>
    have hi := isg_iff.1 hg
    obtain ⟨n, rfl⟩ : ∃ n : Nat, s = (n : Int) := ⟨s.toNat, by omega⟩
    have hw : wto x n = x &&& (4294967295 - 2 ^ n) := by unfold wto; rw [hg]; rfl
    have h0 : (0 : Int) ≤ (n : Int) := by omega
    have h1 : (n : Int) ≤ 32 := by omega
    have hn : n < 32 := by omega
    have HG := Aside0.mk hg
    have key := Aside0.mk (u32_andNot_nat x (2 ^ n) hx (pow_lt32 hn))
    have HW := Aside0.mk hw
    have HP := Aside0.mk (pow_i n hn)
    clear hg hw hi
    go_enter Tryd.func54, Tryd.ntmps54
    go_wp2_with (go_at_call 48; (with_reducible refine (is_any (n : Int) _).mono ?_); rintro e w1 ⟨rfl, hB⟩; rw [show (decide (0 < (n : Int)) && decide ((n : Int) < 32)) = true from HG.out]; have HB := Aside0.mk hB; clear hB)
    go_ret
    refine ⟨ret_u ?_, HB.out⟩
    rw [HW.out, ← key.out, ← HP.out]
theorem has_key (x n : Nat) (hx : x < 4294967296) : (bits .and .u32 (((x / 2 ^ n : Nat)) : Int) 1 == 1) = x.testBit n := by
  have h : x / 2 ^ n < 4294967296 := Nat.lt_of_le_of_lt (Nat.div_le_self _ _) hx
  have e := u32_and_nat (x / 2 ^ n) 1 h (by decide)
  have e1 : ((1 : Nat) : Int) = 1 := rfl
  rw [e1] at e
  rw [e, Nat.testBit_eq_decide_div_mod_eq, ← Nat.and_one_is_mod, Bool.eq_iff_iff, beq_iff_eq, decide_eq_true_eq]
  constructor
  · intro h; exact_mod_cast h
  · intro h; exact_mod_cast h
set_option maxHeartbeats 2000000 in
set_option maxRecDepth 100000 in
theorem has_any (x : Nat) (s : Int) (w : World) (hx : x < 4294967296) : Calls Tryd.prog 49 #[.int .u32 (x : Int), .int .i64 s] w fun e w' => e = .returned (.bool (hs x s)) ∧ Below w.heap.size w w' := by
  cases hg : isg s with
  | false =>
    have hw : hs x s = false := by unfold hs; rw [hg]; rfl
    rw [hw]
    have HG := Aside0.mk hg
    clear hg hw
    go_enter Tryd.func49, Tryd.ntmps49
    go_wp2_with (go_at_call 48; (with_reducible refine (is_any s _).mono ?_); rintro e w1 ⟨rfl, hB⟩; rw [show (decide (0 < s) && decide (s < 32)) = false from HG.out]; have HB := Aside0.mk hB; clear hB)
    go_ret
    exact ⟨rfl, HB.out⟩
  | true =>
    have hi := isg_iff.1 hg
    obtain ⟨n, rfl⟩ : ∃ n : Nat, s = (n : Int) := ⟨s.toNat, by omega⟩
    have hw : hs x n = x.testBit n := by unfold hs; rw [hg]; rfl
    have h0 : (0 : Int) ≤ (n : Int) := by omega
    have h1 : (n : Int) ≤ 32 := by omega
    have hn : n < 32 := by omega
    have HG := Aside0.mk hg
    have key := Aside0.mk (has_key x n hx)
    have HW := Aside0.mk hw
    clear hg hw hi
    go_enter Tryd.func49, Tryd.ntmps49
    go_wp2_with (go_at_call 48; (with_reducible refine (is_any (n : Int) _).mono ?_); rintro e w1 ⟨rfl, hB⟩; rw [show (decide (0 < (n : Int)) && decide ((n : Int) < 32)) = true from HG.out]; have HB := Aside0.mk hB; clear hB)
    go_ret
    refine ⟨ret_bb ?_, HB.out⟩
    rw [HW.out, ← key.out, show ((x / 2 ^ n : Nat) : Int) = (x : Int) / 2 ^ n by rw [Int.natCast_ediv, Int.natCast_pow]; rfl]
end Go.Proofs.YtbgodajbdbgdfaaDoor.Sig
