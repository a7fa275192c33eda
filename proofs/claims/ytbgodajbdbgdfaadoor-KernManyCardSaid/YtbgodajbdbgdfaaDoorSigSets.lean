/- sig: Of, Least, List: their contracts. -/
import Derived.Test.YtbgodajbdbgdfaaDoorSigSet
import Derived.Test.YtbgodajbdbgdfaaDoorBase
namespace Go.Proofs.YtbgodajbdbgdfaaDoor.Sig
open Go.RowKit Go.Proofs.YtbgodajbdbgdfaaDoorW.PrintWords Go.Proofs.YtbgodajbdbgdfaaDoorW.PrintLast Go.Proofs.YtbgodajbdbgdfaaDoor.R Go.Proofs.YtbgodajbdbgdfaaDoor.Base
set_option linter.unusedVariables false
set_option linter.unusedSimpArgs false
theorem at_i64 {w : World} {A : Option Addr} {n : Nat} {xs : List Int} (h : Kd.C (Kd.int .i64) w A n xs) (i : Nat) (hi : i < xs.length) : ∃ ad, A = some ad ∧ w.cell? (ad.add i) = some (.int .i64 xs[i]) := by
  obtain ⟨ad, c, e, _, hK, hc0⟩ := Kd.C_get h 0 (i : Int) (by omega) (by have := h.1; omega)
  rw [Int.toNat_natCast] at hK hc0
  have hd : xs.getD i 0 = xs[i] := by simp [List.getD_eq_getElem?_getD, List.getElem?_eq_getElem hi]
  rw [hd] at hK
  obtain rfl : c = [.int .i64 xs[i]] := hK
  refine ⟨ad, e, ?_⟩
  have := hc0 0 _ rfl
  rw [show i * (Kd.int .i64).sz + 0 = i by show i * 1 + 0 = i; omega] at this
  exact this
theorem ofL_succ (l : List Int) (k : Nat) (h : k < l.length) : ofL 0 (l.take (k + 1)) = wth (ofL 0 (l.take k)) l[k] := by
  rw [List.take_succ_eq_append_getElem h, ofL_append]; rfl
/-- What bits' table holds. -/
def TabB (w : World) : Prop := TabAt 0 Lib.deBruijn32tab w
theorem tabB_below {w w' : World} (h : TabB w) (hb : Below w.heap.size w w') : TabB w' := fun j hj => pw_cell_below hb (h j hj)
theorem and_all (x : Nat) (hx : x < 4294967296) : bits .and .u32 (x : Int) 4294967294 = ((x &&& allN : Nat) : Int) := u32_and_nat x 4294967294 hx (by decide)
theorem all_lt {x : Nat} : x &&& allN < 4294967296 := Nat.lt_of_le_of_lt Nat.and_le_right (by decide)
theorem all_twice (x : Nat) : (x &&& allN) &&& allN = x &&& allN := by rw [Nat.and_assoc, Nat.and_self]
set_option maxHeartbeats 2000000 in
set_option maxRecDepth 100000 in
theorem tz_core (x k idx : Nat) (w : World) (hx0 : ((x : Int) == 0) = false)
    (key : bits BinOp.and IntKind.u32 (x : Int) (-(x : Int) % 4294967296) * 125613361 % 4294967296 / 134217728 = (idx : Int))
    (hi : idx < 32) (hk : k < 32) (hcell : w.cell? ⟨0, idx, none⟩ = some (.int .u8 k)) :
    Calls Tryd.prog 64 #[.int .u32 (x : Int)] w fun e w' => e = .returned (.int .i64 k) ∧ w' = w := by
  go_enter Tryd.func64, Tryd.ntmps64
  go_wp2_with (simp only [key])
  go_ret
  exact ⟨rfl, rfl⟩
theorem tz_any (x : Nat) (w : World) (hx : x < 4294967296) (hx0 : x ≠ 0) (hT : TabB w) : Calls Tryd.prog 64 #[.int .u32 (x : Int)] w fun e w' => e = .returned (.int .i64 (Lib.ctz 32 x : Nat)) ∧ w' = w := by
  obtain ⟨hlow, hk⟩ := Lib.lowest_bit 32 x hx0 hx
  obtain ⟨hi, htab⟩ := Lib.deBruijn32_at _ hk
  have hcell := hT _ hi
  rw [htab] at hcell
  exact tz_core x _ _ w (by simp; omega) (tz32_key x _ hx hx0 hlow) hi hk hcell
set_option maxHeartbeats 2000000 in
set_option maxRecDepth 100000 in
theorem least_any (x : Nat) (w : World) (hx : x < 4294967296) (h0 : x ≠ 0) (h1 : x &&& allN = x) (ht : TabB w) : Calls Tryd.prog 57 #[.int .u32 (x : Int)] w fun e w' => e = .returned (.int .i64 (Lib.ctz 32 x : Nat)) ∧ Below w.heap.size w w' := by
  have key := and_all x hx
  rw [h1] at key
  have hz : ((x : Int) == 0) = false := beq_eq_false_iff_ne.2 (by omega)
  have HT := Aside0.mk ht
  have HX := Aside0.mk hx
  have H0 := Aside0.mk h0
  have hw : IntKind.u32.wrap (x : Int) = (x : Int) := by rw [wrap_u32']; omega
  clear h1 ht
  go_enter Tryd.func57, Tryd.ntmps57
  go_wp2_with (first
    | (simp only [key])
    | (go_at_call 64; (with_reducible refine (tz_any x _ HX.out H0.out HT.out).mono ?_); rintro e w1 ⟨rfl, rfl⟩))
  go_ret
  exact ⟨rfl, Below.refl _ _⟩
end Go.Proofs.YtbgodajbdbgdfaaDoor.Sig
