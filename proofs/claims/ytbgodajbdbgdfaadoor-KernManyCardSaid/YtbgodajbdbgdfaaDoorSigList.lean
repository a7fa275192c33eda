/- sig: List: its contract. -/
import Derived.Test.YtbgodajbdbgdfaaDoorSigSets
namespace Go.Proofs.YtbgodajbdbgdfaaDoor.Sig
open Go.RowKit Go.Proofs.YtbgodajbdbgdfaaDoorW.PrintWords Go.Proofs.YtbgodajbdbgdfaaDoorW.PrintLast Go.Proofs.YtbgodajbdbgdfaaDoor.R Go.Proofs.YtbgodajbdbgdfaaDoor.Base
set_option linter.unusedVariables false
set_option linter.unusedSimpArgs false
section
variable {ops : Array Oper} {rest : List Oper} {o : Oper} {a : Act} {Q : Exit → Act → World → Prop}
theorem app_int {w0 W : World} (base : Nat) (hgd : o.guard = none) (s x : Operand) (ho : o.op = .call { callee := .builtin .append, args := #[s, x], argTypes := #[36, 36] })
    (v : Value) (xs : List Int) (p : Int) (hs : a.eval s = v) (hx : a.eval x = .slice (some ⟨W.heap.size, 0, none⟩) 1 1)
    (HO : (Kd.int .i64).R 3 W base ok0 v xs) (HB : Below base w0 W) (hbase : base ≤ W.heap.size) (hl : xs.length + 1 ≤ 1000000000000)
    (h : ∀ A n c w1, (Kd.int .i64).R 3 w1 base ok0 (.slice A n c) (xs ++ [p]) → Below base w0 w1 → W.grownBy w1 v.ownBlock → wpList Tryd.prog ops Q rest (a.put o.dst (.slice A n c)) w1) :
    wpList Tryd.prog ops Q (o :: rest) a (W.alloc (.cells #[.int .i64 p] 3)) := by
  refine Kd.R_append (Kd.int .i64) (w0 := w0) base hgd s x 36 3 (.int .i64 0) 8 ho Tryd.underlying36 (by kernel_rfl) rfl (by decide) (by decide) v xs p [.int .i64 p] ok0 (fun _ => False) hs hx rfl (fun _ h => h.elim) (fun _ _ => trivial) HO HB hbase (by omega) ?_
  intro v1 w1 hR hB hG _
  obtain ⟨A, n, c, rfl⟩ := R_slice3 hR
  exact h A n c w1 hR hB hG
end
theorem pred_key (y : Nat) (h0 : y ≠ 0) (h : y < 4294967296) : bits .and .u32 (y : Int) ((y : Int) - 1) = ((y &&& (y - 1) : Nat) : Int) := by
  have e : (y : Int) - 1 = ((y - 1 : Nat) : Int) := by omega
  rw [e]
  exact u32_and_nat y (y - 1) h (by omega)
theorem pred_all {y : Nat} (h : y &&& allN = y) : (y &&& (y - 1)) &&& allN = y &&& (y - 1) := by
  rw [Nat.and_assoc, Nat.and_comm (y - 1), ← Nat.and_assoc, h]
set_option maxHeartbeats 2000000 in
set_option maxRecDepth 100000 in
theorem list_any (x : Nat) (w : World) (hx : x < 4294967296) (ht : TabB w) : Calls Tryd.prog 32 #[.int .u32 (x : Int)] w fun e w' => ∃ A n c, e = .returned (.slice A n c) ∧ (Kd.int .i64).R 3 w' w.heap.size ok0 (.slice A n c) (lst (x &&& allN)) ∧ Below w.heap.size w w' := by
  have key := and_all x hx
  have HT := Aside0.mk ht
  have HLT := Aside0.mk (all_lt (x := x))
  have HAA := Aside0.mk (all_twice x)
  clear ht
  go_enter Tryd.func32, Tryd.ntmps32
  go_wp2_with (simp only [key])
  clear key
  generalize hz : x &&& allN = z at *
  have HZ := Aside0.mk hz
  clear hz
  go_loopw [0, 3] (fun v0 v3 w' => ∃ (y : Nat) (A : Option Addr) (n c : Nat) (out : List Int), v0 = .int .u32 (y : Int) ∧ v3 = .slice A n c ∧ y < 4294967296 ∧ Aside0 (y &&& allN = y) ∧ out.length + y ≤ 8589934592 ∧ Aside0 (out ++ lst y = lst z) ∧ Aside0 ((Kd.int .i64).R 3 w' w.heap.size ok0 (.slice A n c) out) ∧ Aside0 (Below w.heap.size w w')) (fun v0 _ _ => (intOf v0).toNat)
  case atStart => exact ⟨z, none, 0, 0, [], rfl, rfl, HLT.out, HAA, by have := HLT.out; simp; omega, ⟨rfl⟩, ⟨Kd.R_nil _ _ _ _ _⟩, ⟨Below.refl _ _⟩⟩
  case round =>
    obtain ⟨y, A, n, c, out, rfl, rfl, hy, HA, hol, HL, HR, HB⟩ := hrel
    by_cases h0 : y = 0
    · subst h0
      have e0 : (((0 : Nat) : Int) != 0) = false := rfl
      go_wp2
      go_ret
      refine ⟨A, n, c, rfl, ?_, HB.out⟩
      have := HL.out
      rw [lst_zero, List.append_nil] at this
      rw [HZ.out, ← this]
      exact HR.out
    · have e0 : ((y : Int) != 0) = true := by simp; omega
      have HY := Aside0.mk hy
      have H0 := Aside0.mk h0
      have hb := HB.out.size
      have hlt := Aside0.mk (pred_lt h0)
      have hkey := Aside0.mk (pred_key y h0 hy)
      have HL1 := Aside0.mk (show (out ++ [(Lib.ctz 32 y : Int)]) ++ lst (y &&& (y - 1)) = lst z by rw [List.append_assoc, ← HL.out, lst_pos h0]; rfl)
      have HA1 := Aside0.mk (pred_all HA.out)
      clear HL
      go_wp2_with (first
        | (go_at_call 57; (with_reducible refine (least_any y _ HY.out H0.out HA.out (tabB_below HT.out (below_sub HB.out (Nat.le_refl _)))).mono ?_); rintro e w1 ⟨rfl, hB⟩; have n0 := Aside0.mk (below_trans HB.out (below_sub hB HB.out.size)); have n1 := Aside0.mk (Kd.R_below HR.out hB); clear hB HB HR; have HB := n0; have HR := n1; clear n0 n1)
        | (simp only [hkey.out])
        | ((with_reducible refine gate_dst (N := 16) rfl ?_)
           go_loud (refine app_int w.heap.size (w0 := w) rfl (.tmp 12) (.tmp 15) rfl (.slice A n c) out (Lib.ctz 32 y : Int) rfl rfl HR.out HB.out HB.out.size (by omega) ?_)
           intro A5 n5 c5 w5 hR hB hG
           have HR5 := Aside0.mk hR; have HB5 := Aside0.mk hB; clear hR hB hG))
      go_roundw
      case measure => simp [intOf]; have := hlt.out; omega
      case rel => exact ⟨y &&& (y - 1), A5, n5, c5, _, rfl, rfl, Nat.lt_trans hlt.out HY.out, HA1, by have := hlt.out; rw [List.length_append, List.length_singleton]; omega, HL1, HR5, HB5⟩
end Go.Proofs.YtbgodajbdbgdfaaDoor.Sig
