/- NumberBack: the walk. -/
import Derived.Test.YtdglcnchdhojnaaDoorNumWalk
import Derived.Laws.BitsLemmas
import Derived.LaidLaws
namespace Go.Proofs.YtdglcnchdhojnaaDoor.Num
open Go.RowKit Go.Proofs.YtdglcnchdhojnaaDoorW.PrintWords Go.Proofs.YtdglcnchdhojnaaDoorW.PrintLast
set_option linter.unusedVariables false
set_option linter.unusedSimpArgs false
theorem and255 (n : Int) : bits .and .i64 n 255 = n % 256 := by
  have e : (BitVec.ofInt 64 255).toNat = 255 := by decide
  have h : (BitVec.ofInt 64 n &&& BitVec.ofInt 64 255).toNat = (n % 18446744073709551616).toNat % 256 := by
    rw [BitVec.toNat_and, e, BitVec.toNat_ofInt]
    exact Nat.and_two_pow_sub_one_eq_mod _ 8
  show IntKind.i64.wrap ((BitVec.ofInt 64 n &&& BitVec.ofInt 64 255).toNat : Int) = n % 256
  rw [h, IntKind.wrap_i64]
  omega
set_option maxHeartbeats 1000000 in
theorem status_any (n : Int) (w : World) : Calls Tryd.prog 61 #[.int .i64 n] w fun e w' => e = .returned (.int .i64 (n % 256)) ∧ w = w' := by
  have h := and255 n
  go_enter Tryd.func61, Tryd.ntmps61
  go_wp2
  go_ret
  exact ⟨by first | rfl | rw [h], rfl⟩
theorem tab_keep {w w' : World} (h : Tab w) (hb : Below w.heap.size w w') : Tab w' := by
  have hg : Tryd.prog.globalNamed "internal/strconv.uint64pow10" = some 4 := by kernel_rfl
  refine tab_below hg h ?_ hb
  by_cases hlt : 4 < w.heap.size
  · exact hlt
  · exfalso
    have h' : Lib.TabIs Tryd.prog w "internal/strconv.uint64pow10" .u64 Lib.pow10Tab := h
    unfold Lib.TabIs World.var? at h'
    rw [hg] at h'
    simp only [Option.bind_some] at h'
    rw [Array.getElem?_eq_none (by omega)] at h'
    cases h'
set_option maxHeartbeats 4000000 in
set_option maxRecDepth 100000 in
theorem back_law (n : Int) (w : World) (h0 : 0 ≤ n) (h1 : n ≤ 4294967295) (ht : Tab w) :
    Calls Tryd.prog 9 #[.int .u32 n] w fun e w' => e = .returned (.bool true) ∧ Below w.heap.size w w' := by
  obtain ⟨k, hk⟩ : ∃ k : Nat, n.tmod 1000000000 = (k : Int) := ⟨(n.tmod 1000000000).toNat, by rw [Int.tmod_eq_emod_of_nonneg h0]; omega⟩
  have hk9 : k < 1000000000 := by rw [Int.tmod_eq_emod_of_nonneg h0] at hk; omega
  have H9 := Aside0.mk hk9
  have HT := Aside0.mk ht
  have s1 := (back_ok hk9).1
  have s2 := (back_ok hk9).2
  have i1 : Lib.itoa (k : Int) = Lib.decDigits k := by unfold Lib.itoa; rw [if_neg (by omega)]; simp
  have i2 : Lib.itoa (-(k : Int) - 1) = 45 :: Lib.decDigits (k + 1) := by unfold Lib.itoa; rw [if_pos (by omega)]; congr 2; omega
  obtain ⟨sa, hsa⟩ : ∃ sa : ByteArray, sa = ⟨(Lib.itoa (k : Int)).toArray⟩ := ⟨_, rfl⟩
  obtain ⟨sb, hsb⟩ : ∃ sb : ByteArray, sb = ⟨(Lib.itoa (-(k : Int) - 1)).toArray⟩ := ⟨_, rfl⟩
  have HSA := Aside0.mk hsa
  have HSB := Aside0.mk hsb
  have HOK := Aside0.mk (show okD sa.data.toList = true by rw [hsa, i1]; simpa using s1)
  have HV := Aside0.mk (show valD sa.data.toList = k by rw [hsa, i1]; simpa using s2)
  have HNO := Aside0.mk (show okD sb.data.toList = false by rw [hsb, i2]; simpa using minus_no (k + 1))
  clear ht s1 s2 i1 i2 hsa hsb h0 h1
  have hc0 : (0 : Int) ≤ (k : Int) := by omega
  have hc1 : (k : Int) ≤ 999999999 := by omega
  have hr0 : (0 : Int) ≤ (k : Int) % 256 := by omega
  have hr1 : (k : Int) % 256 < 256 := by omega
  have hr2 : ((k : Int) % 256) % 256 = (k : Int) % 256 := by omega
  have hr3 : ((k : Int) - (k : Int) % 256).tmod 256 = 0 := by rw [Int.tmod_eq_emod_of_nonneg (by omega)]; omega
  have hw1 : wrap64 (-(k : Int)) = -(k : Int) := by unfold wrap64; omega
  have hw2 : wrap64 (-(k : Int) - 1) = -(k : Int) - 1 := by unfold wrap64; omega
  have hw3 : wrap64 ((k : Int) - (k : Int) % 256) = (k : Int) - (k : Int) % 256 := by unfold wrap64; omega
  go_enter Tryd.func9, Tryd.ntmps9
  go_wp2_with (first
    | (go_at_call 56; (with_reducible refine (alive_any _).mono ?_); rintro e w1 ⟨rfl, hB⟩; have HB := Aside0.mk hB; have n0 := Aside0.mk (tab_keep HT.out hB); clear hB HT; have HT := n0; clear n0)
    | (go_at_call 63; (with_reducible refine (text_any (k : Int) _ (by omega) (by omega) HT.out).mono ?_); rintro e w2 ⟨rfl, hB⟩; rw [← HSA.out]; have n1 := Aside0.mk (below_trans HB.out (below_sub hB HB.out.size)); have n0 := Aside0.mk (tab_keep HT.out hB); clear hB HT HB; have HT := n0; have HB := n1; clear n0 n1)
    | (go_at_call 63; (with_reducible refine (text_any (-(k : Int) - 1) _ (by omega) (by omega) HT.out).mono ?_); rintro e w3 ⟨rfl, hB⟩; rw [← HSB.out]; have n1 := Aside0.mk (below_trans HB.out (below_sub hB HB.out.size)); have n0 := Aside0.mk (tab_keep HT.out hB); clear hB HT HB; have HT := n0; have HB := n1; clear n0 n1)
    | (go_at_call 57; (with_reducible refine (read_yes sa _ HOK.out).mono ?_); rintro e w4 ⟨rfl, hB⟩; rw [HV.out]; have n1 := Aside0.mk (below_trans HB.out (below_sub hB HB.out.size)); have n0 := Aside0.mk (tab_keep HT.out hB); clear hB HT HB; have HT := n0; have HB := n1; clear n0 n1)
    | (go_at_call 57; (with_reducible refine (read_no sb _ HNO.out).mono ?_); rintro e w5 ⟨rfl, hB⟩; have n1 := Aside0.mk (below_trans HB.out (below_sub hB HB.out.size)); have n0 := Aside0.mk (tab_keep HT.out hB); clear hB HT HB; have HT := n0; have HB := n1; clear n0 n1)
    | (go_at_call 61; (with_reducible refine (status_any _ _).mono ?_); rintro e w' ⟨rfl, rfl⟩))
  go_ret
  exact ⟨rfl, HB.out⟩
end Go.Proofs.YtdglcnchdhojnaaDoor.Num
