/- FrameRuns: the document's loops and Break: contracts over rows of items by their words. -/
import Derived.Test.YtkepmbkghmkodaaRunItems
import Derived.Test.YtkepmbkghmkodaaFrameGood
import Derived.Test.YtkepmbkghmkodaaSeqTree
namespace Go.Proofs.Ytkepmbkghmkodaa.Frame
open Go.RowKit Go.Proofs.YtkepmbkghmkodaaW.PrintWords Go.Proofs.YtkepmbkghmkodaaW.PrintLast Go.Proofs.Ytkepmbkghmkodaa.Base Go.Proofs.Ytkepmbkghmkodaa.Seq Go.Proofs.Ytkepmbkghmkodaa.Q
set_option linter.unusedVariables false
set_option linter.unusedSimpArgs false
theorem lps_rd {r r' : List It} {x : It} {n : Nat} (hc : cut isLoop r n = some (x, r')) : rd (lpsK (r.map It.kind)) (n : Int) = (r'.length : Int) := by
  unfold rd
  rw [Int.toNat_natCast, List.getD_eq_getElem?_getD, lpsK_get, ← cut_K, hc]
  rfl
/-- The places of the loops, as a row. -/
def LoopsOut (w w' : World) (e : Ending) (n : Nat) (l : List Int) : Prop := ∃ B q, e = .returned (.slice B n q) ∧ (Kd.int .i64).C w' B n l ∧ Below w.heap.size w w'
theorem rloops (xs : List It) (A : Option Addr) (n c : Nat) (w : World) (h : kIt.C w A n xs) (hc : n ≤ c) (hok : ∀ x ∈ xs, Ok w x) (hl : xs.length ≤ 1000000) :
    Calls Try.prog 88 #[.slice A n c] w fun e w' => LoopsOut w w' e (cntR xs.reverse) (lpsK (xs.reverse.map It.kind)) := by
  obtain ⟨vs, hV, hk, hf⟩ := row_of_words h hok
  obtain rfl := hV.1
  obtain ⟨k, hev⟩ := loops_ev hk hl
  refine (deadfallref15_loops.calls k A c vs _ w hV hc (hev k (Nat.le_refl _))).mono ?_
  rintro e w' ⟨v, rfl, hR, hB⟩
  obtain ⟨B, q, rfl⟩ := Kd.R_slice hR
  have hC := (Kd.R_reads' hR).2.2
  rw [lpsK_len, ← cntR_K] at hC
  exact ⟨B, q, by rw [lpsK_len, ← cntR_K], hC, hB⟩
/-- A row that is handed back, and whether it is another one. -/
def RowOut (w w' : World) (e : Ending) (b : Bool) (l : List It) : Prop := ∃ A n c, e = .returned (.tuple #[.slice A n c, .bool b]) ∧ kIt.R 74 w' 0 ok0 (.slice A n c) l ∧ Below w.heap.size w w'
theorem C_part {w : World} {A : Option Addr} {n m : Nat} {xs : List It} (h : kIt.C w A n xs) (hm : m ≤ n) : kIt.C w A m (xs.take m) := by
  have hn : xs.length = n := h.1
  subst hn
  have := Kd.C_take h hm
  rwa [show (xs.take m).length = m by rw [List.length_take]; omega] at this
set_option maxHeartbeats 4000000 in
set_option maxRecDepth 100000 in
theorem rbrk (xs : List It) (A : Option Addr) (n c : Nat) (m : Int) (w : World) (hrr : kIt.R 74 w 0 ok0 (.slice A n c) xs) (hok : ∀ x ∈ xs, Ok w x) (hl : xs.length ≤ 1000000) (h0 : -9223372036854775808 ≤ m) (h1 : m ≤ 9223372036854775807) :
    Calls Try.prog 38 #[.slice A n c, .int .i64 m] w fun e w' => RowOut w w' e (brkB xs.reverse m) (brkR xs.reverse m).reverse := by
  have HRR := Aside0.mk hrr
  obtain ⟨hnn, hc, h⟩ := Kd.R_reads' hrr
  rw [← hnn] at h
  clear hrr hnn
  have HC := Aside0.mk h
  have HOK := Aside0.mk hok
  have HL := Aside0.mk hl
  have hn : xs.length = n := h.1
  have hcr := cntR_le xs.reverse
  rw [List.length_reverse] at hcr
  have HCC := Aside0.mk hc
  clear h hok
  cases hb : brkB xs.reverse m with
  | false =>
    rw [(brk_off hb).1, List.reverse_reverse]
    have hb' := hb
    unfold brkB at hb'
    by_cases hm : m < 1
    · have c1 : decide (m < 1) = true := decide_eq_true hm
      clear hb hb' hm
      go_enter Try.func38, Try.ntmps38
      go_wp2_with (go_at_call 88; (with_reducible refine (rloops xs A n c w HC.out HCC.out HOK.out HL.out).mono ?_); rintro e w1 ⟨B, q, rfl, hL, hB⟩; have HB := Aside0.mk hB; clear hB hL)
      go_ret2
      exact ⟨A, n, c, rfl, Kd.R_below HRR.out HB.out, HB.out⟩
    · have c1 : decide (m < 1) = false := decide_eq_false hm
      have c2 : decide ((cntR xs.reverse : Int) < m) = true := by rw [c1] at hb'; simpa using hb'
      clear hb hb'
      go_enter Try.func38, Try.ntmps38
      go_wp2_with (go_at_call 88; (with_reducible refine (rloops xs A n c w HC.out HCC.out HOK.out HL.out).mono ?_); rintro e w1 ⟨B, q, rfl, hL, hB⟩; have HB := Aside0.mk hB; clear hB hL)
      go_ret2
      exact ⟨A, n, c, rfl, Kd.R_below HRR.out HB.out, HB.out⟩
  | true =>
    obtain ⟨x, r', pre, hcut, hs, hf, e1, _⟩ := brk_cut hb
    rw [e1]
    have hb' := hb
    unfold brkB at hb'
    simp only [Bool.and_eq_true, Bool.not_eq_true'] at hb'
    obtain ⟨c1, c2⟩ := hb'
    have hn1 : 1 ≤ m := by have := of_decide_eq_false c1; omega
    have hn2 : m ≤ (cntR xs.reverse : Int) := by have := of_decide_eq_false c2; omega
    obtain ⟨hlr, htk, _⟩ := rev_split hs
    have HRD := Aside0.mk (lps_rd hcut)
    have HT := Aside0.mk (show kIt.C w A r'.length r'.reverse from htk ▸ C_part HC.out (by omega))
    obtain ⟨k, hkm⟩ : ∃ k : Nat, m = (k : Int) + 1 := ⟨(m - 1).toNat, by omega⟩
    rw [show (m - 1).toNat = k by omega] at HRD
    have hw1 : wrap64 (m - 1) = (k : Int) := by unfold wrap64; omega
    have hi0 : (0 : Int) ≤ (r'.length : Int) := by omega
    have hi1 : (r'.length : Int) ≤ (c : Int) := by omega
    have hk1 : k < cntR xs.reverse := by omega
    have hrl : r'.length ≤ 1000000 := by omega
    clear hb hcut hs hf e1 htk hkm hn1 hn2
    go_enter Try.func38, Try.ntmps38
    go_upto_region 4 with (go_at_call 88; (with_reducible refine (rloops xs A n c w HC.out HCC.out HOK.out HL.out).mono ?_); rintro e w1 ⟨B, q, rfl, hL, hB⟩; have HB := Aside0.mk hB; have HLL := Aside0.mk hL; clear hB hL)
    obtain ⟨bd, rfl, d0⟩ := Kd.at_int (Kd.C_below HLL.out (below_alloc (Below.refl w1.heap.size w1) (.cells #[] 74))) (k : Int) (by omega) (by omega)
    rw [Int.toNat_natCast, HRD.out] at d0
    go_wp2_with ((with_reducible refine gate_dst (N := 26) rfl ?_)
                 go_loud (refine R_app kIt flat_it w.heap.size (N := 26) (w0 := w) rfl rfl (.tmp 18) (.tmp 25) 70 74 (default : It).val 232 rfl Try.underlying70 (by kernel_rfl) rfl (by decide) (by decide) (.slice (some ⟨w1.heap.size, 0, none⟩) 0 0) [] r'.reverse A r'.length c rfl rfl (R_empty (blk_new w1 _) HB.out.size) (Kd.C_below HT.out (below_alloc HB.out _)) (below_alloc HB.out _) (below_alloc HB.out _).size (by simp; omega) ?_)
                 intro v1 w4 hR hB hG
                 obtain ⟨A1, n1, cp1, rfl⟩ := R_slice3 hR
                 have HR := Aside0.mk hR
                 have HB4 := Aside0.mk hB
                 clear hR hB hG d0)
    go_ret2
    exact ⟨A1, n1, cp1, rfl, Kd.R_lower HR.out (Nat.zero_le _), HB4.out⟩
end Go.Proofs.Ytkepmbkghmkodaa.Frame
