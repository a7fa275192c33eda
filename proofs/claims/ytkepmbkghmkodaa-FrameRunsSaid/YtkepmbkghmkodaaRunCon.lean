/- FrameRuns: the document's Continue: its contract over rows of items by their words. -/
import Derived.Test.YtkepmbkghmkodaaRunBrk
namespace Go.Proofs.Ytkepmbkghmkodaa.Frame
open Go.RowKit Go.Proofs.YtkepmbkghmkodaaW.PrintWords Go.Proofs.YtkepmbkghmkodaaW.PrintLast Go.Proofs.Ytkepmbkghmkodaa.Base Go.Proofs.Ytkepmbkghmkodaa.Seq Go.Proofs.Ytkepmbkghmkodaa.Q
set_option linter.unusedVariables false
set_option linter.unusedSimpArgs false
theorem it_one74 {w : World} {g : Nat} {X : It} (hg : w.heap[g]? = some (.cells #[Value.int .i64 X.kind, .int .i64 X.nk, .string X.nname, .bool X.ngiven, .slice X.s1.a X.s1.n X.s1.c, .slice X.s2.a X.s2.n X.s2.c, .slice X.s3.a X.s3.n X.s3.c, .slice X.s4.a X.s4.n X.s4.c, .slice X.s5.a X.s5.n X.s5.c, .int .i64 X.at_, .int .i64 X.status, .bool X.free, .slice X.s6.a X.s6.n X.s6.c, .slice X.s7.a X.s7.n X.s7.c] 74 (0, 0))) : kIt.C w (some ⟨g, 0, none⟩) 1 [X] := C_one hg rfl
section
variable {ops : Array Oper} {rest : List Oper} {o : Oper} {a : Act} {Q : Exit → Act → World → Prop}
theorem app_it {w0 W : World} (base : Nat) {N : Tmp} (hd : o.dst = some N) (hgd : o.guard = none) (s x : Operand) (ho : o.op = .call { callee := .builtin .append, args := #[s, x], argTypes := #[70, 70] })
    (v : Value) (xs ys : List It) (A : Option Addr) (m c : Nat) (hs : a.eval s = v) (hx : a.eval x = .slice A m c)
    (HO : kIt.R 74 W base ok0 v xs) (HR : kIt.C W A m ys) (HB : Below base w0 W) (hbase : base ≤ W.heap.size) (hl : xs.length + m ≤ 100000000000)
    (h : ∀ A1 n1 cp1 w1, kIt.R 74 w1 base ok0 (.slice A1 n1 cp1) (xs ++ ys) → Below base w0 w1 → W.grownBy w1 v.ownBlock → wpList Try.prog ops Q rest (a.put (some N) (.slice A1 n1 cp1)) w1) :
    wpList Try.prog ops Q (o :: rest) a W := by
  refine R_app kIt flat_it base (N := N) (w0 := w0) (W := W) hd hgd s x 70 74 (default : It).val 232 ho Try.underlying70 (by kernel_rfl) rfl (by decide) (by decide) v xs ys A m c hs hx HO HR HB hbase (by omega) ?_
  intro v1 w1 hR hB hG
  obtain ⟨A1, n1, cp1, rfl⟩ := R_slice3 hR
  rw [hd]
  exact h A1 n1 cp1 w1 hR hB hG
theorem it_load74 {W : World} (hgd : o.guard = none) (p : Tmp) (ho : o.op = .load 74 (.tmp p)) (g : Nat) (X : It) (hx : a.eval (.tmp p) = .pointer (some ⟨g, 0, none⟩)) (hg : W.heap[g]? = some (.cells #[Value.int .i64 X.kind, .int .i64 X.nk, .string X.nname, .bool X.ngiven, .slice X.s1.a X.s1.n X.s1.c, .slice X.s2.a X.s2.n X.s2.c, .slice X.s3.a X.s3.n X.s3.c, .slice X.s4.a X.s4.n X.s4.c, .slice X.s5.a X.s5.n X.s5.c, .int .i64 X.at_, .int .i64 X.status, .bool X.free, .slice X.s6.a X.s6.n X.s6.c, .slice X.s7.a X.s7.n X.s7.c] 74 (0, 0)))
    (h : wpList Try.prog ops Q rest (a.put o.dst (.agg #[Value.int .i64 X.kind, .int .i64 X.nk, .string X.nname, .bool X.ngiven, .slice X.s1.a X.s1.n X.s1.c, .slice X.s2.a X.s2.n X.s2.c, .slice X.s3.a X.s3.n X.s3.c, .slice X.s4.a X.s4.n X.s4.c, .slice X.s5.a X.s5.n X.s5.c, .int .i64 X.at_, .int .i64 X.status, .bool X.free, .slice X.s6.a X.s6.n X.s6.c, .slice X.s7.a X.s7.n X.s7.c])) W) : wpList Try.prog ops Q (o :: rest) a W :=
  wpList_load_row hgd 74 (.tmp p) ho g hx 74 #[Value.int .i64 X.kind, .int .i64 X.nk, .string X.nname, .bool X.ngiven, .slice X.s1.a X.s1.n X.s1.c, .slice X.s2.a X.s2.n X.s2.c, .slice X.s3.a X.s3.n X.s3.c, .slice X.s4.a X.s4.n X.s4.c, .slice X.s5.a X.s5.n X.s5.c, .int .i64 X.at_, .int .i64 X.status, .bool X.free, .slice X.s6.a X.s6.n X.s6.c, .slice X.s7.a X.s7.n X.s7.c] (0, 0) _ hg Try.underlying74 rfl (by kernel_rfl) h
theorem it_put74 {W : World} (hgd : o.guard = none) (p y : Tmp) (ho : o.op = .store 74 (.tmp p) (.tmp y)) (g : Nat) (cs : Array Value) (Y : It) (hcs : cs.size = 14) (hx : a.eval (.tmp p) = .pointer (some ⟨g, 0, none⟩)) (hy : a.eval (.tmp y) = .agg #[Value.int .i64 Y.kind, .int .i64 Y.nk, .string Y.nname, .bool Y.ngiven, .slice Y.s1.a Y.s1.n Y.s1.c, .slice Y.s2.a Y.s2.n Y.s2.c, .slice Y.s3.a Y.s3.n Y.s3.c, .slice Y.s4.a Y.s4.n Y.s4.c, .slice Y.s5.a Y.s5.n Y.s5.c, .int .i64 Y.at_, .int .i64 Y.status, .bool Y.free, .slice Y.s6.a Y.s6.n Y.s6.c, .slice Y.s7.a Y.s7.n Y.s7.c])
    (hg : W.heap[g]? = some (.cells cs 74 (0, 0)))
    (h : ∀ w1, w1.heap[g]? = some (.cells #[Value.int .i64 Y.kind, .int .i64 Y.nk, .string Y.nname, .bool Y.ngiven, .slice Y.s1.a Y.s1.n Y.s1.c, .slice Y.s2.a Y.s2.n Y.s2.c, .slice Y.s3.a Y.s3.n Y.s3.c, .slice Y.s4.a Y.s4.n Y.s4.c, .slice Y.s5.a Y.s5.n Y.s5.c, .int .i64 Y.at_, .int .i64 Y.status, .bool Y.free, .slice Y.s6.a Y.s6.n Y.s6.c, .slice Y.s7.a Y.s7.n Y.s7.c] 74 (0, 0)) → (∀ B, B ≤ g → Below B W w1) → wpList Try.prog ops Q rest (a.put o.dst undef) w1) : wpList Try.prog ops Q (o :: rest) a W := by
  refine wpList_store_row hgd 74 (.tmp p) (.tmp y) ho g #[Value.int .i64 Y.kind, .int .i64 Y.nk, .string Y.nname, .bool Y.ngiven, .slice Y.s1.a Y.s1.n Y.s1.c, .slice Y.s2.a Y.s2.n Y.s2.c, .slice Y.s3.a Y.s3.n Y.s3.c, .slice Y.s4.a Y.s4.n Y.s4.c, .slice Y.s5.a Y.s5.n Y.s5.c, .int .i64 Y.at_, .int .i64 Y.status, .bool Y.free, .slice Y.s6.a Y.s6.n Y.s6.c, .slice Y.s7.a Y.s7.n Y.s7.c] hx hy 74 cs hg (by kernel_rfl) hcs (by rw [Array.all_eq_true_iff_forall_mem]; exact fun v hv => It.cells_one Y v (by simpa [It.cells] using hv)) ?_
  exact h _ (setRow_heap _ _ _ _ _ _ hg) (fun B hB => below_setRow (Below.refl _ _) hB _)
end
set_option maxHeartbeats 8000000 in
set_option maxRecDepth 100000 in
theorem rcon (xs : List It) (A : Option Addr) (n c : Nat) (m : Int) (w : World) (hrr : kIt.R 74 w 0 ok0 (.slice A n c) xs) (hok : ∀ x ∈ xs, Ok w x) (hl : xs.length ≤ 1000000) (h0 : -9223372036854775808 ≤ m) (h1 : m ≤ 9223372036854775807) :
    Calls Try.prog 39 #[.slice A n c, .int .i64 m] w fun e w' => RowOut w w' e (brkB xs.reverse m) (conR xs.reverse m).reverse := by
  have HRR := Aside0.mk hrr
  obtain ⟨hnn, hc, h⟩ := Kd.R_reads' hrr
  rw [← hnn] at h
  clear hrr hnn
  have HC := Aside0.mk h
  have HOK := Aside0.mk hok
  have HL := Aside0.mk hl
  have hn : xs.length = n := h.1
  have hcr := cntR_le xs.reverse
  rw [List.length_reverse] at hcr
  have HCC := Aside0.mk hc
  clear h hok
  cases hb : brkB xs.reverse m with
  | false =>
    rw [(brk_off hb).2, List.reverse_reverse]
    have hb' := hb
    unfold brkB at hb'
    by_cases hm : m < 1
    · have c1 : decide (m < 1) = true := decide_eq_true hm
      clear hb hb' hm
      go_enter Try.func39, Try.ntmps39
      go_wp2_with (go_at_call 88; (with_reducible refine (rloops xs A n c w HC.out HCC.out HOK.out HL.out).mono ?_); rintro e w1 ⟨B, q, rfl, hL, hB⟩; have HB := Aside0.mk hB; clear hB hL)
      go_ret2
      exact ⟨A, n, c, rfl, Kd.R_below HRR.out HB.out, HB.out⟩
    · have c1 : decide (m < 1) = false := decide_eq_false hm
      have c2 : decide ((cntR xs.reverse : Int) < m) = true := by rw [c1] at hb'; simpa using hb'
      clear hb hb'
      go_enter Try.func39, Try.ntmps39
      go_wp2_with (go_at_call 88; (with_reducible refine (rloops xs A n c w HC.out HCC.out HOK.out HL.out).mono ?_); rintro e w1 ⟨B, q, rfl, hL, hB⟩; have HB := Aside0.mk hB; clear hB hL)
      go_ret2
      exact ⟨A, n, c, rfl, Kd.R_below HRR.out HB.out, HB.out⟩
  | true =>
    obtain ⟨x, r', pre, hcut, hs, hf, _, e1⟩ := brk_cut hb
    rw [e1]
    have hb' := hb
    unfold brkB at hb'
    simp only [Bool.and_eq_true, Bool.not_eq_true'] at hb'
    obtain ⟨c1, c2⟩ := hb'
    have hn1 : 1 ≤ m := by have := of_decide_eq_false c1; omega
    have hn2 : m ≤ (cntR xs.reverse : Int) := by have := of_decide_eq_false c2; omega
    obtain ⟨hlr, htk, hxx⟩ := rev_split hs
    have HRD := Aside0.mk (lps_rd hcut)
    have HT0 := Aside0.mk (show kIt.C w A r'.length r'.reverse from htk ▸ C_part HC.out (by omega))
    obtain ⟨ad, rfl, hx⟩ := at_it HC.out r'.length hlr
    rw [show xs[r'.length] = x by rw [List.getElem?_eq_getElem hlr] at hxx; injection hxx] at hx
    have HX := Aside0.mk hx
    obtain ⟨k, hkm⟩ : ∃ k : Nat, m = (k : Int) + 1 := ⟨(m - 1).toNat, by omega⟩
    rw [show (m - 1).toNat = k by omega] at HRD
    have hw1 : wrap64 (m - 1) = (k : Int) := by unfold wrap64; omega
    have hi0 : (0 : Int) ≤ (r'.length : Int) := by omega
    have hi1 : (r'.length : Int) ≤ (c : Int) := by omega
    have hi2 : (r'.length : Int) < (n : Int) := by omega
    have hk1 : k < cntR xs.reverse := by omega
    have hrl : r'.length ≤ 1000000 := by omega
    clear hb hcut hs hf e1 htk hkm hn1 hn2 hxx hx
    go_enter Try.func39, Try.ntmps39
    go_upto_region 4 with (go_at_call 88; (with_reducible refine (rloops xs (some ad) n c w HC.out HCC.out HOK.out HL.out).mono ?_); rintro e w1 ⟨B, q, rfl, hL, hB⟩; have HB := Aside0.mk hB; have HLL := Aside0.mk hL; clear hB hL)
    obtain ⟨bd, rfl, d0⟩ := Kd.at_int HLL.out (k : Int) (by omega) (by omega)
    rw [Int.toNat_natCast, HRD.out] at d0
    have D0 := Aside0.mk d0
    obtain ⟨k0, k1, k2, k3, k4, k5, k6, k7, k8, k9, k10, k11, k12, k13⟩ := Cells_below HX.out HB.out
    have n2 := Aside0.mk (blk_new w1 (.cells #[Value.int .i64 x.kind, .int .i64 x.nk, .string x.nname, .bool x.ngiven, .slice x.s1.a x.s1.n x.s1.c, .slice x.s2.a x.s2.n x.s2.c, .slice x.s3.a x.s3.n x.s3.c, .slice x.s4.a x.s4.n x.s4.c, .slice x.s5.a x.s5.n x.s5.c, .int .i64 x.at_, .int .i64 x.status, .bool x.free, .slice x.s6.a x.s6.n x.s6.c, .slice x.s7.a x.s7.n x.s7.c] 74))
    have n3 := Aside0.mk (below_alloc (Below.refl w1.heap.size w1) (.cells #[Value.int .i64 x.kind, .int .i64 x.nk, .string x.nname, .bool x.ngiven, .slice x.s1.a x.s1.n x.s1.c, .slice x.s2.a x.s2.n x.s2.c, .slice x.s3.a x.s3.n x.s3.c, .slice x.s4.a x.s4.n x.s4.c, .slice x.s5.a x.s5.n x.s5.c, .int .i64 x.at_, .int .i64 x.status, .bool x.free, .slice x.s6.a x.s6.n x.s6.c, .slice x.s7.a x.s7.n x.s7.c] 74))
    have hbw := HB.out.size
    go_upto_region 5 with (fail)
    clear k0 k1 k2 k3 k4 k5 k6 k7 k8 k9 k10 k11 k12 k13 d0
    generalize w1.alloc (.cells #[Value.int .i64 x.kind, .int .i64 x.nk, .string x.nname, .bool x.ngiven, .slice x.s1.a x.s1.n x.s1.c, .slice x.s2.a x.s2.n x.s2.c, .slice x.s3.a x.s3.n x.s3.c, .slice x.s4.a x.s4.n x.s4.c, .slice x.s5.a x.s5.n x.s5.c, .int .i64 x.at_, .int .i64 x.status, .bool x.free, .slice x.s6.a x.s6.n x.s6.c, .slice x.s7.a x.s7.n x.s7.c] 74) = w2 at *
    have HB2 := Aside0.mk (below_trans HB.out (below_sub n3.out HB.out.size))
    cases h8 : (x.kind == 8) with
    | true =>
      have ha : again x = x := by unfold again; rw [if_pos (beq_iff_eq.1 h8)]
      obtain ⟨y, hy⟩ : ∃ y, y = x := ⟨_, rfl⟩
      have HY0 := Aside0.mk (show y = again x by rw [ha, hy])
      obtain ⟨wz, rfl⟩ : ∃ wz, wz = w2 := ⟨_, rfl⟩
      have HGY := Aside0.mk (show wz.heap[w1.heap.size]? = some (.cells #[Value.int .i64 y.kind, .int .i64 y.nk, .string y.nname, .bool y.ngiven, .slice y.s1.a y.s1.n y.s1.c, .slice y.s2.a y.s2.n y.s2.c, .slice y.s3.a y.s3.n y.s3.c, .slice y.s4.a y.s4.n y.s4.c, .slice y.s5.a y.s5.n y.s5.c, .int .i64 y.at_, .int .i64 y.status, .bool y.free, .slice y.s6.a y.s6.n y.s6.c, .slice y.s7.a y.s7.n y.s7.c] 74 (0, 0)) by rw [hy]; exact n2.out)
      rw [← hy] at h8
      have h8n : (y.kind != 8) = false := by unfold bne; rw [h8]; rfl
      have HBZ := HB2
      have HT := Aside0.mk (Kd.C_below HT0.out HBZ.out)
      have d0 := pw_cell_below n3.out D0.out
      clear ha hy n2 n3 HB2
      obtain ⟨k0, k1, k2, k3, k4, k5, k6, k7, k8, k9, k10, k11, k12, k13⟩ := cells_box HGY.out
      go_upto_region 7 with (fail)
      clear h8 h8n
      refine region_tree (fun w_ => Below wz.heap.size wz w_) (.pure 1 (some 36) (.pure 2 (some 37) (.pure 3 (some 38) (.pure 4 (some 39) (.pure 5 (some 40) (.held 6 (some 41) (.pure 7 (some 42) (.held 9 (some 44) (.two 0 (some 35) (.two 8 (some 43) (.one 10 (some 45) (.one 11 (some 46) (.pure 12 (some 4) (.pure 13 (some 5) .fin)))) 10 (some 45) (.one 8 (some 43) (.one 11 (some 46) (.pure 12 (some 4) (.pure 13 (some 5) .fin))))) 10 (some 45) (.one 0 (some 35) (.one 8 (some 43) (.one 11 (some 46) (.pure 12 (some 4) (.pure 13 (some 5) .fin)))))))))))))) (by kernel_rfl) (by kernel_rfl) ?_
      have hS := below_drew (Below.refl wz.heap.size wz)
      repeat (first
        | (refine t_pure (v := ?_) (a' := ?_) rfl (fun _ _ _ h => h) rfl ?hy ?ha ?_; (case hy => (intro w_; go_simp; with_reducible rfl)); (case ha => (simp only [Act.put, List.setIfInBounds_toArray, List.set_cons_zero, List.set_cons_succ, i64_w, i32_w]; rfl)))
        | (refine t_held (v := ?_) (a' := ?_) hS rfl (fun _ _ _ h => h) rfl ?hy ?ha ?_; (case hy => (intro w_ hb_; have s0 := pw_cell_below hb_ d0; have s1 := pw_cell_below hb_ k0; have s2 := pw_cell_below hb_ k1; have s3 := pw_cell_below hb_ k2; have s4 := pw_cell_below hb_ k3; have s5 := pw_cell_below hb_ k4; have s6 := pw_cell_below hb_ k5; have s7 := pw_cell_below hb_ k6; have s8 := pw_cell_below hb_ k7; have s9 := pw_cell_below hb_ k8; have s10 := pw_cell_below hb_ k9; have s11 := pw_cell_below hb_ k10; have s12 := pw_cell_below hb_ k11; have s13 := pw_cell_below hb_ k12; have s14 := pw_cell_below hb_ k13; go_simp; with_reducible rfl)); (case ha => (simp only [Act.put, List.setIfInBounds_toArray, List.set_cons_zero, List.set_cons_succ, i64_w, i32_w]; rfl))))
      clear k0 k1 k2 k3 k4 k5 k6 k7 k8 k9 k10 k11 k12 k13 d0
      refine t_two ?_ ?_
      · (refine t_new (v := ?_) (w1 := ?_) (a' := ?_) rfl rfl rfl ?hy ?ha ?hS ?_; (case hy => (go_simp; first | with_reducible rfl | (refine ⟨?_, ?_⟩ <;> with_reducible rfl))); (case ha => (simp only [Act.put, List.setIfInBounds_toArray, List.set_cons_zero, List.set_cons_succ, i64_w, i32_w]; rfl)); (case hS => (repeat (first | exact hS | exact Below.refl _ _ | refine below_drew ?_ | refine below_alloc ?_ _))))
        have HE := Aside0.mk (show kIt.R 74 (wz.alloc (.cells #[] 74)).drew wz.heap.size ok0 (.slice (some ⟨wz.heap.size, 0, none⟩) 0 0) [] from R_empty (blk_new wz _) (Nat.le_refl _))
        have hS1 := below_drew (below_alloc (Below.refl wz.heap.size wz) (.cells #[] 74))
        clear hS
        have hS := hS1
        clear hS1
        have hgu : wz.heap.size < (wz.alloc (.cells #[] 74)).drew.heap.size := by simp
        generalize (wz.alloc (.cells #[] 74)).drew = wu at *
        refine t_two ?_ ?_
        ·
          refine t_oneL rfl (fun K hK => ?_) rfl
          go_wp2_with ((with_reducible refine gate_dst (N := 43) rfl ?_)
                       go_loud (refine app_it wz.heap.size (N := 43) (w0 := wz) (W := wu) rfl rfl (.tmp 35) (.tmp 42) rfl (.slice (some ⟨wz.heap.size, 0, none⟩) 0 0) [] r'.reverse (some ad) r'.length c rfl rfl HE.out (Kd.C_below HT.out hS) hS hS.size (by simp; omega) ?_)
                       intro A1 n1 cp1 w5 hR hB hG
                       have HR8 := Aside0.mk hR
                       have HG8 := Aside0.mk hG
                       have HS5 := Aside0.mk hB
                       clear hR hB hG)
          refine hK _ _ HS5.out ?_
          clear hK hS
          have hS := HS5.out
          (refine t_new (v := ?_) (w1 := ?_) (a' := ?_) rfl rfl rfl ?hy ?ha ?hS ?_; (case hy => (go_simp; first | with_reducible rfl | (refine ⟨?_, ?_⟩ <;> with_reducible rfl))); (case ha => (simp only [Act.put, List.setIfInBounds_toArray, List.set_cons_zero, List.set_cons_succ, i64_w, i32_w]; rfl)); (case hS => (repeat (first | exact hS | exact Below.refl _ _ | refine below_drew ?_ | refine below_alloc ?_ _))))
          have HO := Aside0.mk (it_one74 (blk_new w5 (.cells #[Value.int .i64 y.kind, .int .i64 y.nk, .string y.nname, .bool y.ngiven, .slice y.s1.a y.s1.n y.s1.c, .slice y.s2.a y.s2.n y.s2.c, .slice y.s3.a y.s3.n y.s3.c, .slice y.s4.a y.s4.n y.s4.c, .slice y.s5.a y.s5.n y.s5.c, .int .i64 y.at_, .int .i64 y.status, .bool y.free, .slice y.s6.a y.s6.n y.s6.c, .slice y.s7.a y.s7.n y.s7.c] 74)))
          have HR9 := Aside0.mk (Kd.R_below HR8.out (below_alloc (Below.refl w5.heap.size w5) (.cells #[Value.int .i64 y.kind, .int .i64 y.nk, .string y.nname, .bool y.ngiven, .slice y.s1.a y.s1.n y.s1.c, .slice y.s2.a y.s2.n y.s2.c, .slice y.s3.a y.s3.n y.s3.c, .slice y.s4.a y.s4.n y.s4.c, .slice y.s5.a y.s5.n y.s5.c, .int .i64 y.at_, .int .i64 y.status, .bool y.free, .slice y.s6.a y.s6.n y.s6.c, .slice y.s7.a y.s7.n y.s7.c] 74)))
          have hS1 := below_alloc hS (.cells #[Value.int .i64 y.kind, .int .i64 y.nk, .string y.nname, .bool y.ngiven, .slice y.s1.a y.s1.n y.s1.c, .slice y.s2.a y.s2.n y.s2.c, .slice y.s3.a y.s3.n y.s3.c, .slice y.s4.a y.s4.n y.s4.c, .slice y.s5.a y.s5.n y.s5.c, .int .i64 y.at_, .int .i64 y.status, .bool y.free, .slice y.s6.a y.s6.n y.s6.c, .slice y.s7.a y.s7.n y.s7.c] 74)
          clear hS
          have hS := hS1
          clear hS1
          generalize w5.alloc (.cells #[Value.int .i64 y.kind, .int .i64 y.nk, .string y.nname, .bool y.ngiven, .slice y.s1.a y.s1.n y.s1.c, .slice y.s2.a y.s2.n y.s2.c, .slice y.s3.a y.s3.n y.s3.c, .slice y.s4.a y.s4.n y.s4.c, .slice y.s5.a y.s5.n y.s5.c, .int .i64 y.at_, .int .i64 y.status, .bool y.free, .slice y.s6.a y.s6.n y.s6.c, .slice y.s7.a y.s7.n y.s7.c] 74) = wv at *
          refine t_oneL rfl (fun K hK => ?_) rfl
          go_wp2_with ((with_reducible refine gate_dst (N := 46) rfl ?_)
                       go_loud (refine app_it wz.heap.size (N := 46) (w0 := wz) (W := wv) rfl rfl (.tmp 43) (.tmp 45) rfl (.slice A1 n1 cp1) ([] ++ r'.reverse) [y] _ 1 1 rfl rfl HR9.out HO.out hS hS.size (by simp; omega) ?_)
                       intro A2 n2 cp2 w7 hR hB hG
                       have HR11 := Aside0.mk hR
                       have HS7 := Aside0.mk hB
                       clear hR hB hG)
          refine hK _ _ HS7.out ?_
          clear hK hS
          have hS := HS7.out
          repeat (first
            | (refine t_pure (v := ?_) (a' := ?_) rfl (fun _ _ _ h => h) rfl ?hy ?ha ?_; (case hy => (intro w_; go_simp; with_reducible rfl)); (case ha => (simp only [Act.put, List.setIfInBounds_toArray, List.set_cons_zero, List.set_cons_succ, i64_w, i32_w]; rfl)))
            | (refine t_held (v := ?_) (a' := ?_) hS rfl (fun _ _ _ h => h) rfl ?hy ?ha ?_; (case hy => (intro w_ hb_; go_simp; with_reducible rfl)); (case ha => (simp only [Act.put, List.setIfInBounds_toArray, List.set_cons_zero, List.set_cons_succ, i64_w, i32_w]; rfl))))
          refine t_fin ?_
          clear hS
          go_wp2
          go_ret2
          refine ⟨A2, n2, cp2, rfl, ?_, below_trans HBZ.out (below_sub HS7.out HBZ.out.size)⟩
          rw [List.reverse_cons, ← HY0.out]
          exact Kd.R_lower HR11.out (Nat.zero_le _)
        · (refine t_new (v := ?_) (w1 := ?_) (a' := ?_) rfl rfl rfl ?hy ?ha ?hS ?_; (case hy => (go_simp; first | with_reducible rfl | (refine ⟨?_, ?_⟩ <;> with_reducible rfl))); (case ha => (simp only [Act.put, List.setIfInBounds_toArray, List.set_cons_zero, List.set_cons_succ, i64_w, i32_w]; rfl)); (case hS => (repeat (first | exact hS | exact Below.refl _ _ | refine below_drew ?_ | refine below_alloc ?_ _))))
          have HGO := Aside0.mk (blk_new wu (.cells #[Value.int .i64 y.kind, .int .i64 y.nk, .string y.nname, .bool y.ngiven, .slice y.s1.a y.s1.n y.s1.c, .slice y.s2.a y.s2.n y.s2.c, .slice y.s3.a y.s3.n y.s3.c, .slice y.s4.a y.s4.n y.s4.c, .slice y.s5.a y.s5.n y.s5.c, .int .i64 y.at_, .int .i64 y.status, .bool y.free, .slice y.s6.a y.s6.n y.s6.c, .slice y.s7.a y.s7.n y.s7.c] 74))
          have HE1 := Aside0.mk (Kd.R_below HE.out (below_alloc (Below.refl wu.heap.size wu) (.cells #[Value.int .i64 y.kind, .int .i64 y.nk, .string y.nname, .bool y.ngiven, .slice y.s1.a y.s1.n y.s1.c, .slice y.s2.a y.s2.n y.s2.c, .slice y.s3.a y.s3.n y.s3.c, .slice y.s4.a y.s4.n y.s4.c, .slice y.s5.a y.s5.n y.s5.c, .int .i64 y.at_, .int .i64 y.status, .bool y.free, .slice y.s6.a y.s6.n y.s6.c, .slice y.s7.a y.s7.n y.s7.c] 74)))
          have hS1 := below_alloc hS (.cells #[Value.int .i64 y.kind, .int .i64 y.nk, .string y.nname, .bool y.ngiven, .slice y.s1.a y.s1.n y.s1.c, .slice y.s2.a y.s2.n y.s2.c, .slice y.s3.a y.s3.n y.s3.c, .slice y.s4.a y.s4.n y.s4.c, .slice y.s5.a y.s5.n y.s5.c, .int .i64 y.at_, .int .i64 y.status, .bool y.free, .slice y.s6.a y.s6.n y.s6.c, .slice y.s7.a y.s7.n y.s7.c] 74)
          have hgq : wu.heap.size ≠ wz.heap.size := by omega
          clear hS HE
          have hS := hS1
          have HE := HE1
          clear hS1 HE1
          generalize wu.alloc (.cells #[Value.int .i64 y.kind, .int .i64 y.nk, .string y.nname, .bool y.ngiven, .slice y.s1.a y.s1.n y.s1.c, .slice y.s2.a y.s2.n y.s2.c, .slice y.s3.a y.s3.n y.s3.c, .slice y.s4.a y.s4.n y.s4.c, .slice y.s5.a y.s5.n y.s5.c, .int .i64 y.at_, .int .i64 y.status, .bool y.free, .slice y.s6.a y.s6.n y.s6.c, .slice y.s7.a y.s7.n y.s7.c] 74) = wt at *
          generalize wu.heap.size = go at *
          obtain ⟨wu, rfl⟩ : ∃ wu, wu = wt := ⟨_, rfl⟩
          refine t_oneL rfl (fun K hK => ?_) rfl
          go_wp2_with ((with_reducible refine gate_dst (N := 43) rfl ?_)
                       go_loud (refine app_it wz.heap.size (N := 43) (w0 := wz) (W := wu) rfl rfl (.tmp 35) (.tmp 42) rfl (.slice (some ⟨wz.heap.size, 0, none⟩) 0 0) [] r'.reverse (some ad) r'.length c rfl rfl HE.out (Kd.C_below HT.out hS) hS hS.size (by simp; omega) ?_)
                       intro A1 n1 cp1 w5 hR hB hG
                       have HR8 := Aside0.mk hR
                       have HG8 := Aside0.mk hG
                       have HS5 := Aside0.mk hB
                       clear hR hB hG)
          refine hK _ _ HS5.out ?_
          clear hK hS
          have hS := HS5.out
          have HG9 := Aside0.mk (blk_grown HGO.out HG8.out (by simp [Value.ownBlock]; omega))
          have HO := Aside0.mk (it_one74 HG9.out)
          have HR9 := HR8
          obtain ⟨wv, rfl⟩ : ∃ wv, wv = w5 := ⟨_, rfl⟩
          refine t_oneL rfl (fun K hK => ?_) rfl
          go_wp2_with ((with_reducible refine gate_dst (N := 46) rfl ?_)
                       go_loud (refine app_it wz.heap.size (N := 46) (w0 := wz) (W := wv) rfl rfl (.tmp 43) (.tmp 45) rfl (.slice A1 n1 cp1) ([] ++ r'.reverse) [y] _ 1 1 rfl rfl HR9.out HO.out hS hS.size (by simp; omega) ?_)
                       intro A2 n2 cp2 w7 hR hB hG
                       have HR11 := Aside0.mk hR
                       have HS7 := Aside0.mk hB
                       clear hR hB hG)
          refine hK _ _ HS7.out ?_
          clear hK hS
          have hS := HS7.out
          repeat (first
            | (refine t_pure (v := ?_) (a' := ?_) rfl (fun _ _ _ h => h) rfl ?hy ?ha ?_; (case hy => (intro w_; go_simp; with_reducible rfl)); (case ha => (simp only [Act.put, List.setIfInBounds_toArray, List.set_cons_zero, List.set_cons_succ, i64_w, i32_w]; rfl)))
            | (refine t_held (v := ?_) (a' := ?_) hS rfl (fun _ _ _ h => h) rfl ?hy ?ha ?_; (case hy => (intro w_ hb_; go_simp; with_reducible rfl)); (case ha => (simp only [Act.put, List.setIfInBounds_toArray, List.set_cons_zero, List.set_cons_succ, i64_w, i32_w]; rfl))))
          refine t_fin ?_
          clear hS
          go_wp2
          go_ret2
          refine ⟨A2, n2, cp2, rfl, ?_, below_trans HBZ.out (below_sub HS7.out HBZ.out.size)⟩
          rw [List.reverse_cons, ← HY0.out]
          exact Kd.R_lower HR11.out (Nat.zero_le _)
      · (refine t_new (v := ?_) (w1 := ?_) (a' := ?_) rfl rfl rfl ?hy ?ha ?hS ?_; (case hy => (go_simp; first | with_reducible rfl | (refine ⟨?_, ?_⟩ <;> with_reducible rfl))); (case ha => (simp only [Act.put, List.setIfInBounds_toArray, List.set_cons_zero, List.set_cons_succ, i64_w, i32_w]; rfl)); (case hS => (repeat (first | exact hS | exact Below.refl _ _ | refine below_drew ?_ | refine below_alloc ?_ _))))
        have HGO0 := Aside0.mk (show (wz.alloc (.cells #[Value.int .i64 y.kind, .int .i64 y.nk, .string y.nname, .bool y.ngiven, .slice y.s1.a y.s1.n y.s1.c, .slice y.s2.a y.s2.n y.s2.c, .slice y.s3.a y.s3.n y.s3.c, .slice y.s4.a y.s4.n y.s4.c, .slice y.s5.a y.s5.n y.s5.c, .int .i64 y.at_, .int .i64 y.status, .bool y.free, .slice y.s6.a y.s6.n y.s6.c, .slice y.s7.a y.s7.n y.s7.c] 74)).drew.heap[wz.heap.size]? = _ from blk_new wz (.cells #[Value.int .i64 y.kind, .int .i64 y.nk, .string y.nname, .bool y.ngiven, .slice y.s1.a y.s1.n y.s1.c, .slice y.s2.a y.s2.n y.s2.c, .slice y.s3.a y.s3.n y.s3.c, .slice y.s4.a y.s4.n y.s4.c, .slice y.s5.a y.s5.n y.s5.c, .int .i64 y.at_, .int .i64 y.status, .bool y.free, .slice y.s6.a y.s6.n y.s6.c, .slice y.s7.a y.s7.n y.s7.c] 74))
        have hS1 := below_drew (below_alloc (Below.refl wz.heap.size wz) (.cells #[Value.int .i64 y.kind, .int .i64 y.nk, .string y.nname, .bool y.ngiven, .slice y.s1.a y.s1.n y.s1.c, .slice y.s2.a y.s2.n y.s2.c, .slice y.s3.a y.s3.n y.s3.c, .slice y.s4.a y.s4.n y.s4.c, .slice y.s5.a y.s5.n y.s5.c, .int .i64 y.at_, .int .i64 y.status, .bool y.free, .slice y.s6.a y.s6.n y.s6.c, .slice y.s7.a y.s7.n y.s7.c] 74))
        clear hS
        have hS := hS1
        clear hS1
        have hgz : wz.heap.size ≤ ((wz.alloc (.cells #[Value.int .i64 y.kind, .int .i64 y.nk, .string y.nname, .bool y.ngiven, .slice y.s1.a y.s1.n y.s1.c, .slice y.s2.a y.s2.n y.s2.c, .slice y.s3.a y.s3.n y.s3.c, .slice y.s4.a y.s4.n y.s4.c, .slice y.s5.a y.s5.n y.s5.c, .int .i64 y.at_, .int .i64 y.status, .bool y.free, .slice y.s6.a y.s6.n y.s6.c, .slice y.s7.a y.s7.n y.s7.c] 74)).drew).heap.size := by simp
        have hgo : wz.heap.size < ((wz.alloc (.cells #[Value.int .i64 y.kind, .int .i64 y.nk, .string y.nname, .bool y.ngiven, .slice y.s1.a y.s1.n y.s1.c, .slice y.s2.a y.s2.n y.s2.c, .slice y.s3.a y.s3.n y.s3.c, .slice y.s4.a y.s4.n y.s4.c, .slice y.s5.a y.s5.n y.s5.c, .int .i64 y.at_, .int .i64 y.status, .bool y.free, .slice y.s6.a y.s6.n y.s6.c, .slice y.s7.a y.s7.n y.s7.c] 74)).drew).heap.size := by simp
        generalize (wz.alloc (.cells #[Value.int .i64 y.kind, .int .i64 y.nk, .string y.nname, .bool y.ngiven, .slice y.s1.a y.s1.n y.s1.c, .slice y.s2.a y.s2.n y.s2.c, .slice y.s3.a y.s3.n y.s3.c, .slice y.s4.a y.s4.n y.s4.c, .slice y.s5.a y.s5.n y.s5.c, .int .i64 y.at_, .int .i64 y.status, .bool y.free, .slice y.s6.a y.s6.n y.s6.c, .slice y.s7.a y.s7.n y.s7.c] 74)).drew = wt at *
        (refine t_new (v := ?_) (w1 := ?_) (a' := ?_) rfl rfl rfl ?hy ?ha ?hS ?_; (case hy => (go_simp; first | with_reducible rfl | (refine ⟨?_, ?_⟩ <;> with_reducible rfl))); (case ha => (simp only [Act.put, List.setIfInBounds_toArray, List.set_cons_zero, List.set_cons_succ, i64_w, i32_w]; rfl)); (case hS => (repeat (first | exact hS | exact Below.refl _ _ | refine below_drew ?_ | refine below_alloc ?_ _))))
        have HGO := Aside0.mk (blk_below HGO0.out (below_alloc (Below.refl wt.heap.size wt) (.cells #[] 74)))
        have HE := Aside0.mk (show kIt.R 74 (wt.alloc (.cells #[] 74)) wz.heap.size ok0 (.slice (some ⟨wt.heap.size, 0, none⟩) 0 0) [] from R_empty (blk_new wt _) hgz)
        have hS1 := below_alloc hS (.cells #[] 74)
        clear hS
        have hS := hS1
        clear hS1
        generalize wt.alloc (.cells #[] 74) = wu at *
        refine t_oneL rfl (fun K hK => ?_) rfl
        go_wp2_with ((with_reducible refine gate_dst (N := 43) rfl ?_)
                     go_loud (refine app_it wz.heap.size (N := 43) (w0 := wz) (W := wu) rfl rfl (.tmp 35) (.tmp 42) rfl (.slice (some ⟨wt.heap.size, 0, none⟩) 0 0) [] r'.reverse (some ad) r'.length c rfl rfl HE.out (Kd.C_below HT.out hS) hS hS.size (by simp; omega) ?_)
                     intro A1 n1 cp1 w5 hR hB hG
                     have HR8 := Aside0.mk hR
                     have HG8 := Aside0.mk hG
                     have HS5 := Aside0.mk hB
                     clear hR hB hG)
        refine hK _ _ HS5.out ?_
        clear hK hS
        have hS := HS5.out
        have HG9 := Aside0.mk (blk_grown HGO.out HG8.out (by simp [Value.ownBlock]; omega))
        have HO := Aside0.mk (it_one74 HG9.out)
        have HR9 := HR8
        obtain ⟨wv, rfl⟩ : ∃ wv, wv = w5 := ⟨_, rfl⟩
        refine t_oneL rfl (fun K hK => ?_) rfl
        go_wp2_with ((with_reducible refine gate_dst (N := 46) rfl ?_)
                     go_loud (refine app_it wz.heap.size (N := 46) (w0 := wz) (W := wv) rfl rfl (.tmp 43) (.tmp 45) rfl (.slice A1 n1 cp1) ([] ++ r'.reverse) [y] _ 1 1 rfl rfl HR9.out HO.out hS hS.size (by simp; omega) ?_)
                     intro A2 n2 cp2 w7 hR hB hG
                     have HR11 := Aside0.mk hR
                     have HS7 := Aside0.mk hB
                     clear hR hB hG)
        refine hK _ _ HS7.out ?_
        clear hK hS
        have hS := HS7.out
        repeat (first
          | (refine t_pure (v := ?_) (a' := ?_) rfl (fun _ _ _ h => h) rfl ?hy ?ha ?_; (case hy => (intro w_; go_simp; with_reducible rfl)); (case ha => (simp only [Act.put, List.setIfInBounds_toArray, List.set_cons_zero, List.set_cons_succ, i64_w, i32_w]; rfl)))
          | (refine t_held (v := ?_) (a' := ?_) hS rfl (fun _ _ _ h => h) rfl ?hy ?ha ?_; (case hy => (intro w_ hb_; go_simp; with_reducible rfl)); (case ha => (simp only [Act.put, List.setIfInBounds_toArray, List.set_cons_zero, List.set_cons_succ, i64_w, i32_w]; rfl))))
        refine t_fin ?_
        clear hS
        go_wp2
        go_ret2
        refine ⟨A2, n2, cp2, rfl, ?_, below_trans HBZ.out (below_sub HS7.out HBZ.out.size)⟩
        rw [List.reverse_cons, ← HY0.out]
        exact Kd.R_lower HR11.out (Nat.zero_le _)
    | false =>
      obtain ⟨y, hy⟩ : ∃ y : It, y = { (default : It) with kind := 7, nk := x.nk, nname := x.nname, ngiven := x.ngiven, s1 := x.s1, s2 := x.s2, s3 := x.s3, s4 := x.s4, s5 := x.s5, free := x.free } := ⟨_, rfl⟩
      have h8n : (x.kind != 8) = true := by unfold bne; rw [h8]; rfl
      have HYY := Aside0.mk hy
      have HY0 := Aside0.mk (show y = again x by unfold again; rw [if_neg (by simpa using h8), hy])
      obtain ⟨k0, k1, k2, k3, k4, k5, k6, k7, k8, k9, k10, k11, k12, k13⟩ := cells_box n2.out
      go_upto_region 7 with (first
        | ((with_reducible refine gate_storeT 74 7 34 rfl ?_); go_loud (refine it_put74 rfl 7 34 rfl w1.heap.size _ y rfl rfl (by rw [HYY.out]; rfl) n2.out ?_); intro wz hg hbx; have HGY := Aside0.mk hg; have HBZ := Aside0.mk (below_trans HB2.out (hbx _ hbw)); have d0 := pw_cell_below (below_trans n3.out (hbx _ (Nat.le_refl _))) D0.out; clear hbx hg k0 k1 k2 k3 k4 k5 k6 k7 k8 k9 k10 k11 k12 k13))
      have HT := Aside0.mk (Kd.C_below HT0.out HBZ.out)
      clear n2 n3 HB2 hy
      obtain ⟨k0, k1, k2, k3, k4, k5, k6, k7, k8, k9, k10, k11, k12, k13⟩ := cells_box HGY.out
      go_upto_region 7 with (fail)
      clear h8 h8n
      refine region_tree (fun w_ => Below wz.heap.size wz w_) (.pure 1 (some 36) (.pure 2 (some 37) (.pure 3 (some 38) (.pure 4 (some 39) (.pure 5 (some 40) (.held 6 (some 41) (.pure 7 (some 42) (.held 9 (some 44) (.two 0 (some 35) (.two 8 (some 43) (.one 10 (some 45) (.one 11 (some 46) (.pure 12 (some 4) (.pure 13 (some 5) .fin)))) 10 (some 45) (.one 8 (some 43) (.one 11 (some 46) (.pure 12 (some 4) (.pure 13 (some 5) .fin))))) 10 (some 45) (.one 0 (some 35) (.one 8 (some 43) (.one 11 (some 46) (.pure 12 (some 4) (.pure 13 (some 5) .fin)))))))))))))) (by kernel_rfl) (by kernel_rfl) ?_
      have hS := below_drew (Below.refl wz.heap.size wz)
      repeat (first
        | (refine t_pure (v := ?_) (a' := ?_) rfl (fun _ _ _ h => h) rfl ?hy ?ha ?_; (case hy => (intro w_; go_simp; with_reducible rfl)); (case ha => (simp only [Act.put, List.setIfInBounds_toArray, List.set_cons_zero, List.set_cons_succ, i64_w, i32_w]; rfl)))
        | (refine t_held (v := ?_) (a' := ?_) hS rfl (fun _ _ _ h => h) rfl ?hy ?ha ?_; (case hy => (intro w_ hb_; have s0 := pw_cell_below hb_ d0; have s1 := pw_cell_below hb_ k0; have s2 := pw_cell_below hb_ k1; have s3 := pw_cell_below hb_ k2; have s4 := pw_cell_below hb_ k3; have s5 := pw_cell_below hb_ k4; have s6 := pw_cell_below hb_ k5; have s7 := pw_cell_below hb_ k6; have s8 := pw_cell_below hb_ k7; have s9 := pw_cell_below hb_ k8; have s10 := pw_cell_below hb_ k9; have s11 := pw_cell_below hb_ k10; have s12 := pw_cell_below hb_ k11; have s13 := pw_cell_below hb_ k12; have s14 := pw_cell_below hb_ k13; go_simp; with_reducible rfl)); (case ha => (simp only [Act.put, List.setIfInBounds_toArray, List.set_cons_zero, List.set_cons_succ, i64_w, i32_w]; rfl))))
      clear k0 k1 k2 k3 k4 k5 k6 k7 k8 k9 k10 k11 k12 k13 d0
      refine t_two ?_ ?_
      · (refine t_new (v := ?_) (w1 := ?_) (a' := ?_) rfl rfl rfl ?hy ?ha ?hS ?_; (case hy => (go_simp; first | with_reducible rfl | (refine ⟨?_, ?_⟩ <;> with_reducible rfl))); (case ha => (simp only [Act.put, List.setIfInBounds_toArray, List.set_cons_zero, List.set_cons_succ, i64_w, i32_w]; rfl)); (case hS => (repeat (first | exact hS | exact Below.refl _ _ | refine below_drew ?_ | refine below_alloc ?_ _))))
        have HE := Aside0.mk (show kIt.R 74 (wz.alloc (.cells #[] 74)).drew wz.heap.size ok0 (.slice (some ⟨wz.heap.size, 0, none⟩) 0 0) [] from R_empty (blk_new wz _) (Nat.le_refl _))
        have hS1 := below_drew (below_alloc (Below.refl wz.heap.size wz) (.cells #[] 74))
        clear hS
        have hS := hS1
        clear hS1
        have hgu : wz.heap.size < (wz.alloc (.cells #[] 74)).drew.heap.size := by simp
        generalize (wz.alloc (.cells #[] 74)).drew = wu at *
        refine t_two ?_ ?_
        ·
          refine t_oneL rfl (fun K hK => ?_) rfl
          go_wp2_with ((with_reducible refine gate_dst (N := 43) rfl ?_)
                       go_loud (refine app_it wz.heap.size (N := 43) (w0 := wz) (W := wu) rfl rfl (.tmp 35) (.tmp 42) rfl (.slice (some ⟨wz.heap.size, 0, none⟩) 0 0) [] r'.reverse (some ad) r'.length c rfl rfl HE.out (Kd.C_below HT.out hS) hS hS.size (by simp; omega) ?_)
                       intro A1 n1 cp1 w5 hR hB hG
                       have HR8 := Aside0.mk hR
                       have HG8 := Aside0.mk hG
                       have HS5 := Aside0.mk hB
                       clear hR hB hG)
          refine hK _ _ HS5.out ?_
          clear hK hS
          have hS := HS5.out
          (refine t_new (v := ?_) (w1 := ?_) (a' := ?_) rfl rfl rfl ?hy ?ha ?hS ?_; (case hy => (go_simp; first | with_reducible rfl | (refine ⟨?_, ?_⟩ <;> with_reducible rfl))); (case ha => (simp only [Act.put, List.setIfInBounds_toArray, List.set_cons_zero, List.set_cons_succ, i64_w, i32_w]; rfl)); (case hS => (repeat (first | exact hS | exact Below.refl _ _ | refine below_drew ?_ | refine below_alloc ?_ _))))
          have HO := Aside0.mk (it_one74 (blk_new w5 (.cells #[Value.int .i64 y.kind, .int .i64 y.nk, .string y.nname, .bool y.ngiven, .slice y.s1.a y.s1.n y.s1.c, .slice y.s2.a y.s2.n y.s2.c, .slice y.s3.a y.s3.n y.s3.c, .slice y.s4.a y.s4.n y.s4.c, .slice y.s5.a y.s5.n y.s5.c, .int .i64 y.at_, .int .i64 y.status, .bool y.free, .slice y.s6.a y.s6.n y.s6.c, .slice y.s7.a y.s7.n y.s7.c] 74)))
          have HR9 := Aside0.mk (Kd.R_below HR8.out (below_alloc (Below.refl w5.heap.size w5) (.cells #[Value.int .i64 y.kind, .int .i64 y.nk, .string y.nname, .bool y.ngiven, .slice y.s1.a y.s1.n y.s1.c, .slice y.s2.a y.s2.n y.s2.c, .slice y.s3.a y.s3.n y.s3.c, .slice y.s4.a y.s4.n y.s4.c, .slice y.s5.a y.s5.n y.s5.c, .int .i64 y.at_, .int .i64 y.status, .bool y.free, .slice y.s6.a y.s6.n y.s6.c, .slice y.s7.a y.s7.n y.s7.c] 74)))
          have hS1 := below_alloc hS (.cells #[Value.int .i64 y.kind, .int .i64 y.nk, .string y.nname, .bool y.ngiven, .slice y.s1.a y.s1.n y.s1.c, .slice y.s2.a y.s2.n y.s2.c, .slice y.s3.a y.s3.n y.s3.c, .slice y.s4.a y.s4.n y.s4.c, .slice y.s5.a y.s5.n y.s5.c, .int .i64 y.at_, .int .i64 y.status, .bool y.free, .slice y.s6.a y.s6.n y.s6.c, .slice y.s7.a y.s7.n y.s7.c] 74)
          clear hS
          have hS := hS1
          clear hS1
          generalize w5.alloc (.cells #[Value.int .i64 y.kind, .int .i64 y.nk, .string y.nname, .bool y.ngiven, .slice y.s1.a y.s1.n y.s1.c, .slice y.s2.a y.s2.n y.s2.c, .slice y.s3.a y.s3.n y.s3.c, .slice y.s4.a y.s4.n y.s4.c, .slice y.s5.a y.s5.n y.s5.c, .int .i64 y.at_, .int .i64 y.status, .bool y.free, .slice y.s6.a y.s6.n y.s6.c, .slice y.s7.a y.s7.n y.s7.c] 74) = wv at *
          refine t_oneL rfl (fun K hK => ?_) rfl
          go_wp2_with ((with_reducible refine gate_dst (N := 46) rfl ?_)
                       go_loud (refine app_it wz.heap.size (N := 46) (w0 := wz) (W := wv) rfl rfl (.tmp 43) (.tmp 45) rfl (.slice A1 n1 cp1) ([] ++ r'.reverse) [y] _ 1 1 rfl rfl HR9.out HO.out hS hS.size (by simp; omega) ?_)
                       intro A2 n2 cp2 w7 hR hB hG
                       have HR11 := Aside0.mk hR
                       have HS7 := Aside0.mk hB
                       clear hR hB hG)
          refine hK _ _ HS7.out ?_
          clear hK hS
          have hS := HS7.out
          repeat (first
            | (refine t_pure (v := ?_) (a' := ?_) rfl (fun _ _ _ h => h) rfl ?hy ?ha ?_; (case hy => (intro w_; go_simp; with_reducible rfl)); (case ha => (simp only [Act.put, List.setIfInBounds_toArray, List.set_cons_zero, List.set_cons_succ, i64_w, i32_w]; rfl)))
            | (refine t_held (v := ?_) (a' := ?_) hS rfl (fun _ _ _ h => h) rfl ?hy ?ha ?_; (case hy => (intro w_ hb_; go_simp; with_reducible rfl)); (case ha => (simp only [Act.put, List.setIfInBounds_toArray, List.set_cons_zero, List.set_cons_succ, i64_w, i32_w]; rfl))))
          refine t_fin ?_
          clear hS
          go_wp2
          go_ret2
          refine ⟨A2, n2, cp2, rfl, ?_, below_trans HBZ.out (below_sub HS7.out HBZ.out.size)⟩
          rw [List.reverse_cons, ← HY0.out]
          exact Kd.R_lower HR11.out (Nat.zero_le _)
        · (refine t_new (v := ?_) (w1 := ?_) (a' := ?_) rfl rfl rfl ?hy ?ha ?hS ?_; (case hy => (go_simp; first | with_reducible rfl | (refine ⟨?_, ?_⟩ <;> with_reducible rfl))); (case ha => (simp only [Act.put, List.setIfInBounds_toArray, List.set_cons_zero, List.set_cons_succ, i64_w, i32_w]; rfl)); (case hS => (repeat (first | exact hS | exact Below.refl _ _ | refine below_drew ?_ | refine below_alloc ?_ _))))
          have HGO := Aside0.mk (blk_new wu (.cells #[Value.int .i64 y.kind, .int .i64 y.nk, .string y.nname, .bool y.ngiven, .slice y.s1.a y.s1.n y.s1.c, .slice y.s2.a y.s2.n y.s2.c, .slice y.s3.a y.s3.n y.s3.c, .slice y.s4.a y.s4.n y.s4.c, .slice y.s5.a y.s5.n y.s5.c, .int .i64 y.at_, .int .i64 y.status, .bool y.free, .slice y.s6.a y.s6.n y.s6.c, .slice y.s7.a y.s7.n y.s7.c] 74))
          have HE1 := Aside0.mk (Kd.R_below HE.out (below_alloc (Below.refl wu.heap.size wu) (.cells #[Value.int .i64 y.kind, .int .i64 y.nk, .string y.nname, .bool y.ngiven, .slice y.s1.a y.s1.n y.s1.c, .slice y.s2.a y.s2.n y.s2.c, .slice y.s3.a y.s3.n y.s3.c, .slice y.s4.a y.s4.n y.s4.c, .slice y.s5.a y.s5.n y.s5.c, .int .i64 y.at_, .int .i64 y.status, .bool y.free, .slice y.s6.a y.s6.n y.s6.c, .slice y.s7.a y.s7.n y.s7.c] 74)))
          have hS1 := below_alloc hS (.cells #[Value.int .i64 y.kind, .int .i64 y.nk, .string y.nname, .bool y.ngiven, .slice y.s1.a y.s1.n y.s1.c, .slice y.s2.a y.s2.n y.s2.c, .slice y.s3.a y.s3.n y.s3.c, .slice y.s4.a y.s4.n y.s4.c, .slice y.s5.a y.s5.n y.s5.c, .int .i64 y.at_, .int .i64 y.status, .bool y.free, .slice y.s6.a y.s6.n y.s6.c, .slice y.s7.a y.s7.n y.s7.c] 74)
          have hgq : wu.heap.size ≠ wz.heap.size := by omega
          clear hS HE
          have hS := hS1
          have HE := HE1
          clear hS1 HE1
          generalize wu.alloc (.cells #[Value.int .i64 y.kind, .int .i64 y.nk, .string y.nname, .bool y.ngiven, .slice y.s1.a y.s1.n y.s1.c, .slice y.s2.a y.s2.n y.s2.c, .slice y.s3.a y.s3.n y.s3.c, .slice y.s4.a y.s4.n y.s4.c, .slice y.s5.a y.s5.n y.s5.c, .int .i64 y.at_, .int .i64 y.status, .bool y.free, .slice y.s6.a y.s6.n y.s6.c, .slice y.s7.a y.s7.n y.s7.c] 74) = wt at *
          generalize wu.heap.size = go at *
          obtain ⟨wu, rfl⟩ : ∃ wu, wu = wt := ⟨_, rfl⟩
          refine t_oneL rfl (fun K hK => ?_) rfl
          go_wp2_with ((with_reducible refine gate_dst (N := 43) rfl ?_)
                       go_loud (refine app_it wz.heap.size (N := 43) (w0 := wz) (W := wu) rfl rfl (.tmp 35) (.tmp 42) rfl (.slice (some ⟨wz.heap.size, 0, none⟩) 0 0) [] r'.reverse (some ad) r'.length c rfl rfl HE.out (Kd.C_below HT.out hS) hS hS.size (by simp; omega) ?_)
                       intro A1 n1 cp1 w5 hR hB hG
                       have HR8 := Aside0.mk hR
                       have HG8 := Aside0.mk hG
                       have HS5 := Aside0.mk hB
                       clear hR hB hG)
          refine hK _ _ HS5.out ?_
          clear hK hS
          have hS := HS5.out
          have HG9 := Aside0.mk (blk_grown HGO.out HG8.out (by simp [Value.ownBlock]; omega))
          have HO := Aside0.mk (it_one74 HG9.out)
          have HR9 := HR8
          obtain ⟨wv, rfl⟩ : ∃ wv, wv = w5 := ⟨_, rfl⟩
          refine t_oneL rfl (fun K hK => ?_) rfl
          go_wp2_with ((with_reducible refine gate_dst (N := 46) rfl ?_)
                       go_loud (refine app_it wz.heap.size (N := 46) (w0 := wz) (W := wv) rfl rfl (.tmp 43) (.tmp 45) rfl (.slice A1 n1 cp1) ([] ++ r'.reverse) [y] _ 1 1 rfl rfl HR9.out HO.out hS hS.size (by simp; omega) ?_)
                       intro A2 n2 cp2 w7 hR hB hG
                       have HR11 := Aside0.mk hR
                       have HS7 := Aside0.mk hB
                       clear hR hB hG)
          refine hK _ _ HS7.out ?_
          clear hK hS
          have hS := HS7.out
          repeat (first
            | (refine t_pure (v := ?_) (a' := ?_) rfl (fun _ _ _ h => h) rfl ?hy ?ha ?_; (case hy => (intro w_; go_simp; with_reducible rfl)); (case ha => (simp only [Act.put, List.setIfInBounds_toArray, List.set_cons_zero, List.set_cons_succ, i64_w, i32_w]; rfl)))
            | (refine t_held (v := ?_) (a' := ?_) hS rfl (fun _ _ _ h => h) rfl ?hy ?ha ?_; (case hy => (intro w_ hb_; go_simp; with_reducible rfl)); (case ha => (simp only [Act.put, List.setIfInBounds_toArray, List.set_cons_zero, List.set_cons_succ, i64_w, i32_w]; rfl))))
          refine t_fin ?_
          clear hS
          go_wp2
          go_ret2
          refine ⟨A2, n2, cp2, rfl, ?_, below_trans HBZ.out (below_sub HS7.out HBZ.out.size)⟩
          rw [List.reverse_cons, ← HY0.out]
          exact Kd.R_lower HR11.out (Nat.zero_le _)
      · (refine t_new (v := ?_) (w1 := ?_) (a' := ?_) rfl rfl rfl ?hy ?ha ?hS ?_; (case hy => (go_simp; first | with_reducible rfl | (refine ⟨?_, ?_⟩ <;> with_reducible rfl))); (case ha => (simp only [Act.put, List.setIfInBounds_toArray, List.set_cons_zero, List.set_cons_succ, i64_w, i32_w]; rfl)); (case hS => (repeat (first | exact hS | exact Below.refl _ _ | refine below_drew ?_ | refine below_alloc ?_ _))))
        have HGO0 := Aside0.mk (show (wz.alloc (.cells #[Value.int .i64 y.kind, .int .i64 y.nk, .string y.nname, .bool y.ngiven, .slice y.s1.a y.s1.n y.s1.c, .slice y.s2.a y.s2.n y.s2.c, .slice y.s3.a y.s3.n y.s3.c, .slice y.s4.a y.s4.n y.s4.c, .slice y.s5.a y.s5.n y.s5.c, .int .i64 y.at_, .int .i64 y.status, .bool y.free, .slice y.s6.a y.s6.n y.s6.c, .slice y.s7.a y.s7.n y.s7.c] 74)).drew.heap[wz.heap.size]? = _ from blk_new wz (.cells #[Value.int .i64 y.kind, .int .i64 y.nk, .string y.nname, .bool y.ngiven, .slice y.s1.a y.s1.n y.s1.c, .slice y.s2.a y.s2.n y.s2.c, .slice y.s3.a y.s3.n y.s3.c, .slice y.s4.a y.s4.n y.s4.c, .slice y.s5.a y.s5.n y.s5.c, .int .i64 y.at_, .int .i64 y.status, .bool y.free, .slice y.s6.a y.s6.n y.s6.c, .slice y.s7.a y.s7.n y.s7.c] 74))
        have hS1 := below_drew (below_alloc (Below.refl wz.heap.size wz) (.cells #[Value.int .i64 y.kind, .int .i64 y.nk, .string y.nname, .bool y.ngiven, .slice y.s1.a y.s1.n y.s1.c, .slice y.s2.a y.s2.n y.s2.c, .slice y.s3.a y.s3.n y.s3.c, .slice y.s4.a y.s4.n y.s4.c, .slice y.s5.a y.s5.n y.s5.c, .int .i64 y.at_, .int .i64 y.status, .bool y.free, .slice y.s6.a y.s6.n y.s6.c, .slice y.s7.a y.s7.n y.s7.c] 74))
        clear hS
        have hS := hS1
        clear hS1
        have hgz : wz.heap.size ≤ ((wz.alloc (.cells #[Value.int .i64 y.kind, .int .i64 y.nk, .string y.nname, .bool y.ngiven, .slice y.s1.a y.s1.n y.s1.c, .slice y.s2.a y.s2.n y.s2.c, .slice y.s3.a y.s3.n y.s3.c, .slice y.s4.a y.s4.n y.s4.c, .slice y.s5.a y.s5.n y.s5.c, .int .i64 y.at_, .int .i64 y.status, .bool y.free, .slice y.s6.a y.s6.n y.s6.c, .slice y.s7.a y.s7.n y.s7.c] 74)).drew).heap.size := by simp
        have hgo : wz.heap.size < ((wz.alloc (.cells #[Value.int .i64 y.kind, .int .i64 y.nk, .string y.nname, .bool y.ngiven, .slice y.s1.a y.s1.n y.s1.c, .slice y.s2.a y.s2.n y.s2.c, .slice y.s3.a y.s3.n y.s3.c, .slice y.s4.a y.s4.n y.s4.c, .slice y.s5.a y.s5.n y.s5.c, .int .i64 y.at_, .int .i64 y.status, .bool y.free, .slice y.s6.a y.s6.n y.s6.c, .slice y.s7.a y.s7.n y.s7.c] 74)).drew).heap.size := by simp
        generalize (wz.alloc (.cells #[Value.int .i64 y.kind, .int .i64 y.nk, .string y.nname, .bool y.ngiven, .slice y.s1.a y.s1.n y.s1.c, .slice y.s2.a y.s2.n y.s2.c, .slice y.s3.a y.s3.n y.s3.c, .slice y.s4.a y.s4.n y.s4.c, .slice y.s5.a y.s5.n y.s5.c, .int .i64 y.at_, .int .i64 y.status, .bool y.free, .slice y.s6.a y.s6.n y.s6.c, .slice y.s7.a y.s7.n y.s7.c] 74)).drew = wt at *
        (refine t_new (v := ?_) (w1 := ?_) (a' := ?_) rfl rfl rfl ?hy ?ha ?hS ?_; (case hy => (go_simp; first | with_reducible rfl | (refine ⟨?_, ?_⟩ <;> with_reducible rfl))); (case ha => (simp only [Act.put, List.setIfInBounds_toArray, List.set_cons_zero, List.set_cons_succ, i64_w, i32_w]; rfl)); (case hS => (repeat (first | exact hS | exact Below.refl _ _ | refine below_drew ?_ | refine below_alloc ?_ _))))
        have HGO := Aside0.mk (blk_below HGO0.out (below_alloc (Below.refl wt.heap.size wt) (.cells #[] 74)))
        have HE := Aside0.mk (show kIt.R 74 (wt.alloc (.cells #[] 74)) wz.heap.size ok0 (.slice (some ⟨wt.heap.size, 0, none⟩) 0 0) [] from R_empty (blk_new wt _) hgz)
        have hS1 := below_alloc hS (.cells #[] 74)
        clear hS
        have hS := hS1
        clear hS1
        generalize wt.alloc (.cells #[] 74) = wu at *
        refine t_oneL rfl (fun K hK => ?_) rfl
        go_wp2_with ((with_reducible refine gate_dst (N := 43) rfl ?_)
                     go_loud (refine app_it wz.heap.size (N := 43) (w0 := wz) (W := wu) rfl rfl (.tmp 35) (.tmp 42) rfl (.slice (some ⟨wt.heap.size, 0, none⟩) 0 0) [] r'.reverse (some ad) r'.length c rfl rfl HE.out (Kd.C_below HT.out hS) hS hS.size (by simp; omega) ?_)
                     intro A1 n1 cp1 w5 hR hB hG
                     have HR8 := Aside0.mk hR
                     have HG8 := Aside0.mk hG
                     have HS5 := Aside0.mk hB
                     clear hR hB hG)
        refine hK _ _ HS5.out ?_
        clear hK hS
        have hS := HS5.out
        have HG9 := Aside0.mk (blk_grown HGO.out HG8.out (by simp [Value.ownBlock]; omega))
        have HO := Aside0.mk (it_one74 HG9.out)
        have HR9 := HR8
        obtain ⟨wv, rfl⟩ : ∃ wv, wv = w5 := ⟨_, rfl⟩
        refine t_oneL rfl (fun K hK => ?_) rfl
        go_wp2_with ((with_reducible refine gate_dst (N := 46) rfl ?_)
                     go_loud (refine app_it wz.heap.size (N := 46) (w0 := wz) (W := wv) rfl rfl (.tmp 43) (.tmp 45) rfl (.slice A1 n1 cp1) ([] ++ r'.reverse) [y] _ 1 1 rfl rfl HR9.out HO.out hS hS.size (by simp; omega) ?_)
                     intro A2 n2 cp2 w7 hR hB hG
                     have HR11 := Aside0.mk hR
                     have HS7 := Aside0.mk hB
                     clear hR hB hG)
        refine hK _ _ HS7.out ?_
        clear hK hS
        have hS := HS7.out
        repeat (first
          | (refine t_pure (v := ?_) (a' := ?_) rfl (fun _ _ _ h => h) rfl ?hy ?ha ?_; (case hy => (intro w_; go_simp; with_reducible rfl)); (case ha => (simp only [Act.put, List.setIfInBounds_toArray, List.set_cons_zero, List.set_cons_succ, i64_w, i32_w]; rfl)))
          | (refine t_held (v := ?_) (a' := ?_) hS rfl (fun _ _ _ h => h) rfl ?hy ?ha ?_; (case hy => (intro w_ hb_; go_simp; with_reducible rfl)); (case ha => (simp only [Act.put, List.setIfInBounds_toArray, List.set_cons_zero, List.set_cons_succ, i64_w, i32_w]; rfl))))
        refine t_fin ?_
        clear hS
        go_wp2
        go_ret2
        refine ⟨A2, n2, cp2, rfl, ?_, below_trans HBZ.out (below_sub HS7.out HBZ.out.size)⟩
        rw [List.reverse_cons, ← HY0.out]
        exact Kd.R_lower HR11.out (Nat.zero_le _)
end Go.Proofs.Ytkepmbkghmkodaa.Frame
