/- texts of this claim, one behind the other: TwinSame -/
import Derived.Test.YtbgodajbdbgdfaaDoorG3
/- KernRuns: the law's Same at a table and a list that says the same: it is 1. -/
namespace Go.Proofs.YtbgodajbdbgdfaaDoor.Kern
open Go.RowKit Go.Proofs.YtbgodajbdbgdfaaDoorW.PrintWords Go.Proofs.YtbgodajbdbgdfaaDoorW.PrintLast Go.Proofs.YtbgodajbdbgdfaaDoor.Sig Go.Proofs.YtbgodajbdbgdfaaDoor.Base Go.Proofs.YtbgodajbdbgdfaaDoor.Seq Go.Proofs.YtbgodajbdbgdfaaDoor.V Go.Maps
set_option linter.unusedVariables false
set_option linter.unusedSimpArgs false
section
variable {w : World} {base g m n : Nat} {X : Gh} {D : Dm} {B : Int → Nat} {v : Value} {f : Tb} {last : Int} {A E : Option Addr} {k c j d : Nat} {L : List S} {es : List SE}
set_option maxHeartbeats 8000000 in
set_option maxRecDepth 100000 in
theorem same_any (hT : TV w base X g m n D B v f last (es.map prE)) (h : Rel f L) (hr : RT w A k c L E j d es) (ld : Int) (hel : es.length ≤ 1000000) :
    Calls Tryd.prog 14 #[.pointer (some ⟨g, 0, none⟩), .agg #[.slice A k c, .int .i64 ld, .slice E j d]] w fun e w' => e = .returned (.int .i64 1) ∧ Below w.heap.size w w' := by
  have hB1 := below_alloc (Below.refl w.heap.size w) (.cells #[.slice A k c, .int .i64 ld, .slice E j d] 42)
  have HG3 := Aside0.mk (blk_new w (.cells #[.slice A k c, .int .i64 ld, .slice E j d] 42))
  have HR := Aside0.mk (hr.below hB1)
  have HT := Aside0.mk (hT.below hB1)
  have HB := Aside0.mk hB1
  have HH := Aside0.mk h
  have HEL := Aside0.mk hel
  have hnl : L.length = k := hr.row.1
  have hfew := h.few
  have HSZ := Aside0.mk (size_eqL hT h)
  have HKY := Aside0.mk (show ∀ l : List Int, l.Perm (intKeys D) → l.Pairwise (fun x y => x ≤ y) → l = pidsL L from fun l h1 h2 => keys_eq hT h h1 h2)
  have HSET := Aside0.mk (show ∀ q r, f q = some r → r.ign < 4294967296 ∧ r.ca < 4294967296 from fun q r hq => ⟨(hT.yes q r hq).ign, (hT.yes q r hq).ca⟩)
  have HCAP := Aside0.mk hr.cap
  clear hT h hr hB1 hel
  go_enter Tryd.func14, Tryd.ntmps14
  go_upto_region 1 with (fail)
  generalize w.alloc (.cells #[.slice A k c, .int .i64 ld, .slice E j d] 42) = w1 at *
  have b0 : w1.cell? ⟨w.heap.size, 0, none⟩ = some (.slice A k c) := (blk_cell HG3.out 0).trans rfl
  have b1 : w1.cell? ⟨w.heap.size, 1, none⟩ = some (.int .i64 ld) := (blk_cell HG3.out 1).trans rfl
  have b2 : w1.cell? ⟨w.heap.size, 2, none⟩ = some (.slice E j d) := (blk_cell HG3.out 2).trans rfl
  refine region_seq (fun w_ => Below w1.heap.size w1 w_) []
    [(0, some 8, .pure), (2, some 10, .held), (1, some 9, .one), (3, some 11, .one), (4, some 12, .one), (5, some 13, .pure), (6, some 14, .pure), (7, some 15, .pure), (9, some 17, .pure), (10, some 18, .held), (11, some 19, .pure), (8, some 16, .one), (12, some 20, .pure), (13, some 21, .pure), (14, some 22, .pure), (15, some 23, .pure), (17, some 25, .pure), (18, some 26, .held), (16, some 24, .one), (19, some 27, .one), (20, some 28, .pure), (21, some 29, .pure)] (by kernel_rfl) (by kernel_rfl) ?_
  have hS := below_drew (Below.refl w1.heap.size w1)
  repeat (first
    | (refine s_pure (v := ?_) (a' := ?_) rfl (fun _ _ _ h => h) rfl ?hy ?ha ?_; (case hy => (intro w_; go_simp; with_reducible rfl)); (case ha => (simp only [Act.put, List.setIfInBounds_toArray, List.set_cons_zero, List.set_cons_succ, i64_w, i32_w]; rfl)))
    | (refine s_held (v := ?_) (a' := ?_) hS rfl (fun _ _ _ h => h) rfl ?hy ?ha ?_; (case hy => (intro w_ hb_; have s0 := pw_cell_below hb_ b0; have s1 := pw_cell_below hb_ b1; have s2 := pw_cell_below hb_ b2; go_simp; with_reducible rfl)); (case ha => (simp only [Act.put, List.setIfInBounds_toArray, List.set_cons_zero, List.set_cons_succ, i64_w, i32_w]; rfl))))
  refine s_oneL rfl (fun K hK => ?_) rfl
  go_wp2_with (go_at_call 43; (with_reducible refine (procs_any (HT.out.below hS)).mono ?_); rintro e w3 ⟨A3, n3, q3, L3, rfl, hC3, hq3, hP3, hW3, hB⟩)
  have hS2 : Below w1.heap.size w1 w3 := hS.trans (below_sub hB hS.size)
  obtain rfl := HKY.out L3 hP3 hW3
  rw [procs_eq HH.out] at hC3
  have HC3 := Aside0.mk hC3
  have HQ3 := Aside0.mk hq3
  clear hC3 hq3 hP3 hW3
  clear hB hS
  have hS := hS2
  clear hS2
  refine hK _ _ hS ?_
  clear hK
  repeat (first
    | (refine s_pure (v := ?_) (a' := ?_) rfl (fun _ _ _ h => h) rfl ?hy ?ha ?_; (case hy => (intro w_; go_simp; with_reducible rfl)); (case ha => (simp only [Act.put, List.setIfInBounds_toArray, List.set_cons_zero, List.set_cons_succ, i64_w, i32_w]; rfl)))
    | (refine s_held (v := ?_) (a' := ?_) hS rfl (fun _ _ _ h => h) rfl ?hy ?ha ?_; (case hy => (intro w_ hb_; have s0 := pw_cell_below hb_ b0; have s1 := pw_cell_below hb_ b1; have s2 := pw_cell_below hb_ b2; go_simp; with_reducible rfl)); (case ha => (simp only [Act.put, List.setIfInBounds_toArray, List.set_cons_zero, List.set_cons_succ, i64_w, i32_w]; rfl))))
  refine s_oneL rfl (fun K hK => ?_) rfl
  go_wp2_with (go_at_call 44; (with_reducible refine (rprocs_any HH.out (HR.out.below hS) ld).mono ?_); rintro e w4 ⟨A4, n4, q4, rfl, hC4, hq4, hB⟩)
  have hS2 : Below w1.heap.size w1 w4 := hS.trans (below_sub hB hS.size)
  have HC4 := Aside0.mk hC4
  have HC3b := Aside0.mk (Kd.C_below HC3.out hB)
  have HQ4 := Aside0.mk hq4
  clear hC4 hq4
  clear hB hS
  have hS := hS2
  clear hS2
  refine hK _ _ hS ?_
  clear hK
  repeat (first
    | (refine s_pure (v := ?_) (a' := ?_) rfl (fun _ _ _ h => h) rfl ?hy ?ha ?_; (case hy => (intro w_; go_simp; with_reducible rfl)); (case ha => (simp only [Act.put, List.setIfInBounds_toArray, List.set_cons_zero, List.set_cons_succ, i64_w, i32_w]; rfl)))
    | (refine s_held (v := ?_) (a' := ?_) hS rfl (fun _ _ _ h => h) rfl ?hy ?ha ?_; (case hy => (intro w_ hb_; have s0 := pw_cell_below hb_ b0; have s1 := pw_cell_below hb_ b1; have s2 := pw_cell_below hb_ b2; go_simp; with_reducible rfl)); (case ha => (simp only [Act.put, List.setIfInBounds_toArray, List.set_cons_zero, List.set_cons_succ, i64_w, i32_w]; rfl))))
  refine s_oneL rfl (fun K hK => ?_) rfl
  go_wp2_with (go_at_call 42; (with_reducible refine (sints_any _ (Nat.le_trans (by rw [List.length_map]; exact List.length_filter_le _ _) hfew) _ _ _ _ _ _ _ HC3b.out HQ3.out HC4.out HQ4.out).mono ?_); rintro e w5 ⟨rfl, hB⟩)
  have hS2 : Below w1.heap.size w1 w5 := hS.trans (below_sub hB hS.size)
  clear hB hS
  have hS := hS2
  clear hS2
  refine hK _ _ hS ?_
  clear hK
  repeat (first
    | (refine s_pure (v := ?_) (a' := ?_) rfl (fun _ _ _ h => h) rfl ?hy ?ha ?_; (case hy => (intro w_; go_simp; with_reducible rfl)); (case ha => (simp only [Act.put, List.setIfInBounds_toArray, List.set_cons_zero, List.set_cons_succ, i64_w, i32_w]; rfl)))
    | (refine s_held (v := ?_) (a' := ?_) hS rfl (fun _ _ _ h => h) rfl ?hy ?ha ?_; (case hy => (intro w_ hb_; have s0 := pw_cell_below hb_ b0; have s1 := pw_cell_below hb_ b1; have s2 := pw_cell_below hb_ b2; go_simp; with_reducible rfl)); (case ha => (simp only [Act.put, List.setIfInBounds_toArray, List.set_cons_zero, List.set_cons_succ, i64_w, i32_w]; rfl))))
  refine s_oneL rfl (fun K hK => ?_) rfl
  go_wp2_with (go_at_call 8; (with_reducible refine (len_any (HT.out.below hS)).mono ?_); rintro e w9 ⟨rfl, rfl⟩; rw [HSZ.out, hnl])
  refine hK _ _ hS ?_
  clear hK
  repeat (first
    | (refine s_pure (v := ?_) (a' := ?_) rfl (fun _ _ _ h => h) rfl ?hy ?ha ?_; (case hy => (intro w_; go_simp; with_reducible rfl)); (case ha => (simp only [Act.put, List.setIfInBounds_toArray, List.set_cons_zero, List.set_cons_succ, i64_w, i32_w]; rfl)))
    | (refine s_held (v := ?_) (a' := ?_) hS rfl (fun _ _ _ h => h) rfl ?hy ?ha ?_; (case hy => (intro w_ hb_; have s0 := pw_cell_below hb_ b0; have s1 := pw_cell_below hb_ b1; have s2 := pw_cell_below hb_ b2; go_simp; with_reducible rfl)); (case ha => (simp only [Act.put, List.setIfInBounds_toArray, List.set_cons_zero, List.set_cons_succ, i64_w, i32_w]; rfl))))
  refine s_oneL rfl (fun K hK => ?_) rfl
  go_wp2_with (go_at_call 11; (with_reducible refine (ends_any2 (HT.out.below hS) HEL.out).mono ?_); rintro e w7 ⟨A7, n7, c7, rfl, hC7, hq7, hB⟩)
  have hS2 : Below w1.heap.size w1 w7 := hS.trans (below_sub hB hS.size)
  have HC7 := Aside0.mk hC7
  have HQ7 := Aside0.mk hq7
  clear hC7 hq7
  clear hB hS
  have hS := hS2
  clear hS2
  refine hK _ _ hS ?_
  clear hK
  repeat (first
    | (refine s_pure (v := ?_) (a' := ?_) rfl (fun _ _ _ h => h) rfl ?hy ?ha ?_; (case hy => (intro w_; go_simp; with_reducible rfl)); (case ha => (simp only [Act.put, List.setIfInBounds_toArray, List.set_cons_zero, List.set_cons_succ, i64_w, i32_w]; rfl)))
    | (refine s_held (v := ?_) (a' := ?_) hS rfl (fun _ _ _ h => h) rfl ?hy ?ha ?_; (case hy => (intro w_ hb_; have s0 := pw_cell_below hb_ b0; have s1 := pw_cell_below hb_ b1; have s2 := pw_cell_below hb_ b2; go_simp; with_reducible rfl)); (case ha => (simp only [Act.put, List.setIfInBounds_toArray, List.set_cons_zero, List.set_cons_succ, i64_w, i32_w]; rfl))))
  refine s_oneL rfl (fun K hK => ?_) rfl
  go_wp2_with (go_at_call 45; (with_reducible refine (sends_any es HEL.out _ _ _ _ _ _ _ HC7.out HQ7.out (HR.out.below hS).erow (HR.out.below hS).ecap).mono ?_); rintro e w8 ⟨rfl, hB⟩)
  have hS2 : Below w1.heap.size w1 w8 := hS.trans (below_sub hB hS.size)
  clear hB hS
  have hS := hS2
  clear hS2
  refine hK _ _ hS ?_
  clear hK
  repeat (first
    | (refine s_pure (v := ?_) (a' := ?_) rfl (fun _ _ _ h => h) rfl ?hy ?ha ?_; (case hy => (intro w_; go_simp; with_reducible rfl)); (case ha => (simp only [Act.put, List.setIfInBounds_toArray, List.set_cons_zero, List.set_cons_succ, i64_w, i32_w]; rfl)))
    | (refine s_held (v := ?_) (a' := ?_) hS rfl (fun _ _ _ h => h) rfl ?hy ?ha ?_; (case hy => (intro w_ hb_; have s0 := pw_cell_below hb_ b0; have s1 := pw_cell_below hb_ b1; have s2 := pw_cell_below hb_ b2; go_simp; with_reducible rfl)); (case ha => (simp only [Act.put, List.setIfInBounds_toArray, List.set_cons_zero, List.set_cons_succ, i64_w, i32_w]; rfl))))
  refine s_tailL _ (by kernel_rfl) ?_
  simp only [opsAt, List.filterMap_nil]
  clear b0 b1 b2
  have HB8 := Aside0.mk hS
  clear hS
  go_upto_region 3 with (fail)
  have b0 : w8.cell? ⟨w.heap.size, 0, none⟩ = some (.slice A k c) := (blk_cell (blk_below HG3.out HB8.out) 0).trans rfl
  go_wp2
  clear b0
  go_loopw [33] (fun v33 wr => ∃ i : Nat, i ≤ k ∧ v33 = .int .i64 (i : Int) ∧ Aside0 (Below w1.heap.size w1 wr)) (fun v33 _ => k - (intOf v33).toNat)
  case atStart => exact ⟨0, Nat.zero_le _, rfl, HB8⟩
  case round =>
    clear HB8
    obtain ⟨i, hi, rfl, HBr⟩ := hrel
    by_cases hik : i < k
    · have hiL : i < L.length := by omega
      obtain ⟨r, hf, ei⟩ := rel_get HH.out i hiL
      generalize L[i].f0 = q at *
      obtain ⟨ad, rfl, k0, k1, k2, k3, k4, k5, k6⟩ := at_S (HR.out.below HBr.out).row i hiL ei
      have hi0 : (0 : Int) ≤ (i : Int) := by omega
      have hi1 : (i : Int) < (k : Int) := by omega
      have pv := HT.out.yes q r hf
      have htop := HT.out.top q (by rw [hf]; simp)
      have hlmt := HT.out.lmt
      have HW := Aside0.mk (wf_i64 (x := q) (by omega) (by omega))
      have HWP := Aside0.mk (wf_i64 (x := r.par) (by have := pv.par; omega) (by have := pv.par; omega))
      have HLV := Aside0.mk (show liv f q = r.live by unfold liv; rw [hf])
      have HGB := Aside0.mk (blk_new wr (.cells (prc q r) 77))
      have hal := below_alloc (Below.refl wr.heap.size wr) (.cells (prc q r) 77)
      have HBb := Aside0.mk (HBr.out.trans (hal.mono HBr.out.size))
      clear ei pv htop hlmt hal hf
      go_upto_region 6 with (fail)
      clear k0 k1 k2 k3 k4 k5 k6
      generalize wr.alloc (.cells (prc q r) 77) = wb at *
      generalize wr.heap.size = gp at *
      have p0 : wb.cell? ⟨gp, 0, none⟩ = some (.int .i64 q) := (blk_cell HGB.out 0).trans rfl
      have p1 : wb.cell? ⟨gp, 1, none⟩ = some (.int .i64 r.par) := (blk_cell HGB.out 1).trans rfl
      have p3 : wb.cell? ⟨gp, 3, none⟩ = some (.bool r.live) := (blk_cell HGB.out 3).trans rfl
      have b0 : wb.cell? ⟨w.heap.size, 0, none⟩ = some (.slice (some ad) k c) := (blk_cell (blk_below HG3.out HBb.out) 0).trans rfl
      have b1 : wb.cell? ⟨w.heap.size, 1, none⟩ = some (.int .i64 ld) := (blk_cell (blk_below HG3.out HBb.out) 1).trans rfl
      have b2 : wb.cell? ⟨w.heap.size, 2, none⟩ = some (.slice E j d) := (blk_cell (blk_below HG3.out HBb.out) 2).trans rfl
      have HTb := Aside0.mk (HT.out.below HBb.out)
      have HRb := Aside0.mk (HR.out.below HBb.out)
      refine region_seq (fun w_ => Below wb.heap.size wb w_) []
        [(0, some 37, .pure), (1, some 38, .pure), (4, some 41, .pure), (2, some 39, .held), (5, some 42, .held), (3, some 40, .one), (6, some 43, .pure), (7, some 44, .pure), (8, some 45, .pure), (9, some 46, .pure), (13, some 50, .pure), (10, some 47, .held), (12, some 49, .held), (14, some 51, .held), (11, some 48, .one), (15, some 52, .one), (16, some 53, .pure), (17, some 54, .pure), (18, some 55, .pure), (19, some 56, .pure), (20, some 57, .pure), (24, some 61, .pure), (21, some 58, .held), (23, some 60, .held), (25, some 62, .held), (22, some 59, .one), (26, some 63, .one), (27, some 64, .one), (28, some 65, .pure), (29, some 66, .pure), (30, some 67, .pure), (31, some 68, .pure), (32, some 69, .pure), (34, some 71, .pure), (38, some 75, .pure), (40, some 77, .pure), (33, some 70, .held), (35, some 72, .held), (37, some 74, .held), (39, some 76, .held), (41, some 78, .held), (36, some 73, .one), (42, some 79, .one), (43, some 80, .pure), (44, some 81, .pure)] (by kernel_rfl) (by kernel_rfl) ?_
      have hS := below_drew (Below.refl wb.heap.size wb)
      repeat (first
        | (refine s_pure (v := ?_) (a' := ?_) rfl (fun _ _ _ h => h) rfl ?hy ?ha ?_; (case hy => (intro w_; go_simp; with_reducible rfl)); (case ha => (simp only [Act.put, List.setIfInBounds_toArray, List.set_cons_zero, List.set_cons_succ, i64_w, i32_w]; rfl)))
        | (refine s_held (v := ?_) (a' := ?_) hS rfl (fun _ _ _ h => h) rfl ?hy ?ha ?_; (case hy => (intro w_ hb_; have s0 := pw_cell_below hb_ b0; have s1 := pw_cell_below hb_ b1; have s2 := pw_cell_below hb_ b2; have s3 := pw_cell_below hb_ p0; have s4 := pw_cell_below hb_ p1; have s5 := pw_cell_below hb_ p3; go_simp; with_reducible rfl)); (case ha => (simp only [Act.put, List.setIfInBounds_toArray, List.set_cons_zero, List.set_cons_succ, i64_w, i32_w]; rfl))))
      refine s_oneL rfl (fun K hK => ?_) rfl
      go_wp2_with (go_at_call 24; (with_reducible refine (liv_any (HTb.out.below hS) q HW.out).mono ?_); rintro e w9 ⟨rfl, rfl⟩; rw [HLV.out])
      refine hK _ _ hS ?_
      clear hK
      repeat (first
        | (refine s_pure (v := ?_) (a' := ?_) rfl (fun _ _ _ h => h) rfl ?hy ?ha ?_; (case hy => (intro w_; go_simp; with_reducible rfl)); (case ha => (simp only [Act.put, List.setIfInBounds_toArray, List.set_cons_zero, List.set_cons_succ, i64_w, i32_w]; rfl)))
        | (refine s_held (v := ?_) (a' := ?_) hS rfl (fun _ _ _ h => h) rfl ?hy ?ha ?_; (case hy => (intro w_ hb_; have s0 := pw_cell_below hb_ b0; have s1 := pw_cell_below hb_ b1; have s2 := pw_cell_below hb_ b2; have s3 := pw_cell_below hb_ p0; have s4 := pw_cell_below hb_ p1; have s5 := pw_cell_below hb_ p3; go_simp; with_reducible rfl)); (case ha => (simp only [Act.put, List.setIfInBounds_toArray, List.set_cons_zero, List.set_cons_succ, i64_w, i32_w]; rfl))))
      refine s_oneL rfl (fun K hK => ?_) rfl
      go_wp2_with (go_at_call 30; (with_reducible refine (pend_any (HTb.out.below hS) q HW.out).mono ?_); rintro e w9 ⟨rfl, rfl⟩)
      refine hK _ _ hS ?_
      clear hK
      repeat (first
        | (refine s_pure (v := ?_) (a' := ?_) rfl (fun _ _ _ h => h) rfl ?hy ?ha ?_; (case hy => (intro w_; go_simp; with_reducible rfl)); (case ha => (simp only [Act.put, List.setIfInBounds_toArray, List.set_cons_zero, List.set_cons_succ, i64_w, i32_w]; rfl)))
        | (refine s_held (v := ?_) (a' := ?_) hS rfl (fun _ _ _ h => h) rfl ?hy ?ha ?_; (case hy => (intro w_ hb_; have s0 := pw_cell_below hb_ b0; have s1 := pw_cell_below hb_ b1; have s2 := pw_cell_below hb_ b2; have s3 := pw_cell_below hb_ p0; have s4 := pw_cell_below hb_ p1; have s5 := pw_cell_below hb_ p3; go_simp; with_reducible rfl)); (case ha => (simp only [Act.put, List.setIfInBounds_toArray, List.set_cons_zero, List.set_cons_succ, i64_w, i32_w]; rfl))))
      refine s_oneL rfl (fun K hK => ?_) rfl
      go_wp2_with (go_at_call 31; (with_reducible refine (rpend_any HH.out (HRb.out.below hS) ld q).mono ?_); rintro e wc ⟨rfl, hB⟩)
      have hS2 : Below wb.heap.size wb wc := hS.trans (below_sub hB hS.size)
      clear hB hS
      have hS := hS2
      clear hS2
      refine hK _ _ hS ?_
      clear hK
      repeat (first
        | (refine s_pure (v := ?_) (a' := ?_) rfl (fun _ _ _ h => h) rfl ?hy ?ha ?_; (case hy => (intro w_; go_simp; with_reducible rfl)); (case ha => (simp only [Act.put, List.setIfInBounds_toArray, List.set_cons_zero, List.set_cons_succ, i64_w, i32_w]; rfl)))
        | (refine s_held (v := ?_) (a' := ?_) hS rfl (fun _ _ _ h => h) rfl ?hy ?ha ?_; (case hy => (intro w_ hb_; have s0 := pw_cell_below hb_ b0; have s1 := pw_cell_below hb_ b1; have s2 := pw_cell_below hb_ b2; have s3 := pw_cell_below hb_ p0; have s4 := pw_cell_below hb_ p1; have s5 := pw_cell_below hb_ p3; go_simp; with_reducible rfl)); (case ha => (simp only [Act.put, List.setIfInBounds_toArray, List.set_cons_zero, List.set_cons_succ, i64_w, i32_w]; rfl))))
      refine s_oneL rfl (fun K hK => ?_) rfl
      go_wp2_with (go_at_call 12; (with_reducible refine (children_any (HTb.out.below hS) q HW.out).mono ?_); rintro e wd ⟨A3, n3, q3, L3, rfl, hC3, hq3, hP3, hW3, hB⟩)
      have hS2 : Below wb.heap.size wb wd := hS.trans (below_sub hB hS.size)
      obtain rfl := HKY.out L3 hP3 hW3
      rw [chil_eq] at hC3
      have HC3 := Aside0.mk hC3
      have HQ3 := Aside0.mk hq3
      clear hC3 hq3 hP3 hW3
      clear hB hS
      have hS := hS2
      clear hS2
      refine hK _ _ hS ?_
      clear hK
      repeat (first
        | (refine s_pure (v := ?_) (a' := ?_) rfl (fun _ _ _ h => h) rfl ?hy ?ha ?_; (case hy => (intro w_; go_simp; with_reducible rfl)); (case ha => (simp only [Act.put, List.setIfInBounds_toArray, List.set_cons_zero, List.set_cons_succ, i64_w, i32_w]; rfl)))
        | (refine s_held (v := ?_) (a' := ?_) hS rfl (fun _ _ _ h => h) rfl ?hy ?ha ?_; (case hy => (intro w_ hb_; have s0 := pw_cell_below hb_ b0; have s1 := pw_cell_below hb_ b1; have s2 := pw_cell_below hb_ b2; have s3 := pw_cell_below hb_ p0; have s4 := pw_cell_below hb_ p1; have s5 := pw_cell_below hb_ p3; go_simp; with_reducible rfl)); (case ha => (simp only [Act.put, List.setIfInBounds_toArray, List.set_cons_zero, List.set_cons_succ, i64_w, i32_w]; rfl))))
      refine s_oneL rfl (fun K hK => ?_) rfl
      go_wp2_with (go_at_call 46; (with_reducible refine (rchildren_any HH.out (HRb.out.below hS) ld q).mono ?_); rintro e we ⟨A4, n4, q4, rfl, hC4, hq4, hB⟩)
      have hS2 : Below wb.heap.size wb we := hS.trans (below_sub hB hS.size)
      have HC4 := Aside0.mk hC4
      have HC3b := Aside0.mk (Kd.C_below HC3.out hB)
      have HQ4 := Aside0.mk hq4
      clear hC4 hq4
      clear hB hS
      have hS := hS2
      clear hS2
      refine hK _ _ hS ?_
      clear hK
      repeat (first
        | (refine s_pure (v := ?_) (a' := ?_) rfl (fun _ _ _ h => h) rfl ?hy ?ha ?_; (case hy => (intro w_; go_simp; with_reducible rfl)); (case ha => (simp only [Act.put, List.setIfInBounds_toArray, List.set_cons_zero, List.set_cons_succ, i64_w, i32_w]; rfl)))
        | (refine s_held (v := ?_) (a' := ?_) hS rfl (fun _ _ _ h => h) rfl ?hy ?ha ?_; (case hy => (intro w_ hb_; have s0 := pw_cell_below hb_ b0; have s1 := pw_cell_below hb_ b1; have s2 := pw_cell_below hb_ b2; have s3 := pw_cell_below hb_ p0; have s4 := pw_cell_below hb_ p1; have s5 := pw_cell_below hb_ p3; go_simp; with_reducible rfl)); (case ha => (simp only [Act.put, List.setIfInBounds_toArray, List.set_cons_zero, List.set_cons_succ, i64_w, i32_w]; rfl))))
      refine s_oneL rfl (fun K hK => ?_) rfl
      go_wp2_with (go_at_call 42; (with_reducible refine (sints_any _ (Nat.le_trans (by rw [List.length_map]; exact List.length_filter_le _ _) hfew) _ _ _ _ _ _ _ HC3b.out HQ3.out HC4.out HQ4.out).mono ?_); rintro e wf ⟨rfl, hB⟩)
      have hS2 : Below wb.heap.size wb wf := hS.trans (below_sub hB hS.size)
      clear hB hS
      have hS := hS2
      clear hS2
      refine hK _ _ hS ?_
      clear hK
      repeat (first
        | (refine s_pure (v := ?_) (a' := ?_) rfl (fun _ _ _ h => h) rfl ?hy ?ha ?_; (case hy => (intro w_; go_simp; with_reducible rfl)); (case ha => (simp only [Act.put, List.setIfInBounds_toArray, List.set_cons_zero, List.set_cons_succ, i64_w, i32_w]; rfl)))
        | (refine s_held (v := ?_) (a' := ?_) hS rfl (fun _ _ _ h => h) rfl ?hy ?ha ?_; (case hy => (intro w_ hb_; have s0 := pw_cell_below hb_ b0; have s1 := pw_cell_below hb_ b1; have s2 := pw_cell_below hb_ b2; have s3 := pw_cell_below hb_ p0; have s4 := pw_cell_below hb_ p1; have s5 := pw_cell_below hb_ p3; go_simp; with_reducible rfl)); (case ha => (simp only [Act.put, List.setIfInBounds_toArray, List.set_cons_zero, List.set_cons_succ, i64_w, i32_w]; rfl))))
      refine s_oneL rfl (fun K hK => ?_) rfl
      go_wp2_with (go_at_call 28; (with_reducible refine (child_any (HTb.out.below hS) r.par q HW.out HWP.out).mono ?_); rintro e w9 ⟨rfl, rfl⟩)
      refine hK _ _ hS ?_
      clear hK
      repeat (first
        | (refine s_pure (v := ?_) (a' := ?_) rfl (fun _ _ _ h => h) rfl ?hy ?ha ?_; (case hy => (intro w_; go_simp; with_reducible rfl)); (case ha => (simp only [Act.put, List.setIfInBounds_toArray, List.set_cons_zero, List.set_cons_succ, i64_w, i32_w]; rfl)))
        | (refine s_held (v := ?_) (a' := ?_) hS rfl (fun _ _ _ h => h) rfl ?hy ?ha ?_; (case hy => (intro w_ hb_; have s0 := pw_cell_below hb_ b0; have s1 := pw_cell_below hb_ b1; have s2 := pw_cell_below hb_ b2; have s3 := pw_cell_below hb_ p0; have s4 := pw_cell_below hb_ p1; have s5 := pw_cell_below hb_ p3; go_simp; with_reducible rfl)); (case ha => (simp only [Act.put, List.setIfInBounds_toArray, List.set_cons_zero, List.set_cons_succ, i64_w, i32_w]; rfl))))
      refine s_oneL rfl (fun K hK => ?_) rfl
      go_wp2_with (go_at_call 29; (with_reducible refine (rchild_any HH.out (HRb.out.below hS) ld r.par q).mono ?_); rintro e wg ⟨rfl, hB⟩)
      have hS2 : Below wb.heap.size wb wg := hS.trans (below_sub hB hS.size)
      clear hB hS
      have hS := hS2
      clear hS2
      refine hK _ _ hS ?_
      clear hK
      repeat (first
        | (refine s_pure (v := ?_) (a' := ?_) rfl (fun _ _ _ h => h) rfl ?hy ?ha ?_; (case hy => (intro w_; go_simp; with_reducible rfl)); (case ha => (simp only [Act.put, List.setIfInBounds_toArray, List.set_cons_zero, List.set_cons_succ, i64_w, i32_w]; rfl)))
        | (refine s_held (v := ?_) (a' := ?_) hS rfl (fun _ _ _ h => h) rfl ?hy ?ha ?_; (case hy => (intro w_ hb_; have s0 := pw_cell_below hb_ b0; have s1 := pw_cell_below hb_ b1; have s2 := pw_cell_below hb_ b2; have s3 := pw_cell_below hb_ p0; have s4 := pw_cell_below hb_ p1; have s5 := pw_cell_below hb_ p3; go_simp; with_reducible rfl)); (case ha => (simp only [Act.put, List.setIfInBounds_toArray, List.set_cons_zero, List.set_cons_succ, i64_w, i32_w]; rfl))))
      refine s_tailL _ (by kernel_rfl) ?_
      simp only [opsAt, List.filterMap_nil]
      clear b0 b1 b2 p0 p1 p3
      have HBg := Aside0.mk hS
      clear hS
      go_wp2
      go_loopw [7] (fun v7 wz => ∃ s : Nat, s ≤ 33 ∧ v7 = .int .i64 (s : Int) ∧ Aside0 (Below wb.heap.size wb wz)) (fun v7 _ => 33 - (intOf v7).toNat)
      case atStart => exact ⟨0, Nat.zero_le _, rfl, HBg⟩
      case round =>
        clear HBg
        obtain ⟨s, hs, rfl, HBs⟩ := hrel
        by_cases hs33 : s < 33
        · have hs0 : (0 : Int) ≤ (s : Int) := by omega
          have hs1 : (s : Int) ≤ 32 := by omega
          go_upto_region 11 with (fail)
          have p0 : wr.cell? ⟨gp, 0, none⟩ = some (.int .i64 q) := (blk_cell (blk_below HGB.out HBs.out) 0).trans rfl
          have b0 : wr.cell? ⟨w.heap.size, 0, none⟩ = some (.slice (some ad) k c) := (blk_cell (blk_below HG3.out (HBb.out.trans (below_sub HBs.out HBb.out.size))) 0).trans rfl
          have b1 : wr.cell? ⟨w.heap.size, 1, none⟩ = some (.int .i64 ld) := (blk_cell (blk_below HG3.out (HBb.out.trans (below_sub HBs.out HBb.out.size))) 1).trans rfl
          have b2 : wr.cell? ⟨w.heap.size, 2, none⟩ = some (.slice E j d) := (blk_cell (blk_below HG3.out (HBb.out.trans (below_sub HBs.out HBb.out.size))) 2).trans rfl
          have HTs := Aside0.mk (HTb.out.below HBs.out)
          have HRs := Aside0.mk (HRb.out.below HBs.out)
          refine region_seq (fun w_ => Below wr.heap.size wr w_) []
            [(0, some 86, .pure), (1, some 87, .pure), (3, some 89, .pure), (6, some 92, .pure), (8, some 94, .pure), (2, some 88, .held), (5, some 91, .held), (7, some 93, .held), (4, some 90, .one), (9, some 95, .one), (10, some 96, .pure)] (by kernel_rfl) (by kernel_rfl) ?_
          have hS := below_drew (Below.refl wr.heap.size wr)
          repeat (first
            | (refine s_pure (v := ?_) (a' := ?_) rfl (fun _ _ _ h => h) rfl ?hy ?ha ?_; (case hy => (intro w_; go_simp; with_reducible rfl)); (case ha => (simp only [Act.put, List.setIfInBounds_toArray, List.set_cons_zero, List.set_cons_succ, i64_w, i32_w]; rfl)))
            | (refine s_held (v := ?_) (a' := ?_) hS rfl (fun _ _ _ h => h) rfl ?hy ?ha ?_; (case hy => (intro w_ hb_; have s0 := pw_cell_below hb_ b0; have s1 := pw_cell_below hb_ b1; have s2 := pw_cell_below hb_ b2; have s3 := pw_cell_below hb_ p0; go_simp; with_reducible rfl)); (case ha => (simp only [Act.put, List.setIfInBounds_toArray, List.set_cons_zero, List.set_cons_succ, i64_w, i32_w]; rfl))))
          refine s_oneL rfl (fun K hK => ?_) rfl
          go_wp2_with (go_at_call 26; (with_reducible refine (how_any (HTs.out.below hS) q s HW.out).mono ?_); rintro e wh ⟨rfl, hB⟩)
          have hS2 : Below wr.heap.size wr wh := hS.trans (below_sub hB hS.size)
          clear hB hS
          have hS := hS2
          clear hS2
          refine hK _ _ hS ?_
          clear hK
          repeat (first
            | (refine s_pure (v := ?_) (a' := ?_) rfl (fun _ _ _ h => h) rfl ?hy ?ha ?_; (case hy => (intro w_; go_simp; with_reducible rfl)); (case ha => (simp only [Act.put, List.setIfInBounds_toArray, List.set_cons_zero, List.set_cons_succ, i64_w, i32_w]; rfl)))
            | (refine s_held (v := ?_) (a' := ?_) hS rfl (fun _ _ _ h => h) rfl ?hy ?ha ?_; (case hy => (intro w_ hb_; have s0 := pw_cell_below hb_ b0; have s1 := pw_cell_below hb_ b1; have s2 := pw_cell_below hb_ b2; have s3 := pw_cell_below hb_ p0; go_simp; with_reducible rfl)); (case ha => (simp only [Act.put, List.setIfInBounds_toArray, List.set_cons_zero, List.set_cons_succ, i64_w, i32_w]; rfl))))
          refine s_oneL rfl (fun K hK => ?_) rfl
          go_wp2_with (go_at_call 27; (with_reducible refine (rhow_any HH.out (HRs.out.below hS) ld q s HSET.out).mono ?_); rintro e wi ⟨rfl, hB⟩)
          have hS2 : Below wr.heap.size wr wi := hS.trans (below_sub hB hS.size)
          clear hB hS
          have hS := hS2
          clear hS2
          refine hK _ _ hS ?_
          clear hK
          repeat (first
            | (refine s_pure (v := ?_) (a' := ?_) rfl (fun _ _ _ h => h) rfl ?hy ?ha ?_; (case hy => (intro w_; go_simp; with_reducible rfl)); (case ha => (simp only [Act.put, List.setIfInBounds_toArray, List.set_cons_zero, List.set_cons_succ, i64_w, i32_w]; rfl)))
            | (refine s_held (v := ?_) (a' := ?_) hS rfl (fun _ _ _ h => h) rfl ?hy ?ha ?_; (case hy => (intro w_ hb_; have s0 := pw_cell_below hb_ b0; have s1 := pw_cell_below hb_ b1; have s2 := pw_cell_below hb_ b2; have s3 := pw_cell_below hb_ p0; go_simp; with_reducible rfl)); (case ha => (simp only [Act.put, List.setIfInBounds_toArray, List.set_cons_zero, List.set_cons_succ, i64_w, i32_w]; rfl))))
          refine s_tailL _ (by kernel_rfl) ?_
          simp only [opsAt, List.filterMap_nil]
          clear b0 b1 b2 p0
          have HBi := Aside0.mk (HBs.out.trans (below_sub hS HBs.out.size))
          clear hS
          go_wp2
          go_roundw
          case measure => simp [intOf]; omega
          case rel => exact ⟨s + 1, by omega, by go_num, HBi⟩
        · obtain rfl : s = 33 := by omega
          go_wp2
          go_roundw
          case measure => simp [intOf]; omega
          case rel => exact ⟨i + 1, by omega, by go_num, Aside0.mk (HBb.out.trans (below_sub HBs.out HBb.out.size))⟩
    · obtain rfl : i = k := by omega
      go_wp2
      go_ret
      exact ⟨rfl, HB.out.trans (below_sub HBr.out HB.out.size)⟩
end
end Go.Proofs.YtbgodajbdbgdfaaDoor.Kern
