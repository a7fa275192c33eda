/- FrameRuns: the document's Return: its contract over rows of items by their words. -/
import Derived.Test.YtkepmbkghmkodaaRunCon
namespace Go.Proofs.Ytkepmbkghmkodaa.Frame
open Go.RowKit Go.Proofs.YtkepmbkghmkodaaW.PrintWords Go.Proofs.YtkepmbkghmkodaaW.PrintLast Go.Proofs.Ytkepmbkghmkodaa.Base Go.Proofs.Ytkepmbkghmkodaa.Seq Go.Proofs.Ytkepmbkghmkodaa.Q
set_option linter.unusedVariables false
set_option linter.unusedSimpArgs false
def RetOut (w w' : World) (e : Ending) (b : Bool) (l : List It) (x : It) : Prop := ∃ A n c, e = .returned (.tuple #[.slice A n c, .agg #[Value.int .i64 x.kind, .int .i64 x.nk, .string x.nname, .bool x.ngiven, .slice x.s1.a x.s1.n x.s1.c, .slice x.s2.a x.s2.n x.s2.c, .slice x.s3.a x.s3.n x.s3.c, .slice x.s4.a x.s4.n x.s4.c, .slice x.s5.a x.s5.n x.s5.c, .int .i64 x.at_, .int .i64 x.status, .bool x.free, .slice x.s6.a x.s6.n x.s6.c, .slice x.s7.a x.s7.n x.s7.c], .bool b]) ∧ kIt.R 74 w' 0 ok0 (.slice A n c) l ∧ Below w.heap.size w w'
theorem ret_none {r : List It} (h : cut isBack r 0 = none) : retB r = false ∧ retX r = default ∧ retR r = r := by
  unfold retB retX retR
  rw [h]
  exact ⟨rfl, rfl, rfl⟩
theorem ret_some {r r' : List It} {x : It} (h : cut isBack r 0 = some (x, r')) : retB r = true ∧ retX r = x ∧ retR r = r' := by
  unfold retB retX retR
  rw [h]
  exact ⟨rfl, rfl, rfl⟩
theorem cut_cons (x : It) (r : List It) : cut isBack (x :: r) 0 = if isBack x.kind = true then some (x, r) else if isWall x.kind = true then none else cut isBack r 0 := rfl
section
variable {ops : Array Oper} {rest : List Oper} {o : Oper} {a : Act} {Q : Exit → Act → World → Prop}
theorem it_put74o {W : World} (hgd : o.guard = none) (p y : Tmp) (ho : o.op = .store 74 (.tmp p) (.tmp y)) (g : Nat) (cs : Array Value) (Y : It) (hcs : cs.size = 14) (hx : a.eval (.tmp p) = .pointer (some ⟨g, 0, none⟩)) (hy : a.eval (.tmp y) = .agg #[Value.int .i64 Y.kind, .int .i64 Y.nk, .string Y.nname, .bool Y.ngiven, .slice Y.s1.a Y.s1.n Y.s1.c, .slice Y.s2.a Y.s2.n Y.s2.c, .slice Y.s3.a Y.s3.n Y.s3.c, .slice Y.s4.a Y.s4.n Y.s4.c, .slice Y.s5.a Y.s5.n Y.s5.c, .int .i64 Y.at_, .int .i64 Y.status, .bool Y.free, .slice Y.s6.a Y.s6.n Y.s6.c, .slice Y.s7.a Y.s7.n Y.s7.c])
    (hg : W.heap[g]? = some (.cells cs 74 (0, 0)))
    (h : ∀ w1, w1.heap[g]? = some (.cells #[Value.int .i64 Y.kind, .int .i64 Y.nk, .string Y.nname, .bool Y.ngiven, .slice Y.s1.a Y.s1.n Y.s1.c, .slice Y.s2.a Y.s2.n Y.s2.c, .slice Y.s3.a Y.s3.n Y.s3.c, .slice Y.s4.a Y.s4.n Y.s4.c, .slice Y.s5.a Y.s5.n Y.s5.c, .int .i64 Y.at_, .int .i64 Y.status, .bool Y.free, .slice Y.s6.a Y.s6.n Y.s6.c, .slice Y.s7.a Y.s7.n Y.s7.c] 74 (0, 0)) → (∀ B, B ≤ g → Below B W w1) → (∀ k, k ≠ g → w1.heap[k]? = W.heap[k]?) → wpList Try.prog ops Q rest (a.put o.dst undef) w1) : wpList Try.prog ops Q (o :: rest) a W := by
  refine wpList_store_row hgd 74 (.tmp p) (.tmp y) ho g #[Value.int .i64 Y.kind, .int .i64 Y.nk, .string Y.nname, .bool Y.ngiven, .slice Y.s1.a Y.s1.n Y.s1.c, .slice Y.s2.a Y.s2.n Y.s2.c, .slice Y.s3.a Y.s3.n Y.s3.c, .slice Y.s4.a Y.s4.n Y.s4.c, .slice Y.s5.a Y.s5.n Y.s5.c, .int .i64 Y.at_, .int .i64 Y.status, .bool Y.free, .slice Y.s6.a Y.s6.n Y.s6.c, .slice Y.s7.a Y.s7.n Y.s7.c] hx hy 74 cs hg (by kernel_rfl) hcs (by rw [Array.all_eq_true_iff_forall_mem]; exact fun v hv => It.cells_one Y v (by simpa [It.cells] using hv)) ?_
  exact h _ (setRow_heap _ _ _ _ _ _ hg) (fun B hB => below_setRow (Below.refl _ _) hB _) (fun k hk => setRow_other _ _ _ _ hk)
end
set_option maxHeartbeats 8000000 in
set_option maxRecDepth 100000 in
theorem rret (xs : List It) (A : Option Addr) (n c : Nat) (z : It) (w : World) (hrr : kIt.R 74 w 0 ok0 (.slice A n c) xs) (hl : xs.length ≤ 1000000) (hz : z = retX xs.reverse) :
    Calls Try.prog 40 #[.slice A n c] w fun e w' => RetOut w w' e (retB xs.reverse) (retR xs.reverse).reverse z := by
  have HRR := Aside0.mk hrr
  obtain ⟨hnn, hc, h⟩ := Kd.R_reads' hrr
  rw [← hnn] at h
  clear hrr hnn
  have hn : xs.length = n := h.1
  have HC0 := Aside0.mk h
  have HCC := Aside0.mk hc
  have HZ := Aside0.mk hz
  have HA := Aside0.mk (blk_new w (.cells #[Value.int .i64 0, .int .i64 0, .string ⟨#[]⟩, .bool false, .slice none 0 0, .slice none 0 0, .slice none 0 0, .slice none 0 0, .slice none 0 0, .int .i64 0, .int .i64 0, .bool false, .slice none 0 0, .slice none 0 0] 74))
  have HBA := Aside0.mk (below_alloc (Below.refl w.heap.size w) (.cells #[Value.int .i64 0, .int .i64 0, .string ⟨#[]⟩, .bool false, .slice none 0 0, .slice none 0 0, .slice none 0 0, .slice none 0 0, .slice none 0 0, .int .i64 0, .int .i64 0, .bool false, .slice none 0 0, .slice none 0 0] 74))
  have hlt := (show w.heap.size < (w.alloc (.cells #[Value.int .i64 0, .int .i64 0, .string ⟨#[]⟩, .bool false, .slice none 0 0, .slice none 0 0, .slice none 0 0, .slice none 0 0, .slice none 0 0, .int .i64 0, .int .i64 0, .bool false, .slice none 0 0, .slice none 0 0] 74)).heap.size by simp)
  clear h hz
  have hw0 : wrap64 ((n : Int) - 1) = (n : Int) - 1 := by unfold wrap64; omega
  go_enter Try.func40, Try.ntmps40
  go_upto_region 1 with (fail)
  generalize w.alloc (.cells #[Value.int .i64 0, .int .i64 0, .string ⟨#[]⟩, .bool false, .slice none 0 0, .slice none 0 0, .slice none 0 0, .slice none 0 0, .slice none 0 0, .int .i64 0, .int .i64 0, .bool false, .slice none 0 0, .slice none 0 0] 74) = wa at *
  have HC := Aside0.mk (Kd.C_below HC0.out HBA.out)
  go_wp2
  clear hw0
  go_loopw [5] (fun v5 w' => ∃ k : Nat, k ≤ xs.length ∧ v5 = .int .i64 ((k : Int) - 1) ∧ Aside0 (cut isBack xs.reverse 0 = cut isBack (xs.take k).reverse 0) ∧ Aside0 (Below wa.heap.size wa w')) (fun v5 _ => (intOf v5 + 1).toNat)
  case atStart => exact ⟨xs.length, Nat.le_refl _, by rw [hn], ⟨by rw [List.take_length]⟩, ⟨Below.refl _ _⟩⟩
  case round =>
    obtain ⟨k, hk, rfl, HF, HB⟩ := hrel
    rcases k with _ | j
    · have ht : decide ((0 : Int) ≤ ((0 : Nat) : Int) - 1) = false := rfl
      have HG := Aside0.mk (blk_below HA.out HB.out)
      go_wp2_with (first
        | ((with_reducible refine gate_storeT 74 3 45 rfl ?_); go_loud (refine it_put74 rfl 3 45 rfl w.heap.size _ default rfl rfl rfl HG.out ?_); intro wz hg hbx; have HX := Aside0.mk hg; have HBZ := Aside0.mk (below_trans (below_trans HBA.out (below_sub HB.out HBA.out.size)) (hbx _ (Nat.le_refl _))); clear hbx hg))
      ((try simp only [Exit.inBlock, Exit.then]); refine bodyPost_ret (results_list (rs := [.tmp 2, .cell 3 74, .tmp 4]) rfl (by simp) (.tmp (.cell _ 74 _ (0, 0) _ rfl HX.out Try.underlying74 rfl (by kernel_rfl) (.tmp .nil)))) rfl ?_)
      obtain ⟨e1, e2, e3⟩ := ret_none HF.out
      rw [e1, e3, List.reverse_reverse]
      obtain rfl : z = default := HZ.out.trans e2
      exact ⟨A, n, c, rfl, Kd.R_below HRR.out HBZ.out, HBZ.out⟩
    · have ej : ((j + 1 : Nat) : Int) - 1 = (j : Int) := by omega
      rw [ej]
      have hjl : j < xs.length := hk
      have hi0 : (0 : Int) ≤ (j : Int) := by omega
      have hi1 : (j : Int) < (n : Int) := by omega
      have hi2 : (j : Int) ≤ (c : Int) := by omega
      obtain ⟨ad, rfl, hx⟩ := at_it HC.out j hjl
      have HT := Aside0.mk (show kIt.C wa (some ad) j (xs.take j) from C_part HC.out (by omega))
      rw [take_rev hjl, cut_cons] at HF
      have hjl2 : j ≤ 1000000 := by omega
      generalize xs[j] = x at *
      have HX0 := Aside0.mk hx
      clear hx ej
      have k0 := (Cells_below HX0.out HB.out).1
      by_cases h9 : x.kind = 9
      · have HF2 := Aside0.mk (show cut isBack xs.reverse 0 = some (x, (xs.take j).reverse) by rw [HF.out, if_pos (by unfold isBack; rw [h9]; rfl)])
        have hwl := Aside0.mk (show isWall x.kind = true by rw [h9]; rfl)
        have q1 : (x.kind == 9) = true := beq_iff_eq.2 h9
        have q2 : (x.kind != 9) = false := by unfold bne; rw [q1]; rfl
        clear h9
        go_upto_region 7 with (go_at_call 89; (with_reducible refine (deadfallref15_wall.calls _ true _ ((wall_f x.kind).trans (congrArg some hwl.out))).mono ?_); rintro e w1 ⟨rfl, hB0⟩; have hB := hB0.below; have n0 := Aside0.mk (below_trans HB.out (below_sub hB HB.out.size)); have k0 := (Cells_below HX0.out n0.out).1; clear hB hB0)
        clear q1 q2 k0
        obtain ⟨k0, k1, k2, k3, k4, k5, k6, k7, k8, k9, k10, k11, k12, k13⟩ := Cells_below HX0.out n0.out
        have HG1 := Aside0.mk (blk_below HA.out n0.out)
        have HT1 := Aside0.mk (Kd.C_below HT.out n0.out)
        have HBW := Aside0.mk (below_trans HBA.out (below_sub n0.out HBA.out.size))
        have hlt1 : w.heap.size < w1.heap.size := blk_lt HG1.out
        refine region_seq (fun w_ => Below w1.heap.size w1 w_) [10, 11]
          [(1, some 36, .pure), (2, some 37, .pure), (3, some 38, .pure), (5, some 40, .pure), (6, some 41, .pure), (7, some 42, .pure), (8, some 43, .held), (0, some 35, .one), (4, some 39, .one), (9, some 2, .pure), (10, none, .last), (11, some 4, .last)] (by kernel_rfl) (by kernel_rfl) ?_
        have hS := below_drew (Below.refl w1.heap.size w1)
        repeat (first
          | (refine s_pure (v := ?_) (a' := ?_) rfl (fun _ _ _ h => h) rfl ?hy ?ha ?_; (case hy => (intro w_; go_simp; with_reducible rfl)); (case ha => (simp only [Act.put, List.setIfInBounds_toArray, List.set_cons_zero, List.set_cons_succ, i64_w, i32_w]; rfl)))
          | (refine s_held (v := ?_) (a' := ?_) hS rfl (fun _ _ _ h => h) rfl ?hy ?ha ?_; (case hy => (intro w_ hb_; have s0 := pw_cell_below hb_ k0; have s1 := pw_cell_below hb_ k1; have s2 := pw_cell_below hb_ k2; have s3 := pw_cell_below hb_ k3; have s4 := pw_cell_below hb_ k4; have s5 := pw_cell_below hb_ k5; have s6 := pw_cell_below hb_ k6; have s7 := pw_cell_below hb_ k7; have s8 := pw_cell_below hb_ k8; have s9 := pw_cell_below hb_ k9; have s10 := pw_cell_below hb_ k10; have s11 := pw_cell_below hb_ k11; have s12 := pw_cell_below hb_ k12; have s13 := pw_cell_below hb_ k13; go_simp; with_reducible rfl)); (case ha => (simp only [Act.put, List.setIfInBounds_toArray, List.set_cons_zero, List.set_cons_succ, i64_w, i32_w]; rfl))))
        clear k0 k1 k2 k3 k4 k5 k6 k7 k8 k9 k10 k11 k12 k13
        (refine s_new (v := ?_) (w1 := ?_) (a' := ?_) rfl rfl rfl ?hy ?ha ?hS ?_; (case hy => (go_simp; first | with_reducible rfl | (refine ⟨?_, ?_⟩ <;> with_reducible rfl))); (case ha => (simp only [Act.put, List.setIfInBounds_toArray, List.set_cons_zero, List.set_cons_succ, i64_w, i32_w]; rfl)); (case hS => (repeat (first | exact hS | exact Below.refl _ _ | refine below_drew ?_ | refine below_alloc ?_ _))))
        have HE := Aside0.mk (show kIt.R 74 (w1.alloc (.cells #[] 74)).drew w1.heap.size ok0 (.slice (some ⟨w1.heap.size, 0, none⟩) 0 0) [] from R_empty (blk_new w1 _) (Nat.le_refl _))
        have hS1 := below_drew (below_alloc (Below.refl w1.heap.size w1) (.cells #[] 74))
        clear hS
        have hS := hS1
        clear hS1
        generalize (w1.alloc (.cells #[] 74)).drew = wu at *
        refine s_oneL rfl (fun K hK => ?_) rfl
        go_wp2_with ((with_reducible refine gate_dst (N := 39) rfl ?_)
                     go_loud (refine app_it w1.heap.size (N := 39) (w0 := w1) (W := wu) rfl rfl (.tmp 35) (.tmp 38) rfl (.slice (some ⟨w1.heap.size, 0, none⟩) 0 0) [] (xs.take j) (some ad) j c rfl rfl HE.out (Kd.C_below HT1.out hS) hS hS.size (by simp; omega) ?_)
                     intro A1 n1 cp1 w5 hR hB hG
                     have HR8 := Aside0.mk hR
                     have HS5 := Aside0.mk hB
                     clear hR hB hG)
        refine hK _ _ HS5.out ?_
        clear hK hS
        have hS := HS5.out
        repeat (first
          | (refine s_pure (v := ?_) (a' := ?_) rfl (fun _ _ _ h => h) rfl ?hy ?ha ?_; (case hy => (intro w_; go_simp; with_reducible rfl)); (case ha => (simp only [Act.put, List.setIfInBounds_toArray, List.set_cons_zero, List.set_cons_succ, i64_w, i32_w]; rfl)))
          | (refine s_held (v := ?_) (a' := ?_) hS rfl (fun _ _ _ h => h) rfl ?hy ?ha ?_; (case hy => (intro w_ hb_; go_simp; with_reducible rfl)); (case ha => (simp only [Act.put, List.setIfInBounds_toArray, List.set_cons_zero, List.set_cons_succ, i64_w, i32_w]; rfl))))
        refine s_tail 10 _ (by kernel_rfl) ?_
        simp only [List.drop_succ_cons, List.drop_zero]
        have HG5 := Aside0.mk (blk_below HG1.out HS5.out)
        clear hS
        go_wp2_with (first
          | ((with_reducible refine gate_storeT 74 3 43 rfl ?_); go_loud (refine it_put74o rfl 3 43 rfl w.heap.size _ x rfl rfl rfl HG5.out ?_); intro wz hg hbx hoth; have HX := Aside0.mk hg; have HR9 := Aside0.mk (Kd.R_lower (base' := 0) (Kd.R_mono (ok' := ok0) (Kd.R_step (Kd.R_bound HR8.out) (fun q ho _ => hoth q (by have := ho.2.1; omega))) (fun _ _ => trivial)) (Nat.zero_le _)); have HBZ := Aside0.mk (below_trans (below_trans HBW.out (below_sub HS5.out HBW.out.size)) (hbx _ (Nat.le_refl _))); clear hbx hg hoth))
        ((try simp only [Exit.inBlock, Exit.then]); refine bodyPost_ret (results_list (rs := [.tmp 2, .cell 3 74, .tmp 4]) rfl (by simp) (.tmp (.cell _ 74 _ (0, 0) _ rfl HX.out Try.underlying74 rfl (by kernel_rfl) (.tmp .nil)))) rfl ?_)
        obtain ⟨e1, e2, e3⟩ := ret_some HF2.out
        rw [e1, e3, List.reverse_reverse]
        obtain rfl : z = x := HZ.out.trans e2
        exact ⟨A1, n1, cp1, rfl, HR9.out, HBZ.out⟩
      · have q1 : (x.kind == 9) = false := beq_eq_false_iff_ne.2 h9
        have q2 : (x.kind != 9) = true := by unfold bne; rw [q1]; rfl
        have hbk : isBack x.kind = false := q1
        cases hwl0 : isWall x.kind with
        | true =>
          have hwl := Aside0.mk hwl0
          have HF2 := Aside0.mk (show cut isBack xs.reverse 0 = none by rw [HF.out, if_neg (by rw [hbk]; decide), if_pos hwl0])
          clear h9 hbk hwl0
          go_wp2_with (first
            | (go_at_call 89; (with_reducible refine (deadfallref15_wall.calls _ true _ ((wall_f x.kind).trans (congrArg some hwl.out))).mono ?_); rintro e w1 ⟨rfl, hB0⟩; have hB := hB0.below; have n0 := Aside0.mk (below_trans HB.out (below_sub hB HB.out.size)); have k0 := (Cells_below HX0.out n0.out).1; have HG := Aside0.mk (blk_below HA.out n0.out); clear hB hB0)
            | ((with_reducible refine gate_storeT 74 3 28 rfl ?_); go_loud (refine it_put74 rfl 3 28 rfl w.heap.size _ default rfl rfl rfl HG.out ?_); intro wz hg hbx; have HX := Aside0.mk hg; have HBZ := Aside0.mk (below_trans (below_trans HBA.out (below_sub n0.out HBA.out.size)) (hbx _ (Nat.le_refl _))); clear hbx hg k0))
          ((try simp only [Exit.inBlock, Exit.then]); refine bodyPost_ret (results_list (rs := [.tmp 2, .cell 3 74, .tmp 4]) rfl (by simp) (.tmp (.cell _ 74 _ (0, 0) _ rfl HX.out Try.underlying74 rfl (by kernel_rfl) (.tmp .nil)))) rfl ?_)
          obtain ⟨e1, e2, e3⟩ := ret_none HF2.out
          rw [e1, e3, List.reverse_reverse]
          obtain rfl : z = default := HZ.out.trans e2
          exact ⟨some ad, n, c, rfl, Kd.R_below HRR.out HBZ.out, HBZ.out⟩
        | false =>
          have hwl := Aside0.mk hwl0
          have HF2 := Aside0.mk (show cut isBack xs.reverse 0 = cut isBack (xs.take j).reverse 0 by rw [HF.out, if_neg (by rw [hbk]; decide), if_neg (by rw [hwl0]; decide)])
          clear h9 hbk hwl0
          go_wp2_with (first
            | (go_at_call 89; (with_reducible refine (deadfallref15_wall.calls _ false _ ((wall_f x.kind).trans (congrArg some hwl.out))).mono ?_); rintro e w1 ⟨rfl, hB0⟩; have hB := hB0.below; have n0 := Aside0.mk (below_trans HB.out (below_sub hB HB.out.size)); have k0 := (Cells_below HX0.out n0.out).1; clear hB hB0))
          go_roundw
          case measure => simp [intOf]
          case rel => exact ⟨j, by omega, by go_num, HF2, n0⟩
end Go.Proofs.Ytkepmbkghmkodaa.Frame
