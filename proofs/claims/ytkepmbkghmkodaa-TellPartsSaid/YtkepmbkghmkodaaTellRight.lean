/- tell: Right: its contract. -/
import Derived.Test.YtkepmbkghmkodaaTellCount
namespace Go.Proofs.Ytkepmbkghmkodaa.Tell
open Go.RowKit Go.Proofs.YtkepmbkghmkodaaW.PrintWords Go.Proofs.YtkepmbkghmkodaaW.PrintLast Go.Proofs.Ytkepmbkghmkodaa.Base Go.Proofs.Ytkepmbkghmkodaa.Seq Go.Proofs.Ytkepmbkghmkodaa.MapSum Go.Maps
set_option linter.unusedVariables false
set_option linter.unusedSimpArgs false
/-- Is an event out of its turn? (The last one ahead first.) -/
def bad (R : List Evt) (e : Evt) : Bool := (decide (e.k < 1) || decide (5 < e.k)) || ((match R with
  | [] => false
  | q :: _ => decide (e.a < q.a)) || (st R e.p e.s == (e.k == 1)))
def rgt : List Evt → List Evt → Bool
  | _, [] => true
  | R, e :: l => if bad R e = true then false else rgt (e :: R) l
theorem rgt_go {R l : List Evt} {e : Evt} (h : bad R e = false) : rgt R (e :: l) = rgt (e :: R) l := by
  show (if bad R e = true then false else rgt (e :: R) l) = _
  rw [if_neg (by rw [h]; decide)]
theorem rgt_stop {R l : List Evt} {e : Evt} (h : bad R e = true) : rgt R (e :: l) = false := by
  show (if bad R e = true then false else rgt (e :: R) l) = _
  rw [if_pos h]
theorem zeroB (w : World) : (zeroValue 4).run Try.prog w = .ok (.bool false) w := by kernel_rfl
theorem look_bool {w : World} {m n : Nat} {R : List Evt} (h : w.ownsMap Try.prog 100 (plainElem Try.prog 4) m n (DD ky R 0)) (hR : ∀ x ∈ R, W64 x.p ∧ W64 x.s) (p s : Int) (hp : W64 p) (hs : W64 s) :
    (Instr.lookup 96 (.map (some m)) (.agg #[.int .i64 p, .int .i64 s]) false).run Try.prog w = .ok (.bool (st R p s)) w := by
  obtain ⟨v, ps, hrun, hv⟩ := h.lookup keyTh Try.underlying96 (zeroB w) (plainElem_bool (H := Unit) Try.underlying4 false) (key_thread p s hp hs)
  have hat := DD_at W64 ky ky_lit ky_inj R 0 ⟨0, 0, p, s⟩ hR hp hs rfl
  rw [show (DD ky R 0).atKey (.string (keyBytes [.int .i64 p, .int .i64 s])) (.lit (.bool false)) = .lit (.bool (st R p s)) from hat] at hv
  obtain ⟨x, rfl, e⟩ := bool_inv hv
  simp only [Prod.mk.injEq, DataW.lit.injEq, Lit.bool.injEq] at e
  rw [hrun, e.1]
theorem last_rev (l : List Evt) (k : Nat) (h : k < l.length) (h0 : 0 < k) : ∃ r, (l.take k).reverse = l[k - 1]'(by omega) :: r := by
  obtain ⟨j, rfl⟩ : ∃ j, k = j + 1 := ⟨k - 1, by omega⟩
  exact ⟨_, rev_succ l j (by omega)⟩
set_option maxHeartbeats 8000000 in
set_option maxRecDepth 100000 in
theorem right_any (A : Option Addr) (n c : Nat) (l : List Evt) (w : World) (hr : kEv.C w A n l) (hW : ∀ e ∈ l, W64 e.p ∧ W64 e.s) (hl : l.length ≤ 1000) :
    Calls Try.prog 71 #[.slice A n c] w fun r w' => r = .returned (.bool (rgt [] l)) ∧ Below w.heap.size w w' := by
  obtain rfl := hr.1
  have HR := Aside0.mk hr
  have HW := Aside0.mk hW
  have hmm := @run_makeMap Try.prog
  have HM0 := Aside0.mk (World.ownsMap_made (H := Unit) w Try.prog 100 (plainElem Try.prog 4))
  have HB0 := Aside0.mk (below_alloc (Below.refl w.heap.size w) (.map #[] 0))
  clear hr hW
  go_enter Try.func71, Try.ntmps71
  go_wp2
  generalize w.alloc (.map #[] 0) = w4 at *
  go_loopw [9] (fun v9 wr => ∃ k : Nat, k ≤ l.length ∧ v9 = .int .i64 (k : Int) ∧ Aside0 (wr.ownsMap Try.prog 100 (plainElem Try.prog 4) w.heap.size k (DD ky (l.take k).reverse 0)) ∧ Aside0 (Below w.heap.size w wr) ∧ Aside0 (rgt [] l = rgt (l.take k).reverse (l.drop k))) (fun v9 _ => l.length - (intOf v9).toNat)
  case atStart => exact ⟨0, Nat.zero_le _, rfl, HM0, HB0, ⟨rfl⟩⟩
  case round =>
    clear HM0 HB0
    obtain ⟨k, hk, rfl, HM, HB, HEQ⟩ := hrel
    by_cases hlt : k < l.length
    · obtain ⟨ad, rfl, h0, h1, h2, h3⟩ := at_ev HR.out k hlt
      replace h0 := pw_cell_below HB.out h0
      replace h1 := pw_cell_below HB.out h1
      replace h2 := pw_cell_below HB.out h2
      replace h3 := pw_cell_below HB.out h3
      have HRS := Aside0.mk (rev_succ l k hlt)
      have HDR := Aside0.mk (List.drop_eq_getElem_cons hlt)
      have HWE := Aside0.mk (HW.out l[k] (List.getElem_mem hlt))
      have HKN := Aside0.mk (show k < 1000000 by omega)
      have HWR := Aside0.mk (show ∀ x ∈ (l.take k).reverse, W64 x.p ∧ W64 x.s from fun x hx => HW.out x (List.mem_of_mem_take (List.mem_reverse.1 hx)))
      generalize hle : l[k] = e at *
      have HLE := Aside0.mk hle
      clear hle
      obtain ⟨kk, a, p, s⟩ := e
      simp only at h0 h1 h2 h3 HWE
      have hi0 : (0 : Int) ≤ (k : Int) := by omega
      have hi1 : (k : Int) < (l.length : Int) := by omega
      have HBL := Aside0.mk (blk_new wr (.cells (ecell ⟨kk, a, p, s⟩) 37))
      have n0 := Aside0.mk (HM.out.kept (grown_of (below_alloc (Below.refl wr.heap.size wr) (.cells (ecell ⟨kk, a, p, s⟩) 37))) (by simp))
      have n1 := Aside0.mk (below_alloc HB.out (.cells (ecell ⟨kk, a, p, s⟩) 37))
      clear HM HB
      have HM := n0
      have HB := n1
      clear n0 n1
      go_upto_region 5 with (fail)
      generalize wr.alloc (.cells (ecell ⟨kk, a, p, s⟩) 37) = wb at *
      generalize wr.heap.size = gb at *
      have b0 : wb.cell? ⟨gb, 0, none⟩ = some (.int .i64 kk) := (blk_cell HBL.out 0).trans rfl
      have b1 : wb.cell? ⟨gb, 1, none⟩ = some (.int .i64 a) := (blk_cell HBL.out 1).trans rfl
      have b2 : wb.cell? ⟨gb, 2, none⟩ = some (.int .i64 p) := (blk_cell HBL.out 2).trans rfl
      have b3 : wb.cell? ⟨gb, 3, none⟩ = some (.int .i64 s) := (blk_cell HBL.out 3).trans rfl
      clear h0 h1 h2 h3
      by_cases hk1 : kk < 1
      · have z1 : decide (kk < (1 : Int)) = true := decide_eq_true hk1
        go_wp2
        go_ret
        exact ⟨ret_b (by rw [HEQ.out, HDR.out]; exact (rgt_stop (by unfold bad; rw [show decide ((⟨kk, a, p, s⟩ : Evt).k < 1) = true from z1]; rfl)).symm), HB.out⟩
      have z1 : decide (kk < (1 : Int)) = false := decide_eq_false hk1
      by_cases hk5 : 5 < kk
      · have z2 : decide ((5 : Int) < kk) = true := decide_eq_true hk5
        go_wp2
        go_ret
        exact ⟨ret_b (by rw [HEQ.out, HDR.out]; exact (rgt_stop (by unfold bad; rw [show decide (5 < (⟨kk, a, p, s⟩ : Evt).k) = true from z2, Bool.or_true]; rfl)).symm), HB.out⟩
      have z2 : decide ((5 : Int) < kk) = false := decide_eq_false hk5
      have hlk : ∀ w_, Below wb.heap.size wb w_ → (Instr.lookup 96 (.map (some w.heap.size)) (.agg #[.int .i64 p, .int .i64 s]) false).run Try.prog w_ = .ok (.bool (st (l.take k).reverse p s)) w_ := fun w_ hb_ => look_bool (HM.out.kept (grown_of hb_) (by simp)) HWR.out p s HWE.out.1 HWE.out.2
      have HLK := Aside0.mk hlk
      have Z := Aside0.mk (And.intro z1 z2)
      clear hlk hk1 hk5
      by_cases hk0 : k = 0
      · have HPREV := Aside0.mk (show ((false || false) || ((match (l.take k).reverse with | [] => false | q :: _ => decide ((⟨kk, a, p, s⟩ : Evt).a < q.a)) || false)) = false by rw [hk0]; rfl)
        have e0 : decide ((0 : Int) < (k : Int)) = false := decide_eq_false (by omega)
        have hnp : ¬ 0 < k := by omega
        clear hk0
        go_upto_region 6 with (fail)
        refine region_seq (fun w_ => Below wb.heap.size wb w_) []
          [(0, some 23, .pure), (1, some 24, .pure), (2, some 25, .pure), (3, some 26, .pure), (5, some 28, .pure), (6, some 29, .pure), (7, some 30, .pure), (8, some 31, .pure), (9, some 32, .pure), (4, some 27, .held), (10, some 33, .held), (11, some 34, .pure), (12, some 35, .pure), (13, some 14, .pure)] (by kernel_rfl) (by kernel_rfl) ?_
        have hS := below_drew (Below.refl wb.heap.size wb)
        repeat (first
          | (refine s_off (a' := ?_) rfl (fun _ _ _ h => h) rfl ?ha ?_; (case ha => (simp only [Act.put, List.setIfInBounds_toArray, List.set_cons_zero, List.set_cons_succ, i64_w, i32_w]; rfl)))
          | (refine s_offHeld (a' := ?_) hS rfl (fun _ _ _ h => h) rfl ?ha ?_; (case ha => (simp only [Act.put, List.setIfInBounds_toArray, List.set_cons_zero, List.set_cons_succ, i64_w, i32_w]; rfl)))
          | (refine s_pure (v := ?_) (a' := ?_) rfl (fun _ _ _ h => h) rfl ?hy ?ha ?_; (case hy => (intro w_; go_simp; (try simp only [e0, hnp, decide_false]); with_reducible rfl)); (case ha => (simp only [Act.put, List.setIfInBounds_toArray, List.set_cons_zero, List.set_cons_succ, i64_w, i32_w]; rfl)))
          | (refine s_held (v := ?_) (a' := ?_) hS rfl (fun _ _ _ h => h) rfl ?hy ?ha ?_; (case hy => (intro w_ hb_; have s0 := pw_cell_below hb_ b0; have s1 := pw_cell_below hb_ b1; have s2 := pw_cell_below hb_ b2; have s3 := pw_cell_below hb_ b3; go_simp; with_reducible rfl)); (case ha => (simp only [Act.put, List.setIfInBounds_toArray, List.set_cons_zero, List.set_cons_succ, i64_w, i32_w]; rfl))))
        refine s_tailL _ (by kernel_rfl) ?_
        simp only [opsAt, List.filterMap_nil]
        have HSW := Aside0.mk hS
        clear hS b0 b1 b2 b3
        go_upto_region 7 with (fail)
        have HBD := Aside0.mk (below_drew HB.out)
        have HMD := Aside0.mk (HM.out.kept (grown_of (below_drew (Below.refl wb.heap.size wb))) (by simp))
        have HLD := Aside0.mk (blk_below HBL.out (below_drew (Below.refl wb.heap.size wb)))
        clear HSW HB HM HBL HLK
        have HB := HBD
        have HM := HMD
        have HBL := HLD
        clear HBD HMD HLD
        generalize wb.drew = wc at *
        have b0 : wc.cell? ⟨gb, 0, none⟩ = some (.int .i64 kk) := (blk_cell HBL.out 0).trans rfl
        have b1 : wc.cell? ⟨gb, 1, none⟩ = some (.int .i64 a) := (blk_cell HBL.out 1).trans rfl
        have b2 : wc.cell? ⟨gb, 2, none⟩ = some (.int .i64 p) := (blk_cell HBL.out 2).trans rfl
        have b3 : wc.cell? ⟨gb, 3, none⟩ = some (.int .i64 s) := (blk_cell HBL.out 3).trans rfl
        have hlk : ∀ w_, Below wc.heap.size wc w_ → (Instr.lookup 96 (.map (some w.heap.size)) (.agg #[.int .i64 p, .int .i64 s]) false).run Try.prog w_ = .ok (.bool (st (l.take k).reverse p s)) w_ := fun w_ hb_ => look_bool (HM.out.kept (grown_of hb_) (by simp)) HWR.out p s HWE.out.1 HWE.out.2
        refine region_seq (fun w_ => Below wc.heap.size wc w_) []
          [(0, some 36, .pure), (4, some 40, .pure), (1, some 37, .held), (5, some 41, .held), (6, some 42, .pure), (2, some 38, .one), (3, some 39, .held), (7, some 43, .pure), (8, some 14, .pure)] (by kernel_rfl) (by kernel_rfl) ?_
        have hS := below_drew (Below.refl wc.heap.size wc)
        repeat (first
          | (refine s_pure (v := ?_) (a' := ?_) rfl (fun _ _ _ h => h) rfl ?hy ?ha ?_; (case hy => (intro w_; go_simp; with_reducible rfl)); (case ha => (simp only [Act.put, List.setIfInBounds_toArray, List.set_cons_zero, List.set_cons_succ, i64_w, i32_w]; rfl)))
          | (refine s_held (v := ?_) (a' := ?_) hS rfl (fun _ _ _ h => h) rfl ?hy ?ha ?_; (case hy => (intro w_ hb_; have s0 := pw_cell_below hb_ b0; have s1 := pw_cell_below hb_ b1; have s2 := pw_cell_below hb_ b2; have s3 := pw_cell_below hb_ b3; go_simp; with_reducible rfl)); (case ha => (simp only [Act.put, List.setIfInBounds_toArray, List.set_cons_zero, List.set_cons_succ, i64_w, i32_w]; rfl))))
        refine s_oneL rfl (fun K hK => ?_) rfl
        go_wp2_with (go_at_call 108; (with_reducible refine (of_any (⟨kk, a, p, s⟩ : Evt) _).mono ?_); rintro r wx ⟨rfl, hB⟩)
        have hS2 : Below wc.heap.size wc wx := hS.trans (below_sub hB hS.size)
        clear hB
        replace hS := hS2
        refine hK _ _ hS2 ?_
        clear hK
        repeat (first
          | (refine s_pure (v := ?_) (a' := ?_) rfl (fun _ _ _ h => h) rfl ?hy ?ha ?_; (case hy => (intro w_; go_simp; with_reducible rfl)); (case ha => (simp only [Act.put, List.setIfInBounds_toArray, List.set_cons_zero, List.set_cons_succ, i64_w, i32_w]; rfl)))
          | (refine s_held (v := ?_) (a' := ?_) hS rfl (fun _ _ _ h => h) rfl ?hy ?ha ?_; (case hy => (intro w_ hb_; have s0 := pw_cell_below hb_ b0; have t0 := hlk w_ hb_; go_simp; with_reducible rfl)); (case ha => (simp only [Act.put, List.setIfInBounds_toArray, List.set_cons_zero, List.set_cons_succ, i64_w, i32_w]; rfl))))
        refine s_tailL _ (by kernel_rfl) ?_
        simp only [opsAt, List.filterMap_nil]
        have HS2 := Aside0.mk hS2
        have HBX := Aside0.mk (HB.out.trans (below_sub hS2 HB.out.size))
        have HMX := Aside0.mk (HM.out.kept (grown_of hS2) (by simp))
        have HBE := Aside0.mk (blk_below HBL.out hS2)
        clear hS2 hS hlk b0 b1 b2 b3
        cases hq : (st (l.take k).reverse p s == (kk == 1)) with
        | true =>
          have HBAD := Aside0.mk (show bad (l.take k).reverse ⟨kk, a, p, s⟩ = true by unfold bad; rw [show (st (l.take k).reverse (⟨kk, a, p, s⟩ : Evt).p (⟨kk, a, p, s⟩ : Evt).s == ((⟨kk, a, p, s⟩ : Evt).k == 1)) = true from hq, Bool.or_true, Bool.or_true])
          go_wp2
          go_ret
          exact ⟨ret_b (by rw [HEQ.out, HDR.out]; exact (rgt_stop HBAD.out).symm), HBX.out⟩
        | false =>
          have HBAD := Aside0.mk (show bad (l.take k).reverse ⟨kk, a, p, s⟩ = false by
            unfold bad
            rw [show (st (l.take k).reverse (⟨kk, a, p, s⟩ : Evt).p (⟨kk, a, p, s⟩ : Evt).s == ((⟨kk, a, p, s⟩ : Evt).k == 1)) = false from hq, show decide ((⟨kk, a, p, s⟩ : Evt).k < 1) = false from Z.out.1, show decide (5 < (⟨kk, a, p, s⟩ : Evt).k) = false from Z.out.2]
            exact HPREV.out)
          go_upto_region 9 with (fail)
          have d0 : wx.cell? ⟨gb, 0, none⟩ = some (.int .i64 kk) := (blk_cell HBE.out 0).trans rfl
          have d1 : wx.cell? ⟨gb, 1, none⟩ = some (.int .i64 a) := (blk_cell HBE.out 1).trans rfl
          have d2 : wx.cell? ⟨gb, 2, none⟩ = some (.int .i64 p) := (blk_cell HBE.out 2).trans rfl
          have d3 : wx.cell? ⟨gb, 3, none⟩ = some (.int .i64 s) := (blk_cell HBE.out 3).trans rfl
          refine region_seq (fun w_ => Below wx.heap.size wx w_) [4]
            [(0, some 44, .pure), (1, some 45, .held), (2, some 46, .held), (3, some 47, .one), (4, some 48, .last)] (by kernel_rfl) (by kernel_rfl) ?_
          have hS := below_drew (Below.refl wx.heap.size wx)
          repeat (first
            | (refine s_pure (v := ?_) (a' := ?_) rfl (fun _ _ _ h => h) rfl ?hy ?ha ?_; (case hy => (intro w_; go_simp; with_reducible rfl)); (case ha => (simp only [Act.put, List.setIfInBounds_toArray, List.set_cons_zero, List.set_cons_succ, i64_w, i32_w]; rfl)))
            | (refine s_held (v := ?_) (a' := ?_) hS rfl (fun _ _ _ h => h) rfl ?hy ?ha ?_; (case hy => (intro w_ hb_; have s0 := pw_cell_below hb_ d0; have s1 := pw_cell_below hb_ d1; have s2 := pw_cell_below hb_ d2; have s3 := pw_cell_below hb_ d3; go_simp; with_reducible rfl)); (case ha => (simp only [Act.put, List.setIfInBounds_toArray, List.set_cons_zero, List.set_cons_succ, i64_w, i32_w]; rfl))))
          refine s_oneL rfl (fun K hK => ?_) rfl
          go_wp2_with (go_at_call 74; (with_reducible refine (open_any (⟨kk, a, p, s⟩ : Evt) _).mono ?_); rintro r w7 ⟨rfl, hB⟩)
          have hS3 : Below wx.heap.size wx w7 := hS.trans (below_sub hB hS.size)
          clear hB hS
          refine hK _ _ hS3 ?_
          clear hK
          refine s_tail 4 _ (by kernel_rfl) ?_
          simp only [List.drop_succ_cons, List.drop_zero]
          have HS3 := Aside0.mk hS3
          clear hS3 d0 d1 d2 d3
          go_wp2_with (go_at_call 73; (with_reducible refine (putb_any w.heap.size k _ (⟨kk, a, p, s⟩ : Evt) (opn (⟨kk, a, p, s⟩ : Evt)) _ (HMX.out.kept (grown_of HS3.out) (by simp)) HKN.out HWE.out.1 HWE.out.2).mono ?_); rintro r w8 ⟨rfl, hown, hgr⟩; have HM8 := Aside0.mk hown; have HB8 := Aside0.mk ((HBX.out.trans (below_sub HS3.out HBX.out.size)).trans (below_of hgr (Nat.le_refl _) (Nat.le_trans HBX.out.size HS3.out.size))); clear hown hgr)
          go_roundw
          case measure => simp [intOf]; omega
          case rel =>
            refine ⟨k + 1, by omega, by go_num, ⟨?_⟩, HB8, ⟨?_⟩⟩
            · rw [HRS.out, DD_yes (show sel 0 ⟨kk, a, p, s⟩ = true from rfl)]; exact HM8.out
            · rw [HEQ.out, HRS.out, HDR.out]; exact rgt_go HBAD.out
      · obtain ⟨j, hj⟩ : ∃ j, k = j + 1 := ⟨k - 1, by omega⟩
        have hjl : j < l.length := by omega
        obtain ⟨ad', had, j0, j1, j2, j3⟩ := at_ev HR.out j hjl
        cases had
        replace j1 := pw_cell_below HB.out j1
        have HRJ := Aside0.mk (rev_succ l j hjl)
        generalize l[j] = q at *
        obtain ⟨qk, qa, qp, qs⟩ := q
        simp only at j1
        clear j0 j2 j3
        have e0 : decide ((0 : Int) < (k : Int)) = true := decide_eq_true (by omega)
        have hkp : 0 < k := by omega
        have hw1 : wrap64 ((k : Int) - 1) = (j : Int) := by unfold wrap64; omega
        have hwj : wrap64 (j : Int) = (j : Int) := by unfold wrap64; omega
        have hj0 : (0 : Int) ≤ (j : Int) := by omega
        have hj1 : (j : Int) < (l.length : Int) := by omega
        cases hqa : decide (a < qa) with
        | true =>
          have HBAD := Aside0.mk (show bad (l.take k).reverse ⟨kk, a, p, s⟩ = true by
            unfold bad
            rw [hj, HRJ.out]
            show (_ || (decide (a < qa) || _)) = true
            rw [hqa, Bool.true_or, Bool.or_true])
          go_upto_region 6 with (fail)
          refine region_seq (fun w_ => Below wb.heap.size wb w_) []
            [(0, some 23, .pure), (1, some 24, .pure), (2, some 25, .pure), (3, some 26, .pure), (5, some 28, .pure), (6, some 29, .pure), (7, some 30, .pure), (8, some 31, .pure), (9, some 32, .pure), (4, some 27, .held), (10, some 33, .held), (11, some 34, .pure), (12, some 35, .pure), (13, some 14, .pure)] (by kernel_rfl) (by kernel_rfl) ?_
          have hS := below_drew (Below.refl wb.heap.size wb)
          repeat (first
            | (refine s_off (a' := ?_) rfl (fun _ _ _ h => h) rfl ?ha ?_; (case ha => (simp only [Act.put, List.setIfInBounds_toArray, List.set_cons_zero, List.set_cons_succ, i64_w, i32_w]; rfl)))
            | (refine s_offHeld (a' := ?_) hS rfl (fun _ _ _ h => h) rfl ?ha ?_; (case ha => (simp only [Act.put, List.setIfInBounds_toArray, List.set_cons_zero, List.set_cons_succ, i64_w, i32_w]; rfl)))
            | (refine s_pure (v := ?_) (a' := ?_) rfl (fun _ _ _ h => h) rfl ?hy ?ha ?_; (case hy => (intro w_; go_simp; (try simp only [e0, hkp, decide_true, hw1, hwj, hqa]); with_reducible rfl)); (case ha => (simp only [Act.put, List.setIfInBounds_toArray, List.set_cons_zero, List.set_cons_succ, i64_w, i32_w]; rfl)))
            | (refine s_held (v := ?_) (a' := ?_) hS rfl (fun _ _ _ h => h) rfl ?hy ?ha ?_; (case hy => (intro w_ hb_; have s0 := pw_cell_below hb_ b0; have s1 := pw_cell_below hb_ b1; have s2 := pw_cell_below hb_ b2; have s3 := pw_cell_below hb_ b3; have s4 := pw_cell_below hb_ j1; go_simp; with_reducible rfl)); (case ha => (simp only [Act.put, List.setIfInBounds_toArray, List.set_cons_zero, List.set_cons_succ, i64_w, i32_w]; rfl))))
          refine s_tailL _ (by kernel_rfl) ?_
          simp only [opsAt, List.filterMap_nil]
          have HSW := Aside0.mk hS
          clear hS b0 b1 b2 b3 j1 hj hk0
          go_wp2
          go_ret
          exact ⟨ret_b (by rw [HEQ.out, HDR.out]; exact (rgt_stop HBAD.out).symm), below_drew HB.out⟩
        | false =>
          have HPREV := Aside0.mk (show ((false || false) || ((match (l.take k).reverse with | [] => false | q :: _ => decide ((⟨kk, a, p, s⟩ : Evt).a < q.a)) || false)) = false by rw [hj, HRJ.out]; show ((false || false) || (decide (a < qa) || false)) = false; rw [hqa]; rfl)
          go_upto_region 6 with (fail)
          refine region_seq (fun w_ => Below wb.heap.size wb w_) []
            [(0, some 23, .pure), (1, some 24, .pure), (2, some 25, .pure), (3, some 26, .pure), (5, some 28, .pure), (6, some 29, .pure), (7, some 30, .pure), (8, some 31, .pure), (9, some 32, .pure), (4, some 27, .held), (10, some 33, .held), (11, some 34, .pure), (12, some 35, .pure), (13, some 14, .pure)] (by kernel_rfl) (by kernel_rfl) ?_
          have hS := below_drew (Below.refl wb.heap.size wb)
          repeat (first
            | (refine s_off (a' := ?_) rfl (fun _ _ _ h => h) rfl ?ha ?_; (case ha => (simp only [Act.put, List.setIfInBounds_toArray, List.set_cons_zero, List.set_cons_succ, i64_w, i32_w]; rfl)))
            | (refine s_offHeld (a' := ?_) hS rfl (fun _ _ _ h => h) rfl ?ha ?_; (case ha => (simp only [Act.put, List.setIfInBounds_toArray, List.set_cons_zero, List.set_cons_succ, i64_w, i32_w]; rfl)))
            | (refine s_pure (v := ?_) (a' := ?_) rfl (fun _ _ _ h => h) rfl ?hy ?ha ?_; (case hy => (intro w_; go_simp; (try simp only [e0, hkp, decide_true, hw1, hwj, hqa]); with_reducible rfl)); (case ha => (simp only [Act.put, List.setIfInBounds_toArray, List.set_cons_zero, List.set_cons_succ, i64_w, i32_w]; rfl)))
            | (refine s_held (v := ?_) (a' := ?_) hS rfl (fun _ _ _ h => h) rfl ?hy ?ha ?_; (case hy => (intro w_ hb_; have s0 := pw_cell_below hb_ b0; have s1 := pw_cell_below hb_ b1; have s2 := pw_cell_below hb_ b2; have s3 := pw_cell_below hb_ b3; have s4 := pw_cell_below hb_ j1; go_simp; with_reducible rfl)); (case ha => (simp only [Act.put, List.setIfInBounds_toArray, List.set_cons_zero, List.set_cons_succ, i64_w, i32_w]; rfl))))
          refine s_tailL _ (by kernel_rfl) ?_
          simp only [opsAt, List.filterMap_nil]
          have HSW := Aside0.mk hS
          clear hS b0 b1 b2 b3 j1 hj hk0
          go_upto_region 7 with (fail)
          have HBD := Aside0.mk (below_drew HB.out)
          have HMD := Aside0.mk (HM.out.kept (grown_of (below_drew (Below.refl wb.heap.size wb))) (by simp))
          have HLD := Aside0.mk (blk_below HBL.out (below_drew (Below.refl wb.heap.size wb)))
          clear HSW HB HM HBL HLK
          have HB := HBD
          have HM := HMD
          have HBL := HLD
          clear HBD HMD HLD
          generalize wb.drew = wc at *
          have b0 : wc.cell? ⟨gb, 0, none⟩ = some (.int .i64 kk) := (blk_cell HBL.out 0).trans rfl
          have b1 : wc.cell? ⟨gb, 1, none⟩ = some (.int .i64 a) := (blk_cell HBL.out 1).trans rfl
          have b2 : wc.cell? ⟨gb, 2, none⟩ = some (.int .i64 p) := (blk_cell HBL.out 2).trans rfl
          have b3 : wc.cell? ⟨gb, 3, none⟩ = some (.int .i64 s) := (blk_cell HBL.out 3).trans rfl
          have hlk : ∀ w_, Below wc.heap.size wc w_ → (Instr.lookup 96 (.map (some w.heap.size)) (.agg #[.int .i64 p, .int .i64 s]) false).run Try.prog w_ = .ok (.bool (st (l.take k).reverse p s)) w_ := fun w_ hb_ => look_bool (HM.out.kept (grown_of hb_) (by simp)) HWR.out p s HWE.out.1 HWE.out.2
          refine region_seq (fun w_ => Below wc.heap.size wc w_) []
            [(0, some 36, .pure), (4, some 40, .pure), (1, some 37, .held), (5, some 41, .held), (6, some 42, .pure), (2, some 38, .one), (3, some 39, .held), (7, some 43, .pure), (8, some 14, .pure)] (by kernel_rfl) (by kernel_rfl) ?_
          have hS := below_drew (Below.refl wc.heap.size wc)
          repeat (first
            | (refine s_pure (v := ?_) (a' := ?_) rfl (fun _ _ _ h => h) rfl ?hy ?ha ?_; (case hy => (intro w_; go_simp; with_reducible rfl)); (case ha => (simp only [Act.put, List.setIfInBounds_toArray, List.set_cons_zero, List.set_cons_succ, i64_w, i32_w]; rfl)))
            | (refine s_held (v := ?_) (a' := ?_) hS rfl (fun _ _ _ h => h) rfl ?hy ?ha ?_; (case hy => (intro w_ hb_; have s0 := pw_cell_below hb_ b0; have s1 := pw_cell_below hb_ b1; have s2 := pw_cell_below hb_ b2; have s3 := pw_cell_below hb_ b3; go_simp; with_reducible rfl)); (case ha => (simp only [Act.put, List.setIfInBounds_toArray, List.set_cons_zero, List.set_cons_succ, i64_w, i32_w]; rfl))))
          refine s_oneL rfl (fun K hK => ?_) rfl
          go_wp2_with (go_at_call 108; (with_reducible refine (of_any (⟨kk, a, p, s⟩ : Evt) _).mono ?_); rintro r wx ⟨rfl, hB⟩)
          have hS2 : Below wc.heap.size wc wx := hS.trans (below_sub hB hS.size)
          clear hB
          replace hS := hS2
          refine hK _ _ hS2 ?_
          clear hK
          repeat (first
            | (refine s_pure (v := ?_) (a' := ?_) rfl (fun _ _ _ h => h) rfl ?hy ?ha ?_; (case hy => (intro w_; go_simp; with_reducible rfl)); (case ha => (simp only [Act.put, List.setIfInBounds_toArray, List.set_cons_zero, List.set_cons_succ, i64_w, i32_w]; rfl)))
            | (refine s_held (v := ?_) (a' := ?_) hS rfl (fun _ _ _ h => h) rfl ?hy ?ha ?_; (case hy => (intro w_ hb_; have s0 := pw_cell_below hb_ b0; have t0 := hlk w_ hb_; go_simp; with_reducible rfl)); (case ha => (simp only [Act.put, List.setIfInBounds_toArray, List.set_cons_zero, List.set_cons_succ, i64_w, i32_w]; rfl))))
          refine s_tailL _ (by kernel_rfl) ?_
          simp only [opsAt, List.filterMap_nil]
          have HS2 := Aside0.mk hS2
          have HBX := Aside0.mk (HB.out.trans (below_sub hS2 HB.out.size))
          have HMX := Aside0.mk (HM.out.kept (grown_of hS2) (by simp))
          have HBE := Aside0.mk (blk_below HBL.out hS2)
          clear hS2 hS hlk b0 b1 b2 b3
          cases hq : (st (l.take k).reverse p s == (kk == 1)) with
          | true =>
            have HBAD := Aside0.mk (show bad (l.take k).reverse ⟨kk, a, p, s⟩ = true by unfold bad; rw [show (st (l.take k).reverse (⟨kk, a, p, s⟩ : Evt).p (⟨kk, a, p, s⟩ : Evt).s == ((⟨kk, a, p, s⟩ : Evt).k == 1)) = true from hq, Bool.or_true, Bool.or_true])
            go_wp2
            go_ret
            exact ⟨ret_b (by rw [HEQ.out, HDR.out]; exact (rgt_stop HBAD.out).symm), HBX.out⟩
          | false =>
            have HBAD := Aside0.mk (show bad (l.take k).reverse ⟨kk, a, p, s⟩ = false by
              unfold bad
              rw [show (st (l.take k).reverse (⟨kk, a, p, s⟩ : Evt).p (⟨kk, a, p, s⟩ : Evt).s == ((⟨kk, a, p, s⟩ : Evt).k == 1)) = false from hq, show decide ((⟨kk, a, p, s⟩ : Evt).k < 1) = false from Z.out.1, show decide (5 < (⟨kk, a, p, s⟩ : Evt).k) = false from Z.out.2]
              exact HPREV.out)
            go_upto_region 9 with (fail)
            have d0 : wx.cell? ⟨gb, 0, none⟩ = some (.int .i64 kk) := (blk_cell HBE.out 0).trans rfl
            have d1 : wx.cell? ⟨gb, 1, none⟩ = some (.int .i64 a) := (blk_cell HBE.out 1).trans rfl
            have d2 : wx.cell? ⟨gb, 2, none⟩ = some (.int .i64 p) := (blk_cell HBE.out 2).trans rfl
            have d3 : wx.cell? ⟨gb, 3, none⟩ = some (.int .i64 s) := (blk_cell HBE.out 3).trans rfl
            refine region_seq (fun w_ => Below wx.heap.size wx w_) [4]
              [(0, some 44, .pure), (1, some 45, .held), (2, some 46, .held), (3, some 47, .one), (4, some 48, .last)] (by kernel_rfl) (by kernel_rfl) ?_
            have hS := below_drew (Below.refl wx.heap.size wx)
            repeat (first
              | (refine s_pure (v := ?_) (a' := ?_) rfl (fun _ _ _ h => h) rfl ?hy ?ha ?_; (case hy => (intro w_; go_simp; with_reducible rfl)); (case ha => (simp only [Act.put, List.setIfInBounds_toArray, List.set_cons_zero, List.set_cons_succ, i64_w, i32_w]; rfl)))
              | (refine s_held (v := ?_) (a' := ?_) hS rfl (fun _ _ _ h => h) rfl ?hy ?ha ?_; (case hy => (intro w_ hb_; have s0 := pw_cell_below hb_ d0; have s1 := pw_cell_below hb_ d1; have s2 := pw_cell_below hb_ d2; have s3 := pw_cell_below hb_ d3; go_simp; with_reducible rfl)); (case ha => (simp only [Act.put, List.setIfInBounds_toArray, List.set_cons_zero, List.set_cons_succ, i64_w, i32_w]; rfl))))
            refine s_oneL rfl (fun K hK => ?_) rfl
            go_wp2_with (go_at_call 74; (with_reducible refine (open_any (⟨kk, a, p, s⟩ : Evt) _).mono ?_); rintro r w7 ⟨rfl, hB⟩)
            have hS3 : Below wx.heap.size wx w7 := hS.trans (below_sub hB hS.size)
            clear hB hS
            refine hK _ _ hS3 ?_
            clear hK
            refine s_tail 4 _ (by kernel_rfl) ?_
            simp only [List.drop_succ_cons, List.drop_zero]
            have HS3 := Aside0.mk hS3
            clear hS3 d0 d1 d2 d3
            go_wp2_with (go_at_call 73; (with_reducible refine (putb_any w.heap.size k _ (⟨kk, a, p, s⟩ : Evt) (opn (⟨kk, a, p, s⟩ : Evt)) _ (HMX.out.kept (grown_of HS3.out) (by simp)) HKN.out HWE.out.1 HWE.out.2).mono ?_); rintro r w8 ⟨rfl, hown, hgr⟩; have HM8 := Aside0.mk hown; have HB8 := Aside0.mk ((HBX.out.trans (below_sub HS3.out HBX.out.size)).trans (below_of hgr (Nat.le_refl _) (Nat.le_trans HBX.out.size HS3.out.size))); clear hown hgr)
            go_roundw
            case measure => simp [intOf]; omega
            case rel =>
              refine ⟨k + 1, by omega, by go_num, ⟨?_⟩, HB8, ⟨?_⟩⟩
              · rw [HRS.out, DD_yes (show sel 0 ⟨kk, a, p, s⟩ = true from rfl)]; exact HM8.out
              · rw [HEQ.out, HRS.out, HDR.out]; exact rgt_go HBAD.out
    · have hkl : k = l.length := by omega
      subst hkl
      go_wp2
      go_ret
      exact ⟨ret_b (by rw [HEQ.out, List.drop_length]; rfl), HB.out⟩
end Go.Proofs.Ytkepmbkghmkodaa.Tell
