/- kern: Exit: the walk. -/
import Derived.Test.YtbgodajbdbgdfaaDoorProcExit
namespace Go.Proofs.YtbgodajbdbgdfaaDoor.Kern
open Go.RowKit Go.Proofs.YtbgodajbdbgdfaaDoorW.PrintWords Go.Proofs.YtbgodajbdbgdfaaDoorW.PrintLast Go.Proofs.YtbgodajbdbgdfaaDoor.Sig Go.Proofs.YtbgodajbdbgdfaaDoor.Base Go.Proofs.YtbgodajbdbgdfaaDoor.Seq Go.Maps
set_option linter.unusedVariables false
set_option linter.unusedSimpArgs false
/-- The loop's state. -/
structure XL (wr : World) (base g m n rI : Nat) (B : Int → Nat) (v : Value) (f0 : Tb) (pid last : Int) (ends : List (Int × Int)) (w : World) (left : Lit → Bool) (cnt : Nat) (D : Dm) : Prop where
  tv : TV wr base g m n D B v (fl f0 pid left) last ends
  rg : wr.ranges Tryd.prog 3 Rp m rI n D left cnt
  bl : Below base w wr
section
variable {w : World} {base g m n : Nat} {D : Dm} {B : Int → Nat} {v : Value} {f : Tb} {last : Int} {ends : List (Int × Int)}
set_option maxHeartbeats 4000000 in
set_option maxRecDepth 100000 in
theorem exit_any (h : TV w base g m n D B v f last ends) (pid st : Int) (r : Pr) (hp : (Lit.int .i64 pid).wf = true) (hf : f pid = some r) (hlv : r.live = true) (hen : ends.length ≤ 1000000) :
    Calls Tryd.prog 9 #[.pointer (some ⟨g, 0, none⟩), .int .i64 pid, .int .i64 st] w fun e w' => e = .returned (.bool true) ∧ TW w' base g (endd f pid (bits .and .i64 st 255)) last (ends ++ [(pid, bits .and .i64 st 255)]) ∧ Below base w w' := by
  have H := Aside0.mk h
  have HP := Aside0.mk hp
  have hl : liv f pid = true := by unfold liv; rw [hf]; exact hlv
  have pv := h.yes pid r hf
  have HTP := Aside0.mk (h.top pid (by rw [hf]; simp))
  have HPAR := Aside0.mk (show ∀ q c, f q = some c → c.par < q from fun q c hq => (h.yes q c hq).par.2)
  have f1 := blk_frozen pv.blk 1
  have f2 := blk_frozen pv.blk 2
  have k1 : w.cell? ⟨B pid, 1, none⟩ = some (.bool r.live) := (blk_cell pv.blk 1).trans rfl
  have k2 : w.cell? ⟨B pid, 2, none⟩ = some (.int .i64 r.status) := (blk_cell pv.blk 2).trans rfl
  have HBS := Aside0.mk (show base ≤ w.heap.size from Nat.le_trans h.bg (Nat.le_of_lt (blk_lt h.hg)))
  have HF := Aside0.mk hf
  have HPV := Aside0.mk pv.par
  obtain ⟨S, hS⟩ : ∃ S, S = bits .and .i64 st 255 := ⟨_, rfl⟩
  obtain ⟨r1, hr1⟩ : ∃ r1 : Pr, r1 = { r with live := false, status := S } := ⟨_, rfl⟩
  have H1 := Aside0.mk (h.put (r' := { r with live := false }) (j := 1) (u := .bool false) hf rfl pv.par pv.ign pv.ca pv.pen)
  have H2 := Aside0.mk (H1.out.put (q := pid) (r' := r1) (j := 2) (u := .int .i64 S) (upd_same _ _ _) (by rw [hr1]; rfl) (by rw [hr1]; exact pv.par) (by rw [hr1]; exact pv.ign) (by rw [hr1]; exact pv.ca) (by rw [hr1]; exact pv.pen))
  rw [upd_upd] at H2
  have HB2 := Aside0.mk (((Below.refl base w).setCell (p := ⟨B pid, 1, none⟩) pv.low (.bool false)).setCell (p := ⟨B pid, 2, none⟩) pv.low (.int .i64 S))
  have HR1 := Aside0.mk hr1
  rw [← hS]
  clear h hp pv H1 hr1
  go_enter Tryd.func9, Tryd.ntmps9
  go_upto_region 5 with (first
    | (go_at_call 35; (with_reducible refine (liv_ptr H.out pid HP.out).mono ?_); rintro e w1 ⟨rfl, rfl⟩; rw [hl]; simp only [ptr, if_true])
    | (simp only [← hS]))
  clear k1 k2 f1 f2 H
  generalize (w.setCell ⟨B pid, 1, none⟩ (.bool false)).setCell ⟨B pid, 2, none⟩ (.int .i64 S) = w2 at *
  have es : r1.status = S := by rw [HR1.out]
  have pv := H2.out.yes pid r1 (upd_same _ _ _)
  have b2 : w2.cell? ⟨B pid, 2, none⟩ = some (.int .i64 S) := by rw [← es]; exact (blk_cell pv.blk 2).trans rfl
  have c2 : w2.cell? ⟨g, 2, none⟩ = some v := (blk_cell H2.out.hg 2).trans rfl
  clear pv hS es
  refine region_seq (fun w_ => Below w2.heap.size w2 w_) [12, 13, 14, 15]
    [(0, some 23, .pure), (1, some 24, .pure), (2, some 25, .pure), (3, some 26, .pure), (5, some 28, .pure), (6, some 29, .pure), (7, some 30, .pure), (8, some 31, .pure), (4, some 27, .held), (9, some 32, .held), (10, some 33, .pure), (11, some 34, .one), (12, some 35, .last), (13, some 36, .last), (14, some 37, .last), (15, none, .last)] (by kernel_rfl) (by kernel_rfl) ?_
  have hS := below_drew (Below.refl w2.heap.size w2)
  repeat (first
    | (refine s_pure (v := ?_) (a' := ?_) rfl (fun _ _ _ h => h) rfl ?hy ?ha ?_; (case hy => (intro w_; go_simp; with_reducible rfl)); (case ha => (simp only [Act.put, List.setIfInBounds_toArray, List.set_cons_zero, List.set_cons_succ, i64_w, i32_w]; rfl)))
    | (refine s_held (v := ?_) (a' := ?_) hS rfl (fun _ _ _ h => h) rfl ?hy ?ha ?_; (case hy => (intro w_ hb_; have s0 := pw_cell_below hb_ c2; have s1 := pw_cell_below hb_ b2; go_simp; with_reducible rfl)); (case ha => (simp only [Act.put, List.setIfInBounds_toArray, List.set_cons_zero, List.set_cons_succ, i64_w, i32_w]; rfl))))
  (refine s_new (v := ?_) (w1 := ?_) (a' := ?_) rfl rfl rfl ?hy ?ha ?hS ?_; (case hy => (go_simp; first | with_reducible rfl | (refine ⟨?_, ?_⟩ <;> with_reducible rfl))); (case ha => (simp only [Act.put, List.setIfInBounds_toArray, List.set_cons_zero, List.set_cons_succ, i64_w, i32_w]; rfl)); (case hS => (repeat (first | exact hS | exact Below.refl _ _ | refine below_drew ?_ | refine below_alloc ?_ _))))
  refine s_tail 12 _ (by kernel_rfl) ?_
  simp only [List.drop_succ_cons, List.drop_zero]
  have H2d := Aside0.mk (H2.out.below (below_drew (Below.refl w2.heap.size w2)))
  have HB2d := Aside0.mk (HB2.out.trans (below_drew (Below.refl base w2)))
  have HEN := Aside0.mk hen
  clear c2 b2 hS hen
  go_upto_region 6 with (first | (
    (with_reducible refine gate_dst (N := 35) rfl ?_)
    go_loud (refine app_end base (w0 := w) (W := w2.drew) rfl (.tmp 27) (.tmp 34) rfl v ends pid S rfl rfl H2d.out.row HB2d.out (Nat.le_trans HBS.out HB2d.out.size) (by have := HEN.out; omega) ?_)
    intro A5 n5 c5 w3 hR hB hG
    have H4 := Aside0.mk (H2d.out.more hG hR)
    have hg3 := blk_grown H2d.out.hg hG (Kd.R_ne H2d.out.row H2d.out.hg (by decide))
    have c2 := (blk_cell hg3 2).trans rfl
    have f2 := blk_frozen hg3 2
    have HB4 := Aside0.mk (hB.setCell (p := ⟨g, 2, none⟩) H2d.out.bg (.slice A5 n5 c5))
    clear hR hB hG hg3))
  clear c2 f2 H2 H2d HB2 HB2d
  generalize w3.setCell ⟨g, 2, none⟩ (.slice A5 n5 c5) = w4 at *
  have c0 : w4.cell? ⟨g, 0, none⟩ = some (.map (some m)) := (blk_cell H4.out.hg 0).trans rfl
  go_wp2_with (first
    | (at_range; refine wpList_range_own _ rfl _ 68 rfl 3 63 keyI Tryd.underlying68 Rp m n D rfl H4.out.own ?_; intro w5 hrg0 hg0 hs0)
    | go_in)
  go_frame
  have HXL := Aside0.mk (show XL w5 base g m n w4.heap.size B (.slice A5 n5 c5) (upd f pid (some r1)) pid last (ends ++ [(pid, S)]) w (Maps.has D) (Maps.size D) D from
    ⟨by rw [fl_start (fun q hq => by obtain ⟨r', hr'⟩ := Option.ne_none_iff_exists'.1 hq; exact has_true_of_atKey (H4.out.yes q r' hr').key)]; exact H4.out.below ⟨hg0.os, hg0.tape, hg0.output, hg0.size, fun i hi => hg0.block i hi (by simp)⟩, hrg0,
      HB4.out.trans ⟨hg0.os, hg0.tape, hg0.output, hg0.size, fun i hi => hg0.block i (by have := HBS.out; have := HB4.out.size; omega) (by simp)⟩⟩)
  clear hrg0 hg0 hs0 c0
  go_loopw [8] (fun _ wr => ∃ (left : Lit → Bool) (cnt : Nat) (D' : Dm), Aside0 (XL wr base g m n w4.heap.size B (.slice A5 n5 c5) (upd f pid (some r1)) pid last (ends ++ [(pid, S)]) w left cnt D')) (fun _ wr => wr.rangeLeft m w4.heap.size)
  case atStart => exact ⟨_, _, _, HXL⟩
  case round =>
    clear HXL
    obtain ⟨left, cnt, D', HX⟩ := hrel
    have HD := Aside0.mk (show ∀ x, Maps.has D' (.int .i64 x) = true → ∃ bb : Nat, ∀ zd, D'.atKey (.int .i64 x) zd = .lit (.int .i64 (bb : Int)) from fun x hx => by obtain ⟨c, hc⟩ := HX.out.tv.hasD x hx; exact ⟨B x, (HX.out.tv.yes x c hc).key⟩)
    go_wp2_with (first
      | (at_next; refine next_procs _ rfl _ rfl m w4.heap.size n D' left cnt HD.out rfl HX.out.rg ?_ ?_)
      | go_in)
    · intro _ hl0
      have H5 := Aside0.mk HX.out.tv
      rw [fl_end hl0] at H5
      have HB5 := Aside0.mk HX.out.bl
      have epar : r1.par = r.par := by rw [HR1.out]
      have HSELF := Aside0.mk (after_self (f := f) epar HPV.out.2)
      have HLIV := Aside0.mk (liv_after (r1 := r1) HPAR.out HPV.out.2)
      have pv := H5.out.yes pid r1 HSELF.out
      have k0 : wr.cell? ⟨B pid, 0, none⟩ = some (.int .i64 r.par) := by rw [← epar]; exact (blk_cell pv.blk 0).trans rfl
      have c0 : wr.cell? ⟨g, 0, none⟩ = some (.map (some m)) := (blk_cell H5.out.hg 0).trans rfl
      have HWP := Aside0.mk (wf_i64 (x := r.par) (by have := HPV.out.1; omega) (by have h1 := HPV.out.2; have h2 := HTP.out.2; have h3 := H5.out.lmt; omega))
      clear pv epar HX HD hl0
      cases hlp : liv f r.par with
      | true =>
        have HE := Aside0.mk (endd_live (S := S) HF.out HPV.out.2 hlp)
        rw [← HR1.out] at HE
        go_wp2_with (go_at_call 24; (with_reducible refine (liv_any H5.out r.par HWP.out).mono ?_); rintro e w7 ⟨rfl, rfl⟩; rw [HLIV.out, hlp])
        go_ret
        exact ⟨rfl, by rw [← HE.out]; exact ⟨_, _, _, _, _, H5.out⟩, HB5.out⟩
      | false =>
        have HE := Aside0.mk (endd_dead (S := S) HF.out hlp)
        rw [← HR1.out] at HE
        go_wp2_with (first
          | (go_at_call 24; (with_reducible refine (liv_any H5.out r.par HWP.out).mono ?_); rintro e w7 ⟨rfl, rfl⟩; rw [HLIV.out, hlp])
          | (at_delete; refine wpList_delete_own _ rfl _ _ 68 3 rfl 63 keyI Tryd.underlying68 Rp m n D' rfl H5.out.own _ (.int .i64 pid) rfl (keyOf_int_mk Tryd.underlying3 HP.out) ?_; intro w8 own8 hturn; have H8 := Aside0.mk (H5.out.del own8 hturn.grown); have HB8 := Aside0.mk (HB5.out.trans (below_grown hturn.grown H5.out.bm (Nat.le_trans HBS.out HB5.out.size))); clear own8 hturn))
        go_ret
        exact ⟨rfl, by rw [← HE.out]; exact ⟨_, _, _, _, _, H8.out⟩, HB8.out⟩
    · intro x bb w6 cnt1 hwx hlx hat hrg1 hlt hg1 hs1 hent
      obtain ⟨c, hc⟩ := HX.out.tv.hasD x (has_true_of_atKey hat)
      have hfx : upd f pid (some r1) x = some c := by
        have := hc
        unfold fl at this
        rw [if_pos hlx] at this
        exact this
      obtain rfl : bb = B x := by
        have := (hat .nil).symm.trans ((HX.out.tv.yes x c hc).key .nil)
        simp only [DataW.lit.injEq, Lit.int.injEq] at this
        omega
      have HT1 := Aside0.mk (HX.out.tv.iter hg1 (ranges_iter HX.out.rg) hrg1.owns)
      have HB6 := Aside0.mk (HX.out.bl.trans (below_grown hg1 (show base ≤ w4.heap.size from Nat.le_trans HBS.out HB4.out.size) (Nat.le_trans HBS.out HX.out.bl.size)))
      have pv := HT1.out.yes x c hc
      have HPB := Aside0.mk pv
      have k0 : w6.cell? ⟨B x, 0, none⟩ = some (.int .i64 c.par) := (blk_cell pv.blk 0).trans rfl
      have k1 : w6.cell? ⟨B x, 1, none⟩ = some (.bool c.live) := (blk_cell pv.blk 1).trans rfl
      have f0 := blk_frozen pv.blk 0
      have c0 : w6.cell? ⟨g, 0, none⟩ = some (.map (some m)) := (blk_cell HT1.out.hg 0).trans rfl
      have HSTEP := Aside0.mk (fl_step (f0 := upd f pid (some r1)) (pid := pid) hlx)
      rw [hfx] at HSTEP
      have HLX := Aside0.mk hlx
      have HRG := Aside0.mk hrg1
      have HC := Aside0.mk hc
      have HLT := Aside0.mk hlt
      have HOLD := Aside0.mk HX.out.rg.left_eq
      have HX1 := Aside0.mk (HT1.out.top x (by rw [hc]; simp)).1
      clear pv hat hlx hrg1 hg1 hs1 hlt hc hfx HX
      by_cases hpp : c.par = pid
      · have e0 : (c.par != pid) = false := by rw [hpp]; exact bne_self_eq_false pid
        cases hlc : c.live with
        | true =>
          rw [hlc] at k1
          have ha : aft pid x c = some { c with par := 0 } := by unfold aft; rw [if_pos hpp, if_pos hlc]
          have HA := Aside0.mk ha
          have HHL := Aside0.mk hlc
          clear hpp ha hlc
          go_wp2
          go_roundw
          case rel =>
            refine ⟨_, cnt1, D', ⟨⟨?_, HRG.out.kept (grown_set w6 ⟨B x, 0, none⟩ _) (fun e => HT1.out.neM HPB.out.blk (Option.some.inj e).symm) (fun e => ranges_iter HRG.out _ _ (by rw [Option.some.inj e]; exact HPB.out.blk)), HB6.out.setCell (p := ⟨B x, 0, none⟩) HPB.out.low _⟩⟩⟩
            rw [HSTEP.out, show (some c).bind (aft pid x) = some { c with par := 0 } from HA.out]
            exact HT1.out.put (r' := { c with par := 0 }) (j := 0) HC.out rfl ⟨Int.le_refl 0, by have := HX1.out; show (0 : Int) < x; omega⟩ HPB.out.ign HPB.out.ca HPB.out.pen
          case measure => rw [(HRG.out.kept (grown_set w6 ⟨B x, 0, none⟩ (.int .i64 0)) (fun e => HT1.out.neM HPB.out.blk (Option.some.inj e).symm) (fun e => ranges_iter HRG.out _ _ (by rw [Option.some.inj e]; exact HPB.out.blk))).left_eq, HOLD.out]; exact HLT.out
        | false =>
          rw [hlc] at k1
          have ha : aft pid x c = none := by unfold aft; rw [if_pos hpp, if_neg (by rw [hlc]; decide)]
          have HA := Aside0.mk ha
          have HHL := Aside0.mk hlc
          clear hpp ha hlc
          go_wp2_with (first
            | (at_delete; refine wpList_delete_ranges _ rfl _ _ 68 3 rfl 63 keyI Tryd.underlying68 Rp m w4.heap.size n D' _ cnt1 rfl HRG.out _ (.int .i64 x) rfl (keyOf_int_mk Tryd.underlying3 hwx) ?_; intro w8 cnt2 hrg2 hle hturn; rw [Maps.strike_twice] at hrg2; go_frame; have HR2 := Aside0.mk hrg2; have HLE := Aside0.mk hle; have HTU := Aside0.mk hturn.grown; clear hrg2 hle hturn))
          go_roundw
          case rel =>
            refine ⟨_, cnt2, _, ⟨⟨?_, HR2.out, HB6.out.trans (below_grown HTU.out HT1.out.bm (Nat.le_trans HBS.out HB6.out.size))⟩⟩⟩
            rw [HSTEP.out, show (some c).bind (aft pid x) = none from HA.out]
            exact HT1.out.del HR2.out.owns HTU.out
          case measure => rw [HR2.out.left_eq, HOLD.out]; have := HLE.out; have := HLT.out; omega
      · have e0 : (c.par != pid) = true := by rw [bne_iff_ne]; exact hpp
        have ha : aft pid x c = some c := by unfold aft; rw [if_neg hpp]
        have HA := Aside0.mk ha
        clear hpp ha
        go_wp2
        go_roundw
        case rel =>
          refine ⟨_, cnt1, D', ⟨⟨?_, HRG.out, HB6.out⟩⟩⟩
          rw [HSTEP.out, show (some c).bind (aft pid x) = some c from HA.out, upd_self HC.out]
          exact HT1.out
        case measure => rw [HRG.out.left_eq, HOLD.out]; exact HLT.out
end
end Go.Proofs.YtbgodajbdbgdfaaDoor.Kern
