/- kern: Put: its contract. -/
import Derived.Test.YtbgodajbdbgdfaaDoorProcFork
namespace Go.Proofs.YtbgodajbdbgdfaaDoor.Kern
open Go.RowKit Go.Proofs.YtbgodajbdbgdfaaDoorW.PrintWords Go.Proofs.YtbgodajbdbgdfaaDoorW.PrintLast Go.Proofs.YtbgodajbdbgdfaaDoor.Sig Go.Proofs.YtbgodajbdbgdfaaDoor.Base Go.Proofs.YtbgodajbdbgdfaaDoor.Seq Go.Maps
set_option linter.unusedVariables false
set_option linter.unusedSimpArgs false
theorem is_sg (v : Int) (w : World) : Calls Tryd.prog 48 #[.int .i64 v] w fun e w' => e = .returned (.bool (isg v)) ∧ Below w.heap.size w w' := is_any v w
theorem upd_upd (f : Tb) (p : Int) (a b : Option Pr) : upd (upd f p a) p b = upd f p b := by
  funext q
  unfold upd
  split <;> rfl
section
variable {w : World} {base g m n : Nat} {D : Dm} {B : Int → Nat} {v : Value} {f : Tb} {last : Int} {ends : List (Int × Int)}
set_option maxHeartbeats 4000000 in
set_option maxRecDepth 100000 in
theorem put0_any (h : TV w base g m n D B v f last ends) (pid s : Int) (r : Pr) (hp : (Lit.int .i64 pid).wf = true) (hf : f pid = some r) (hlv : r.live = true) (hs1 : isg s = true) (hfx : fx s = false) :
    Calls Tryd.prog 20 #[.pointer (some ⟨g, 0, none⟩), .int .i64 pid, .int .i64 s, .int .i64 0] w fun e w' => e = .returned (.bool true) ∧ TW w' base g (upd f pid (some (putR r s 0))) last ends ∧ Below base w w' := by
  have H := Aside0.mk h
  have HP := Aside0.mk hp
  have HB := Aside0.mk (Below.refl w.heap.size w)
  have hl : liv f pid = true := by unfold liv; rw [hf]; exact hlv
  have HS := Aside0.mk hs1
  have HFX := Aside0.mk (show fixed s = false from hfx)
  have hbs : base ≤ w.heap.size := Nat.le_trans h.bg (Nat.le_of_lt (blk_lt h.hg))
  have HBS := Aside0.mk hbs
  have HF := Aside0.mk hf
  clear h hp hs1 hfx hbs
  go_enter Tryd.func20, Tryd.ntmps20
  go_upto_region 4 with (first
    | (go_at_call 35; (with_reducible refine (liv_ptr H.out pid HP.out).mono ?_); rintro e w1 ⟨rfl, rfl⟩; rw [hl]; simp only [ptr, if_true])
    | (go_at_call 48; (with_reducible refine (is_sg s _).mono ?_); rintro e w2 ⟨rfl, hB⟩; rw [HS.out]; have n1 := Aside0.mk (below_trans HB.out (below_sub hB HB.out.size)); clear hB HB; have HB := n1; clear n1)
    | (go_at_call 33; (with_reducible refine (sfixed_any s _).mono ?_); rintro e w3 ⟨rfl, hB⟩; rw [HFX.out]; have n1 := Aside0.mk (below_trans HB.out (below_sub hB HB.out.size)); clear hB HB; have HB := n1; clear n1))
  have H3 := Aside0.mk (H.out.below HB.out)
  have pv := H3.out.yes pid r HF.out
  have HI := Aside0.mk pv.ign
  have HC := Aside0.mk pv.ca
  have HPN := Aside0.mk pv.pen
  have c3 : w3.cell? ⟨B pid, 3, none⟩ = some (.int .u32 (r.ign : Int)) := (blk_cell pv.blk 3).trans rfl
  have c4 : w3.cell? ⟨B pid, 4, none⟩ = some (.int .u32 (r.ca : Int)) := (blk_cell pv.blk 4).trans rfl
  clear pv
  refine region_seq (fun w_ => Below w3.heap.size w3 w_) [16, 17, 18, 19]
    [(0, some 32, .pure), (1, some 33, .pure), (2, some 34, .pure), (3, some 35, .pure), (4, some 36, .pure), (6, some 38, .pure), (8, some 40, .pure), (9, some 41, .pure), (10, some 42, .pure), (12, some 44, .pure), (5, some 37, .held), (11, some 43, .held), (7, some 39, .one), (13, some 45, .one), (14, some 46, .pure), (15, some 47, .pure), (16, none, .last), (17, some 48, .last), (18, some 49, .last), (19, none, .last)] (by kernel_rfl) (by kernel_rfl) ?_
  have hS := below_drew (Below.refl w3.heap.size w3)
  repeat (first
    | (refine s_pure (v := ?_) (a' := ?_) rfl (fun _ _ _ h => h) rfl ?hy ?ha ?_; (case hy => (intro w_; go_simp; with_reducible rfl)); (case ha => (simp only [Act.put, List.setIfInBounds_toArray, List.set_cons_zero, List.set_cons_succ, i64_w, i32_w]; rfl)))
    | (refine s_held (v := ?_) (a' := ?_) hS rfl (fun _ _ _ h => h) rfl ?hy ?ha ?_; (case hy => (intro w_ hb_; have s0 := pw_cell_below hb_ c3; have s1 := pw_cell_below hb_ c4; go_simp; with_reducible rfl)); (case ha => (simp only [Act.put, List.setIfInBounds_toArray, List.set_cons_zero, List.set_cons_succ, i64_w, i32_w]; rfl))))
  refine s_oneL rfl (fun K hK => ?_) rfl
  go_wp2_with (go_at_call 54; (with_reducible refine (wto_any r.ign s _ HI.out).mono ?_); rintro e w4 ⟨rfl, hB⟩)
  have hS2 : Below w3.heap.size w3 w4 := hS.trans (below_sub hB hS.size)
  clear hB hS
  refine hK _ _ hS2 ?_
  clear hK
  repeat (first
    | (refine s_pure (v := ?_) (a' := ?_) rfl (fun _ _ _ h => h) rfl ?hy ?ha ?_; (case hy => (intro w_; go_simp; with_reducible rfl)); (case ha => (simp only [Act.put, List.setIfInBounds_toArray, List.set_cons_zero, List.set_cons_succ, i64_w, i32_w]; rfl)))
    | (refine s_held (v := ?_) (a' := ?_) hS rfl (fun _ _ _ h => h) rfl ?hy ?ha ?_; (case hy => (intro w_ hb_; go_simp; with_reducible rfl)); (case ha => (simp only [Act.put, List.setIfInBounds_toArray, List.set_cons_zero, List.set_cons_succ, i64_w, i32_w]; rfl))))
  refine s_oneL rfl (fun K hK => ?_) rfl
  go_wp2_with (go_at_call 54; (with_reducible refine (wto_any r.ca s _ HC.out).mono ?_); rintro e w5 ⟨rfl, hB⟩)
  have hS3 : Below w3.heap.size w3 w5 := hS2.trans (below_sub hB hS2.size)
  clear hB hS2
  refine hK _ _ hS3 ?_
  clear hK
  repeat (first
    | (refine s_pure (v := ?_) (a' := ?_) rfl (fun _ _ _ h => h) rfl ?hy ?ha ?_; (case hy => (intro w_; go_simp; with_reducible rfl)); (case ha => (simp only [Act.put, List.setIfInBounds_toArray, List.set_cons_zero, List.set_cons_succ, i64_w, i32_w]; rfl)))
    | (refine s_held (v := ?_) (a' := ?_) hS rfl (fun _ _ _ h => h) rfl ?hy ?ha ?_; (case hy => (intro w_ hb_; go_simp; with_reducible rfl)); (case ha => (simp only [Act.put, List.setIfInBounds_toArray, List.set_cons_zero, List.set_cons_succ, i64_w, i32_w]; rfl))))
  refine s_tail 16 _ (by kernel_rfl) ?_
  simp only [List.drop_succ_cons, List.drop_zero]
  have H5 := Aside0.mk (H3.out.below hS3)
  have HB5 := Aside0.mk (HB.out.trans (below_sub hS3 HB.out.size))
  clear c3 c4 hS3 H3 HB H
  have pv := H5.out.yes pid r HF.out
  have c3 : w5.cell? ⟨B pid, 3, none⟩ = some (.int .u32 (r.ign : Int)) := (blk_cell pv.blk 3).trans rfl
  have c4 : w5.cell? ⟨B pid, 4, none⟩ = some (.int .u32 (r.ca : Int)) := (blk_cell pv.blk 4).trans rfl
  have f3 := blk_frozen pv.blk 3
  have f4 := blk_frozen pv.blk 4
  have HLW := Aside0.mk pv.low
  have HPR := Aside0.mk pv.par
  clear pv
  have HI1 := Aside0.mk (wto_lt s HI.out)
  have HC1 := Aside0.mk (wto_lt s HC.out)
  have H6 := Aside0.mk (H5.out.put (r' := { r with ign := wto r.ign s }) (j := 3) (u := .int .u32 ((wto r.ign s : Nat) : Int)) HF.out rfl HPR.out HI1.out HC.out HPN.out)
  have H7 := Aside0.mk (H6.out.put (q := pid) (r' := { r with ign := wto r.ign s, ca := wto r.ca s }) (j := 4) (u := .int .u32 ((wto r.ca s : Nat) : Int)) (upd_same _ _ _) rfl HPR.out HI1.out HC1.out HPN.out)
  have HB7 := Aside0.mk (((below_sub HB5.out HBS.out).setCell (p := ⟨B pid, 3, none⟩) HLW.out (.int .u32 ((wto r.ign s : Nat) : Int))).setCell (p := ⟨B pid, 4, none⟩) HLW.out (.int .u32 ((wto r.ca s : Nat) : Int)))
  clear H5 HB5 H6
  go_upto_region 5 with (fail)
  generalize (w5.setCell ⟨B pid, 3, none⟩ (.int .u32 ((wto r.ign s : Nat) : Int))).setCell ⟨B pid, 4, none⟩ (.int .u32 ((wto r.ca s : Nat) : Int)) = w7 at *
  clear c3 c4 f3 f4
  rw [upd_upd] at H7
  have HF7 := Aside0.mk (upd_same f pid (some { r with ign := wto r.ign s, ca := wto r.ca s }))
  generalize hr1 : ({ r with ign := wto r.ign s, ca := wto r.ca s } : Pr) = r1 at *
  have pv := H7.out.yes pid r1 HF7.out
  have b3 : w7.cell? ⟨B pid, 3, none⟩ = some (.int .u32 (r1.ign : Int)) := (blk_cell pv.blk 3).trans rfl
  have b4 : w7.cell? ⟨B pid, 4, none⟩ = some (.int .u32 (r1.ca : Int)) := (blk_cell pv.blk 4).trans rfl
  have b5 : w7.cell? ⟨B pid, 5, none⟩ = some (.int .u32 (r1.pen : Int)) := (blk_cell pv.blk 5).trans rfl
  have HK7 := Aside0.mk pv.blk
  have HI7 := Aside0.mk pv.ign
  have HC7 := Aside0.mk pv.ca
  have HN7 := Aside0.mk pv.pen
  have HP7 := Aside0.mk pv.par
  have HL7 := Aside0.mk pv.low
  have HR1 := Aside0.mk hr1
  clear pv hr1
  go_wp2_with (go_at_call 54; (with_reducible refine (wto_any r1.pen s _ HN7.out).mono ?_); rintro e w8 ⟨rfl, hB⟩; have H8 := Aside0.mk (H7.out.below hB); have c5 := (blk_cell (blk_below HK7.out hB) 5).trans rfl; have f5 := blk_frozen (blk_below HK7.out hB) 5; have HB8 := Aside0.mk (HB7.out.trans (below_sub hB (Nat.le_trans HBS.out HB7.out.size))); clear hB b3 b4 b5)
  go_ret
  have e : ({ r1 with pen := wto r1.pen s } : Pr) = putR r s 0 := by unfold putR; rw [if_neg (by decide), if_neg (by decide), ← HR1.out]
  have T := H8.out.put (q := pid) (r' := { r1 with pen := wto r1.pen s }) (j := 5) (u := .int .u32 ((wto r1.pen s : Nat) : Int)) HF7.out rfl HP7.out HI7.out HC7.out (wto_lt s HN7.out)
  rw [upd_upd, e] at T
  exact ⟨rfl, ⟨_, _, _, _, _, T⟩, HB8.out.setCell (p := ⟨B pid, 5, none⟩) HL7.out _⟩
set_option maxHeartbeats 4000000 in
set_option maxRecDepth 100000 in
theorem put2_any (h : TV w base g m n D B v f last ends) (pid s : Int) (r : Pr) (hp : (Lit.int .i64 pid).wf = true) (hf : f pid = some r) (hlv : r.live = true) (hs1 : isg s = true) (hfx : fx s = false) :
    Calls Tryd.prog 20 #[.pointer (some ⟨g, 0, none⟩), .int .i64 pid, .int .i64 s, .int .i64 2] w fun e w' => e = .returned (.bool true) ∧ TW w' base g (upd f pid (some (putR r s 2))) last ends ∧ Below base w w' := by
  have H := Aside0.mk h
  have HP := Aside0.mk hp
  have HB := Aside0.mk (Below.refl w.heap.size w)
  have hl : liv f pid = true := by unfold liv; rw [hf]; exact hlv
  have HS := Aside0.mk hs1
  have HFX := Aside0.mk (show fixed s = false from hfx)
  have hbs : base ≤ w.heap.size := Nat.le_trans h.bg (Nat.le_of_lt (blk_lt h.hg))
  have HBS := Aside0.mk hbs
  have HF := Aside0.mk hf
  clear h hp hs1 hfx hbs
  go_enter Tryd.func20, Tryd.ntmps20
  go_upto_region 4 with (first
    | (go_at_call 35; (with_reducible refine (liv_ptr H.out pid HP.out).mono ?_); rintro e w1 ⟨rfl, rfl⟩; rw [hl]; simp only [ptr, if_true])
    | (go_at_call 48; (with_reducible refine (is_sg s _).mono ?_); rintro e w2 ⟨rfl, hB⟩; rw [HS.out]; have n1 := Aside0.mk (below_trans HB.out (below_sub hB HB.out.size)); clear hB HB; have HB := n1; clear n1)
    | (go_at_call 33; (with_reducible refine (sfixed_any s _).mono ?_); rintro e w3 ⟨rfl, hB⟩; rw [HFX.out]; have n1 := Aside0.mk (below_trans HB.out (below_sub hB HB.out.size)); clear hB HB; have HB := n1; clear n1))
  have H3 := Aside0.mk (H.out.below HB.out)
  have pv := H3.out.yes pid r HF.out
  have HI := Aside0.mk pv.ign
  have HC := Aside0.mk pv.ca
  have HPN := Aside0.mk pv.pen
  have c3 : w3.cell? ⟨B pid, 3, none⟩ = some (.int .u32 (r.ign : Int)) := (blk_cell pv.blk 3).trans rfl
  have c4 : w3.cell? ⟨B pid, 4, none⟩ = some (.int .u32 (r.ca : Int)) := (blk_cell pv.blk 4).trans rfl
  clear pv
  refine region_seq (fun w_ => Below w3.heap.size w3 w_) [16, 17, 18, 19]
    [(0, some 32, .pure), (1, some 33, .pure), (2, some 34, .pure), (3, some 35, .pure), (4, some 36, .pure), (6, some 38, .pure), (8, some 40, .pure), (9, some 41, .pure), (10, some 42, .pure), (12, some 44, .pure), (5, some 37, .held), (11, some 43, .held), (7, some 39, .one), (13, some 45, .one), (14, some 46, .pure), (15, some 47, .pure), (16, none, .last), (17, some 48, .last), (18, some 49, .last), (19, none, .last)] (by kernel_rfl) (by kernel_rfl) ?_
  have hS := below_drew (Below.refl w3.heap.size w3)
  repeat (first
    | (refine s_pure (v := ?_) (a' := ?_) rfl (fun _ _ _ h => h) rfl ?hy ?ha ?_; (case hy => (intro w_; go_simp; with_reducible rfl)); (case ha => (simp only [Act.put, List.setIfInBounds_toArray, List.set_cons_zero, List.set_cons_succ, i64_w, i32_w]; rfl)))
    | (refine s_held (v := ?_) (a' := ?_) hS rfl (fun _ _ _ h => h) rfl ?hy ?ha ?_; (case hy => (intro w_ hb_; have s0 := pw_cell_below hb_ c3; have s1 := pw_cell_below hb_ c4; go_simp; with_reducible rfl)); (case ha => (simp only [Act.put, List.setIfInBounds_toArray, List.set_cons_zero, List.set_cons_succ, i64_w, i32_w]; rfl))))
  refine s_oneL rfl (fun K hK => ?_) rfl
  go_wp2_with (go_at_call 54; (with_reducible refine (wto_any r.ign s _ HI.out).mono ?_); rintro e w4 ⟨rfl, hB⟩)
  have hS2 : Below w3.heap.size w3 w4 := hS.trans (below_sub hB hS.size)
  clear hB hS
  refine hK _ _ hS2 ?_
  clear hK
  repeat (first
    | (refine s_pure (v := ?_) (a' := ?_) rfl (fun _ _ _ h => h) rfl ?hy ?ha ?_; (case hy => (intro w_; go_simp; with_reducible rfl)); (case ha => (simp only [Act.put, List.setIfInBounds_toArray, List.set_cons_zero, List.set_cons_succ, i64_w, i32_w]; rfl)))
    | (refine s_held (v := ?_) (a' := ?_) hS rfl (fun _ _ _ h => h) rfl ?hy ?ha ?_; (case hy => (intro w_ hb_; go_simp; with_reducible rfl)); (case ha => (simp only [Act.put, List.setIfInBounds_toArray, List.set_cons_zero, List.set_cons_succ, i64_w, i32_w]; rfl))))
  refine s_oneL rfl (fun K hK => ?_) rfl
  go_wp2_with (go_at_call 54; (with_reducible refine (wto_any r.ca s _ HC.out).mono ?_); rintro e w5 ⟨rfl, hB⟩)
  have hS3 : Below w3.heap.size w3 w5 := hS2.trans (below_sub hB hS2.size)
  clear hB hS2
  refine hK _ _ hS3 ?_
  clear hK
  repeat (first
    | (refine s_pure (v := ?_) (a' := ?_) rfl (fun _ _ _ h => h) rfl ?hy ?ha ?_; (case hy => (intro w_; go_simp; with_reducible rfl)); (case ha => (simp only [Act.put, List.setIfInBounds_toArray, List.set_cons_zero, List.set_cons_succ, i64_w, i32_w]; rfl)))
    | (refine s_held (v := ?_) (a' := ?_) hS rfl (fun _ _ _ h => h) rfl ?hy ?ha ?_; (case hy => (intro w_ hb_; go_simp; with_reducible rfl)); (case ha => (simp only [Act.put, List.setIfInBounds_toArray, List.set_cons_zero, List.set_cons_succ, i64_w, i32_w]; rfl))))
  refine s_tail 16 _ (by kernel_rfl) ?_
  simp only [List.drop_succ_cons, List.drop_zero]
  have H5 := Aside0.mk (H3.out.below hS3)
  have HB5 := Aside0.mk (HB.out.trans (below_sub hS3 HB.out.size))
  clear c3 c4 hS3 H3 HB H
  have pv := H5.out.yes pid r HF.out
  have c3 : w5.cell? ⟨B pid, 3, none⟩ = some (.int .u32 (r.ign : Int)) := (blk_cell pv.blk 3).trans rfl
  have c4 : w5.cell? ⟨B pid, 4, none⟩ = some (.int .u32 (r.ca : Int)) := (blk_cell pv.blk 4).trans rfl
  have f3 := blk_frozen pv.blk 3
  have f4 := blk_frozen pv.blk 4
  have HLW := Aside0.mk pv.low
  have HPR := Aside0.mk pv.par
  clear pv
  have HI1 := Aside0.mk (wto_lt s HI.out)
  have HC1 := Aside0.mk (wto_lt s HC.out)
  have H6 := Aside0.mk (H5.out.put (r' := { r with ign := wto r.ign s }) (j := 3) (u := .int .u32 ((wto r.ign s : Nat) : Int)) HF.out rfl HPR.out HI1.out HC.out HPN.out)
  have H7 := Aside0.mk (H6.out.put (q := pid) (r' := { r with ign := wto r.ign s, ca := wto r.ca s }) (j := 4) (u := .int .u32 ((wto r.ca s : Nat) : Int)) (upd_same _ _ _) rfl HPR.out HI1.out HC1.out HPN.out)
  have HB7 := Aside0.mk (((below_sub HB5.out HBS.out).setCell (p := ⟨B pid, 3, none⟩) HLW.out (.int .u32 ((wto r.ign s : Nat) : Int))).setCell (p := ⟨B pid, 4, none⟩) HLW.out (.int .u32 ((wto r.ca s : Nat) : Int)))
  clear H5 HB5 H6
  go_upto_region 5 with (fail)
  generalize (w5.setCell ⟨B pid, 3, none⟩ (.int .u32 ((wto r.ign s : Nat) : Int))).setCell ⟨B pid, 4, none⟩ (.int .u32 ((wto r.ca s : Nat) : Int)) = w7 at *
  clear c3 c4 f3 f4
  rw [upd_upd] at H7
  have HF7 := Aside0.mk (upd_same f pid (some { r with ign := wto r.ign s, ca := wto r.ca s }))
  generalize hr1 : ({ r with ign := wto r.ign s, ca := wto r.ca s } : Pr) = r1 at *
  have pv := H7.out.yes pid r1 HF7.out
  have b3 : w7.cell? ⟨B pid, 3, none⟩ = some (.int .u32 (r1.ign : Int)) := (blk_cell pv.blk 3).trans rfl
  have b4 : w7.cell? ⟨B pid, 4, none⟩ = some (.int .u32 (r1.ca : Int)) := (blk_cell pv.blk 4).trans rfl
  have b5 : w7.cell? ⟨B pid, 5, none⟩ = some (.int .u32 (r1.pen : Int)) := (blk_cell pv.blk 5).trans rfl
  have HK7 := Aside0.mk pv.blk
  have HI7 := Aside0.mk pv.ign
  have HC7 := Aside0.mk pv.ca
  have HN7 := Aside0.mk pv.pen
  have HP7 := Aside0.mk pv.par
  have HL7 := Aside0.mk pv.low
  have HR1 := Aside0.mk hr1
  clear pv hr1
  go_wp2_with (go_at_call 34; (with_reducible refine (with_any r1.ca s _ HC7.out).mono ?_); rintro e w8 ⟨rfl, hB⟩; have H8 := Aside0.mk (H7.out.below hB); have c4 := (blk_cell (blk_below HK7.out hB) 4).trans rfl; have f4 := blk_frozen (blk_below HK7.out hB) 4; have HB8 := Aside0.mk (HB7.out.trans (below_sub hB (Nat.le_trans HBS.out HB7.out.size))); clear hB b3 b4 b5)
  go_ret
  have e : ({ r1 with ca := wth r1.ca s } : Pr) = putR r s 2 := by unfold putR; rw [if_neg (by decide), if_pos rfl, ← HR1.out]
  have T := H8.out.put (q := pid) (r' := { r1 with ca := wth r1.ca s }) (j := 4) (u := .int .u32 ((wth r1.ca s : Nat) : Int)) HF7.out rfl HP7.out HI7.out (wth_lt s HC7.out) HN7.out
  rw [upd_upd, e] at T
  exact ⟨rfl, ⟨_, _, _, _, _, T⟩, HB8.out.setCell (p := ⟨B pid, 4, none⟩) HL7.out _⟩
/-- Nothing is put. -/
theorem put_off {f : Tb} {pid s h : Int} (hb : putB f pid s h = false) : putT f pid s h = f := by
  unfold putT
  rw [hb]; rfl
set_option maxHeartbeats 4000000 in
set_option maxRecDepth 100000 in
theorem putno_any (h : TV w base g m n D B v f last ends) (pid s k : Int) (hp : (Lit.int .i64 pid).wf = true) (hl : liv f pid = true) (hs1 : isg s = true) (hfx : fx s = true) :
    Calls Tryd.prog 20 #[.pointer (some ⟨g, 0, none⟩), .int .i64 pid, .int .i64 s, .int .i64 k] w fun e w' => e = .returned (.bool false) ∧ Below w.heap.size w w' := by
  have H := Aside0.mk h
  have HP := Aside0.mk hp
  have HB := Aside0.mk (Below.refl w.heap.size w)
  have HS := Aside0.mk hs1
  have HFX := Aside0.mk (show fixed s = true from hfx)
  clear h hp hs1 hfx
  go_enter Tryd.func20, Tryd.ntmps20
  go_wp2_with (first
    | (go_at_call 35; (with_reducible refine (liv_ptr H.out pid HP.out).mono ?_); rintro e w1 ⟨rfl, rfl⟩; rw [hl]; simp only [ptr, if_true])
    | (go_at_call 48; (with_reducible refine (is_sg s _).mono ?_); rintro e w2 ⟨rfl, hB⟩; rw [HS.out]; have n1 := Aside0.mk (below_trans HB.out (below_sub hB HB.out.size)); clear hB HB; have HB := n1; clear n1)
    | (go_at_call 33; (with_reducible refine (sfixed_any s _).mono ?_); rintro e w3 ⟨rfl, hB⟩; rw [HFX.out]; have n1 := Aside0.mk (below_trans HB.out (below_sub hB HB.out.size)); clear hB HB; have HB := n1; clear n1))
  go_ret
  exact ⟨rfl, HB.out⟩
end
end Go.Proofs.YtbgodajbdbgdfaaDoor.Kern
