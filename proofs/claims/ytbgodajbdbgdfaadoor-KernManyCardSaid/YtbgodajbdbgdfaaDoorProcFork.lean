/- kern: Fork: its contract. -/
import Derived.Test.YtbgodajbdbgdfaaDoorProcOps
namespace Go.Proofs.YtbgodajbdbgdfaaDoor.Kern
open Go.RowKit Go.Proofs.YtbgodajbdbgdfaaDoorW.PrintWords Go.Proofs.YtbgodajbdbgdfaaDoorW.PrintLast Go.Proofs.YtbgodajbdbgdfaaDoor.Sig Go.Proofs.YtbgodajbdbgdfaaDoor.Base Go.Proofs.YtbgodajbdbgdfaaDoor.Seq Go.Maps
set_option linter.unusedVariables false
set_option linter.unusedSimpArgs false
/-- All processes, in some memory. -/
def TW (w : World) (base g : Nat) (f : Tb) (last : Int) (ends : List (Int × Int)) : Prop := ∃ m n D B v, TV w base g m n D B v f last ends
theorem TW_below {w w' : World} {base g : Nat} {f : Tb} {last : Int} {ends : List (Int × Int)} (h : TW w base g f last ends) (hb : Below w.heap.size w w') : TW w' base g f last ends := by
  obtain ⟨m, n, D, B, v, h⟩ := h
  exact ⟨m, n, D, B, v, h.below hb⟩
theorem below_grown {w w' : World} {base m : Nat} (h : w.grownBy w' (some m)) (hm : base ≤ m) (hb : base ≤ w.heap.size) : Below base w w' := ⟨h.os, h.tape, h.output, h.size, fun i hi => h.block i (by omega) (fun e => by cases e; omega)⟩
theorem wf_i64 {x : Int} (h0 : -9223372036854775808 ≤ x) (h1 : x ≤ 9223372036854775807) : (Lit.int .i64 x).wf = true := by
  simp only [Lit.wf, Bool.and_eq_true, decide_eq_true_eq]
  exact ⟨h0, h1⟩
section
variable {w : World} {base g m n : Nat} {D : Dm} {B : Int → Nat} {v : Value} {f : Tb} {last : Int} {ends : List (Int × Int)}
set_option maxHeartbeats 2000000 in
set_option maxRecDepth 100000 in
theorem fork_any (h : TV w base g m n D B v f last ends) (pid : Int) (r : Pr) (hp : (Lit.int .i64 pid).wf = true) (hf : f pid = some r) (hlv : r.live = true) (hn : last < 1000000) (hsz : Maps.size D < 64) :
    Calls Tryd.prog 7 #[.pointer (some ⟨g, 0, none⟩), .int .i64 pid] w fun e w' => e = .returned (.tuple #[.int .i64 (last + 1), .int .i64 0]) ∧ TW w' base g (upd f (last + 1) (some ⟨pid, true, 0, r.ign, 0, 0⟩)) (last + 1) ends ∧ Below base w w' := by
  have H := Aside0.mk h
  have HP := Aside0.mk hp
  have hl : liv f pid = true := by unfold liv; rw [hf]; exact hlv
  have pv := h.yes pid r hf
  have htop := h.top pid (by rw [hf]; simp)
  have c0 : w.cell? ⟨g, 0, none⟩ = some (.map (some m)) := (blk_cell h.hg 0).trans rfl
  have c1 : w.cell? ⟨g, 1, none⟩ = some (.int .i64 last) := (blk_cell h.hg 1).trans rfl
  have f1 := blk_frozen h.hg 1
  have hw : wrap64 (last + 1) = last + 1 := by unfold wrap64; omega
  have hge : decide ((64 : Int) ≤ (Maps.size D : Int)) = false := decide_eq_false (by omega)
  have HO := Aside0.mk h.own
  have H1 := Aside0.mk (h.setLast (l' := last + 1) (by omega) (by omega))
  have HB1 := Aside0.mk ((Below.refl base w).setCell (p := ⟨g, 1, none⟩) h.bg (.int .i64 (last + 1)))
  have hcn := h.cnt
  have hbs : base ≤ w.heap.size := Nat.le_trans h.bg (Nat.le_of_lt (blk_lt h.hg))
  have HBS := Aside0.mk hbs
  have HF0 := Aside0.mk (show f (last + 1) = none by
    cases e : f (last + 1) with
    | none => rfl
    | some r' => have := h.top (last + 1) (by rw [e]; simp); omega)
  clear h hp pv hbs
  go_enter Tryd.func7, Tryd.ntmps7
  go_upto_region 7 with (first
    | (go_at_call 35; (with_reducible refine (liv_ptr H.out pid HP.out).mono ?_); rintro e w1 ⟨rfl, rfl⟩; rw [hl]; simp only [ptr, if_true])
    | (at_len; refine wpList_len_own _ rfl _ 68 rfl 3 63 Tryd.underlying68 Rp m n D rfl HO.out ?_))
  have HW1 := Aside0.mk (show (w.setCell ⟨g, 1, none⟩ (.int .i64 (last + 1))).heap.size = w.heap.size from by simp [World.setCell])
  clear c0 c1 f1 H HO
  generalize w.setCell ⟨g, 1, none⟩ (.int .i64 (last + 1)) = w1 at *
  have c0 : w1.cell? ⟨g, 0, none⟩ = some (.map (some m)) := (blk_cell H1.out.hg 0).trans rfl
  have c1 : w1.cell? ⟨g, 1, none⟩ = some (.int .i64 (last + 1)) := (blk_cell H1.out.hg 1).trans rfl
  have pv := H1.out.yes pid r hf
  have c3 : w1.cell? ⟨B pid, 3, none⟩ = some (.int .u32 (r.ign : Int)) := (blk_cell pv.blk 3).trans rfl
  have HI := Aside0.mk pv.ign
  clear pv
  refine region_seq (fun w_ => Below w1.heap.size w1 w_) [15]
    [(0, some 27, .pure), (1, some 28, .pure), (2, some 29, .pure), (4, some 31, .pure), (5, some 32, .pure), (6, some 33, .pure), (8, some 35, .pure), (9, some 36, .pure), (10, some 37, .pure), (11, some 38, .pure), (3, some 30, .held), (7, some 34, .held), (12, some 39, .held), (13, some 40, .pure), (14, some 41, .one), (15, none, .last)] (by kernel_rfl) (by kernel_rfl) ?_
  have hS := below_drew (Below.refl w1.heap.size w1)
  repeat (first
    | (refine s_pure (v := ?_) (a' := ?_) rfl (fun _ _ _ h => h) rfl ?hy ?ha ?_; (case hy => (intro w_; go_simp; with_reducible rfl)); (case ha => (simp only [Act.put, List.setIfInBounds_toArray, List.set_cons_zero, List.set_cons_succ, i64_w, i32_w]; rfl)))
    | (refine s_held (v := ?_) (a' := ?_) hS rfl (fun _ _ _ h => h) rfl ?hy ?ha ?_; (case hy => (intro w_ hb_; have s0 := pw_cell_below hb_ c0; have s1 := pw_cell_below hb_ c1; have s2 := pw_cell_below hb_ c3; go_simp; with_reducible rfl)); (case ha => (simp only [Act.put, List.setIfInBounds_toArray, List.set_cons_zero, List.set_cons_succ, i64_w, i32_w]; rfl))))
  (refine s_new (v := ?_) (w1 := ?_) (a' := ?_) rfl rfl rfl ?hy ?ha ?hS ?_; (case hy => (go_simp; first | with_reducible rfl | (refine ⟨?_, ?_⟩ <;> with_reducible rfl))); (case ha => (simp only [Act.put, List.setIfInBounds_toArray, List.set_cons_zero, List.set_cons_succ, i64_w, i32_w]; rfl)); (case hS => (repeat (first | exact hS | exact Below.refl _ _ | refine below_drew ?_ | refine below_alloc ?_ _))))
  refine s_tail 15 _ (by kernel_rfl) ?_
  simp only [List.drop_succ_cons, List.drop_zero]
  have HN := Aside0.mk (blk_new w1.drew (.cells (pcell ⟨pid, true, 0, r.ign, 0, 0⟩) 65))
  have HB2 := Aside0.mk (below_alloc (below_drew (Below.refl w1.heap.size w1)) (.cells (pcell ⟨pid, true, 0, r.ign, 0, 0⟩) 65))
  have H2 := Aside0.mk (H1.out.below HB2.out)
  clear c0 c1 c3 hS
  go_wp2_with (first
    | (at_mapUpdate
       go_loud (refine wpList_mapUpdate_own _ rfl _ _ _ 68 rfl 3 63 keyI Tryd.underlying68 Rp m n D rfl H2.out.own (by unfold maxLen; omega) _ _ (.int .i64 (last + 1)) rfl rfl (keyOf_int_mk Tryd.underlying3 (wf_i64 (by omega) (by omega))) (.lit (.int .i64 (w1.heap.size : Int))) [] rfl ?_)
       intro w3 own3 hgr3
       have H3 := Aside0.mk (H2.out.new HF0.out (by omega) (Int.le_refl _) (by omega) HN.out (show base ≤ w1.drew.heap.size by show base ≤ w1.heap.size; rw [HW1.out]; exact HBS.out)
         (fun q hq => by
           obtain ⟨r', hr'⟩ := Option.ne_none_iff_exists'.1 hq
           have := blk_lt (H1.out.yes q r' hr').blk
           show B q ≠ w1.heap.size
           omega) ⟨by show 0 ≤ pid; omega, by show pid < last + 1; omega⟩ HI.out (by show (0 : Nat) < 4294967296; decide) (by show (0 : Nat) < 4294967296; decide) own3 hgr3)
       have HB3 := Aside0.mk (below_grown hgr3 H1.out.bm (show base ≤ (w1.drew.alloc (.cells (pcell ⟨pid, true, 0, r.ign, 0, 0⟩) 65)).heap.size from Nat.le_trans (by rw [HW1.out]; exact HBS.out) HB2.out.size))
       have c1 : w3.cell? ⟨g, 1, none⟩ = some (.int .i64 (last + 1)) := (blk_cell H3.out.hg 1).trans rfl
       clear own3 hgr3))
  go_ret2
  exact ⟨rfl, ⟨_, _, _, _, _, H3.out⟩, (HB1.out.trans (below_sub HB2.out (by rw [HW1.out]; exact HBS.out))).trans HB3.out⟩
end
end Go.Proofs.YtbgodajbdbgdfaaDoor.Kern
