/- frame: Break, Continue, Return: their contracts. -/
import Derived.Test.YtkepmbkghmkodaaFrameOps
import Derived.Test.YtkepmbkghmkodaaFrameFind
import Derived.Laws.CopyOwn
import Derived.Laws.Rows
namespace Go.Proofs.Ytkepmbkghmkodaa.Frame
open Go.RowKit Go.Proofs.YtkepmbkghmkodaaW.PrintWords Go.Proofs.YtkepmbkghmkodaaW.PrintLast Go.Proofs.Ytkepmbkghmkodaa.Base Go.Proofs.Ytkepmbkghmkodaa.Seq
set_option linter.unusedVariables false
set_option linter.unusedSimpArgs false
theorem StR_open {w : World} {base g : Nat} {r : List It} (h : StR w base g r) : ∃ A c, w.heap[g]? = some (.cells #[.slice A r.length c] 56 (0, 0)) ∧ base ≤ g ∧ kIt.R 60 w base ok0 (.slice A r.length c) r.reverse ∧ r.length ≤ c ∧ base ≤ w.heap.size := by
  obtain ⟨v, hg, hb, hR⟩ := h
  obtain ⟨A, c, rfl, hlc, hC⟩ := Kd.R_reads hR
  rw [List.length_reverse] at hg hR hlc
  exact ⟨A, c, hg, hb, hR, hlc, by have := blk_lt hg; omega⟩
theorem StR_take {w w1 : World} {base g : Nat} {r r' pre : List It} {x : It} {A : Option Addr} {c : Nat} (hg : w.heap[g]? = some (.cells #[.slice A r.length c] 56 (0, 0))) (hb : base ≤ g) (hR : kIt.R 60 w base ok0 (.slice A r.length c) r.reverse) (e : r = pre ++ x :: r') (hw : w1 = w.setCell ⟨g, 0, none⟩ (.slice A r'.length c)) : StR w1 base g r' := by
  subst hw
  obtain ⟨h1, h2, h3⟩ := rev_split (l := r.reverse) (by rw [List.reverse_reverse]; exact e)
  exact ⟨_, blk_put hg 0 _ rfl, hb, by rw [← h2]; exact Kd.R_set (Kd.R_take hR (Nat.le_of_lt h1)) hg (by decide) _ _⟩
set_option maxHeartbeats 2000000 in
set_option maxRecDepth 100000 in
theorem brk_any (base g : Nat) (r : List It) (n : Int) (w : World) (h : StR w base g r) (h0 : -9223372036854775808 ≤ n) (h1 : n ≤ 9223372036854775807) (hl : r.length ≤ 4294967296) :
    Calls Try.prog 27 #[.pointer (some ⟨g, 0, none⟩), .int .i64 n] w fun e w' => e = .returned (.bool (brkB r n)) ∧ StR w' base g (brkR r n) ∧ Below base w w' ∧ Keeps w w' := by
  have HS := Aside0.mk h
  obtain ⟨A, c, hg, hbg, hR, hlc, hbl⟩ := StR_open h
  clear h hg hR
  have hcl := cntR_le r
  cases hb : brkB r n with
  | false =>
    rw [(brk_off hb).1]
    have hb' := hb
    unfold brkB at hb'
    by_cases hn : n < 1
    · have c1 : decide (n < 1) = true := decide_eq_true hn
      clear hb hb' hn
      go_enter Try.func27, Try.ntmps27
      go_wp2
      go_ret
      exact ⟨rfl, HS.out, Below.refl _ _, keeps_refl _⟩
    · have c1 : decide (n < 1) = false := decide_eq_false hn
      have c2 : decide ((cntR r : Int) < n) = true := by rw [c1] at hb'; simpa using hb'
      clear hb hb'
      go_enter Try.func27, Try.ntmps27
      go_wp2_with (go_at_call 26; (with_reducible refine (loops_any base g r _ HS.out hl).mono ?_); rintro e w1 ⟨rfl, hB⟩; have HB := Aside0.mk hB; clear hB)
      go_ret
      exact ⟨rfl, StR_below HS.out HB.out, below_sub HB.out hbl, keeps_below HB.out⟩
  | true =>
    obtain ⟨x, r', pre, hc, hs, hf, e1, _⟩ := brk_cut hb
    rw [e1]
    have hb' := hb
    unfold brkB at hb'
    simp only [Bool.and_eq_true, Bool.not_eq_true'] at hb'
    obtain ⟨c1, c2⟩ := hb'
    have hn : 1 ≤ n := by have := of_decide_eq_false c1; omega
    have HF := Aside0.mk hf
    have HE := Aside0.mk hs
    have hlr : r'.length < r.length := by rw [hs]; simp; omega
    clear hb hc hs hf e1
    go_enter Try.func27, Try.ntmps27
    go_upto_region 3 with (go_at_call 26; (with_reducible refine (loops_any base g r _ HS.out hl).mono ?_); rintro e w1 ⟨rfl, hB⟩; have HB := Aside0.mk hB; clear hB)
    obtain ⟨A1, cp, hg, _, hR, hlc1, hbl1⟩ := StR_open (StR_below HS.out HB.out)
    have c0 : w1.cell? ⟨g, 0, none⟩ = some (.slice A1 r.length cp) := (blk_cell hg 0).trans rfl
    have HG := Aside0.mk hg
    have HR := Aside0.mk hR
    clear hg hR
    have hw1 : wrap64 (n - 1) = n - 1 := by unfold wrap64; omega
    refine region_seq (fun w_ => Below w1.heap.size w1 w_) [12]
      [(0, some 13, .pure), (1, some 14, .pure), (2, some 15, .pure), (3, some 16, .pure), (5, some 18, .pure), (6, some 19, .pure), (7, some 20, .pure), (4, some 17, .held), (8, some 21, .one), (9, some 22, .pure), (10, some 23, .pure), (11, some 24, .pure), (12, none, .last)] (by kernel_rfl) (by kernel_rfl) ?_
    have hS := below_drew (Below.refl w1.heap.size w1)
    repeat (first
      | (refine s_pure (v := ?_) (a' := ?_) rfl (fun _ _ _ h => h) rfl ?hy ?ha ?_; (case hy => (intro w_; go_simp; with_reducible rfl)); (case ha => (simp only [Act.put, List.setIfInBounds_toArray, List.set_cons_zero, List.set_cons_succ, i64_w, i32_w]; rfl)))
      | (refine s_held (v := ?_) (a' := ?_) hS rfl (fun _ _ _ h => h) rfl ?hy ?ha ?_; (case hy => (intro w_ hb_; have s0 := pw_cell_below hb_ c0; go_simp; with_reducible rfl)); (case ha => (simp only [Act.put, List.setIfInBounds_toArray, List.set_cons_zero, List.set_cons_succ, i64_w, i32_w]; rfl))))
    have hk0 : (0 : Int) ≤ (r'.length : Int) := by omega
    have hk1 : (r'.length : Int) ≤ (cp : Int) := by omega
    refine s_oneL rfl (fun K hK => ?_) rfl
    go_wp2_with (go_at_call 80; (with_reducible refine (find_loop base g r.reverse (n - 1) _ (StR_below (StR_below HS.out HB.out) hS) (by omega) (by omega) (by rw [List.length_reverse]; omega)).mono ?_); rintro e w2 ⟨rfl, hB⟩; rw [List.reverse_reverse, HF.out])
    have hS2 : Below w1.heap.size w1 w2 := hS.trans (below_sub hB hS.size)
    clear hB hS
    refine hK _ _ hS2 ?_
    repeat (first
      | (refine s_pure (v := ?_) (a' := ?_) rfl (fun _ _ _ h => h) rfl ?hy ?ha ?_; (case hy => (intro w_; go_simp; with_reducible rfl)); (case ha => (simp only [Act.put, List.setIfInBounds_toArray, List.set_cons_zero, List.set_cons_succ, i64_w, i32_w]; rfl)))
      | (refine s_held (v := ?_) (a' := ?_) hS rfl (fun _ _ _ h => h) rfl ?hy ?ha ?_; (case hy => (intro w_ hb_; go_simp; with_reducible rfl)); (case ha => (simp only [Act.put, List.setIfInBounds_toArray, List.set_cons_zero, List.set_cons_succ, i64_w, i32_w]; rfl))))
    refine s_tail 12 _ (by kernel_rfl) ?_
    simp only [List.drop_succ_cons, List.drop_zero]
    clear hK
    have hg2 := blk_below HG.out hS2
    have c0' : w2.cell? ⟨g, 0, none⟩ = some (.slice A1 r.length cp) := (blk_cell hg2 0).trans rfl
    have f0 := blk_frozen hg2 0
    have HG2 := Aside0.mk hg2
    have HS2 := Aside0.mk hS2
    clear c0 hS2 hg2
    go_wp2
    go_ret
    have HB2 := below_trans HB.out (below_sub HS2.out HB.out.size)
    exact ⟨rfl, StR_take HG2.out hbg (Kd.R_below HR.out HS2.out) HE.out rfl, (below_sub HB2 hbl).setCell hbg _, keeps_trans (keeps_below HB2) (keeps_set HG2.out _)⟩
theorem StR_item {w : World} {base : Nat} {r r' pre : List It} {x : It} {A : Option Addr} {c : Nat} (hR : kIt.R 60 w base ok0 (.slice A r.length c) r.reverse) (e : r = pre ++ x :: r') : ∃ ad, A = some ad ∧ Cells w (ad.add (r'.length * 14)) x := by
  obtain ⟨h1, h2, h3⟩ := rev_split (l := r.reverse) (by rw [List.reverse_reverse]; exact e)
  obtain ⟨ad, e1, e2⟩ := at_it (R_C hR) r'.length h1
  have := (List.getElem?_eq_some_iff.1 h3).2
  rw [this] at e2
  exact ⟨ad, e1, e2⟩
theorem Cells_below {w w1 : World} {p : Addr} {x : It} (h : Cells w p x) (hb : Below w.heap.size w w1) : Cells w1 p x := by
  obtain ⟨c0, c1, c2, c3, c4, c5, c6, c7, c8, c9, c10, c11, c12, c13⟩ := h
  exact ⟨pw_cell_below hb c0, pw_cell_below hb c1, pw_cell_below hb c2, pw_cell_below hb c3, pw_cell_below hb c4, pw_cell_below hb c5, pw_cell_below hb c6, pw_cell_below hb c7, pw_cell_below hb c8, pw_cell_below hb c9, pw_cell_below hb c10, pw_cell_below hb c11, pw_cell_below hb c12, pw_cell_below hb c13⟩
theorem size_set (w : World) (p : Addr) (u : Value) : (w.setCell p u).heap.size = w.heap.size := by simp [World.setCell]
/-- The same cell put in two worlds that agree below B. -/
theorem below_both {B g i : Nat} {t : TypeId} {cs : Array Value} {u : Value} {w wx : World} (h : Below B w wx) (hg : w.heap[g]? = some (.cells cs t (0, 0))) (hgB : g < B) : Below B (w.setCell ⟨g, i, none⟩ u) (wx.setCell ⟨g, i, none⟩ u) := by
  have a := ((Below.refl 0 w).setCell (p := ⟨g, i, none⟩) (Nat.zero_le _) u)
  have b := ((Below.refl 0 wx).setCell (p := ⟨g, i, none⟩) (Nat.zero_le _) u)
  refine ⟨by rw [b.os, h.os, a.os], by rw [b.tape, h.tape, a.tape], by rw [b.output, h.output, a.output], by
    have e1 : (w.setCell ⟨g, i, none⟩ u).heap.size = w.heap.size := size_set _ _ _
    have := b.size
    have := h.size
    omega, fun k hk => ?_⟩
  by_cases e : k = g
  · subst e
    rw [blk_set hg, blk_set ((h.block k hk).trans hg)]
  · rw [Below.heap_setCell _ _ _ _ e, Below.heap_setCell _ _ _ _ e, h.block k hk]
section
variable {ops : Array Oper} {rest : List Oper} {o : Oper} {a : Act} {Q : Exit → Act → World → Prop}
theorem gate_storeT {W : World} (t p y : Nat) (ho : o.op = .store t (.tmp p) (.tmp y)) (h : wpList Try.prog ops Q (o :: rest) a W) : wpList Try.prog ops Q (o :: rest) a W := h
theorem gate_loadT {W : World} (t p : Nat) (ho : o.op = .load t (.tmp p)) (h : wpList Try.prog ops Q (o :: rest) a W) : wpList Try.prog ops Q (o :: rest) a W := h
theorem it_load {W : World} (hgd : o.guard = none) (p : Tmp) (ho : o.op = .load 60 (.tmp p)) (g : Nat) (X : It) (hx : a.eval (.tmp p) = .pointer (some ⟨g, 0, none⟩)) (hg : W.heap[g]? = some (.cells #[Value.int .i64 X.kind, .int .i64 X.nk, .string X.nname, .bool X.ngiven, .slice X.s1.a X.s1.n X.s1.c, .slice X.s2.a X.s2.n X.s2.c, .slice X.s3.a X.s3.n X.s3.c, .slice X.s4.a X.s4.n X.s4.c, .slice X.s5.a X.s5.n X.s5.c, .int .i64 X.at_, .int .i64 X.status, .bool X.free, .slice X.s6.a X.s6.n X.s6.c, .slice X.s7.a X.s7.n X.s7.c] 60 (0, 0)))
    (h : wpList Try.prog ops Q rest (a.put o.dst (.agg #[Value.int .i64 X.kind, .int .i64 X.nk, .string X.nname, .bool X.ngiven, .slice X.s1.a X.s1.n X.s1.c, .slice X.s2.a X.s2.n X.s2.c, .slice X.s3.a X.s3.n X.s3.c, .slice X.s4.a X.s4.n X.s4.c, .slice X.s5.a X.s5.n X.s5.c, .int .i64 X.at_, .int .i64 X.status, .bool X.free, .slice X.s6.a X.s6.n X.s6.c, .slice X.s7.a X.s7.n X.s7.c])) W) : wpList Try.prog ops Q (o :: rest) a W :=
  wpList_load_row hgd 60 (.tmp p) ho g hx 60 #[Value.int .i64 X.kind, .int .i64 X.nk, .string X.nname, .bool X.ngiven, .slice X.s1.a X.s1.n X.s1.c, .slice X.s2.a X.s2.n X.s2.c, .slice X.s3.a X.s3.n X.s3.c, .slice X.s4.a X.s4.n X.s4.c, .slice X.s5.a X.s5.n X.s5.c, .int .i64 X.at_, .int .i64 X.status, .bool X.free, .slice X.s6.a X.s6.n X.s6.c, .slice X.s7.a X.s7.n X.s7.c] (0, 0) _ hg Try.underlying60 rfl (by kernel_rfl) h
theorem it_put {W : World} (hgd : o.guard = none) (p y : Tmp) (ho : o.op = .store 60 (.tmp p) (.tmp y)) (g : Nat) (cs : Array Value) (Y : It) (hcs : cs.size = 14) (hx : a.eval (.tmp p) = .pointer (some ⟨g, 0, none⟩)) (hy : a.eval (.tmp y) = .agg #[Value.int .i64 Y.kind, .int .i64 Y.nk, .string Y.nname, .bool Y.ngiven, .slice Y.s1.a Y.s1.n Y.s1.c, .slice Y.s2.a Y.s2.n Y.s2.c, .slice Y.s3.a Y.s3.n Y.s3.c, .slice Y.s4.a Y.s4.n Y.s4.c, .slice Y.s5.a Y.s5.n Y.s5.c, .int .i64 Y.at_, .int .i64 Y.status, .bool Y.free, .slice Y.s6.a Y.s6.n Y.s6.c, .slice Y.s7.a Y.s7.n Y.s7.c])
    (hg : W.heap[g]? = some (.cells cs 60 (0, 0)))
    (h : ∀ w1, w1.heap[g]? = some (.cells #[Value.int .i64 Y.kind, .int .i64 Y.nk, .string Y.nname, .bool Y.ngiven, .slice Y.s1.a Y.s1.n Y.s1.c, .slice Y.s2.a Y.s2.n Y.s2.c, .slice Y.s3.a Y.s3.n Y.s3.c, .slice Y.s4.a Y.s4.n Y.s4.c, .slice Y.s5.a Y.s5.n Y.s5.c, .int .i64 Y.at_, .int .i64 Y.status, .bool Y.free, .slice Y.s6.a Y.s6.n Y.s6.c, .slice Y.s7.a Y.s7.n Y.s7.c] 60 (0, 0)) → (∀ B, B ≤ g → Below B W w1) → wpList Try.prog ops Q rest (a.put o.dst undef) w1) : wpList Try.prog ops Q (o :: rest) a W := by
  refine wpList_store_row hgd 60 (.tmp p) (.tmp y) ho g #[Value.int .i64 Y.kind, .int .i64 Y.nk, .string Y.nname, .bool Y.ngiven, .slice Y.s1.a Y.s1.n Y.s1.c, .slice Y.s2.a Y.s2.n Y.s2.c, .slice Y.s3.a Y.s3.n Y.s3.c, .slice Y.s4.a Y.s4.n Y.s4.c, .slice Y.s5.a Y.s5.n Y.s5.c, .int .i64 Y.at_, .int .i64 Y.status, .bool Y.free, .slice Y.s6.a Y.s6.n Y.s6.c, .slice Y.s7.a Y.s7.n Y.s7.c] hx hy 60 cs hg (by kernel_rfl) hcs (by rw [Array.all_eq_true_iff_forall_mem]; exact fun v hv => It.cells_one Y v (by simpa [It.cells] using hv)) ?_
  exact h _ (setRow_heap _ _ _ _ _ _ hg) (fun B hB => below_setRow (Below.refl _ _) hB _)
end
theorem it_cells {w : World} {g : Nat} {X : It} (hg : w.heap[g]? = some (.cells #[Value.int .i64 X.kind, .int .i64 X.nk, .string X.nname, .bool X.ngiven, .slice X.s1.a X.s1.n X.s1.c, .slice X.s2.a X.s2.n X.s2.c, .slice X.s3.a X.s3.n X.s3.c, .slice X.s4.a X.s4.n X.s4.c, .slice X.s5.a X.s5.n X.s5.c, .int .i64 X.at_, .int .i64 X.status, .bool X.free, .slice X.s6.a X.s6.n X.s6.c, .slice X.s7.a X.s7.n X.s7.c] 60 (0, 0))) : Cells w ⟨g, 0, none⟩ X := cells_box hg
set_option maxHeartbeats 2000000 in
set_option maxRecDepth 100000 in
theorem ret_no (base g : Nat) (r : List It) (w : World) (h : StR w base g r) (hl : r.length ≤ 4294967296) (hc : cut isBack r 0 = none) :
    Calls Try.prog 29 #[.pointer (some ⟨g, 0, none⟩)] w fun e w' => e = .returned (.tuple #[.agg #[Value.int .i64 0, .int .i64 0, .string ⟨#[]⟩, .bool false, .slice none 0 0, .slice none 0 0, .slice none 0 0, .slice none 0 0, .slice none 0 0, .int .i64 0, .int .i64 0, .bool false, .slice none 0 0, .slice none 0 0], .bool false]) ∧ StR w' base g r ∧ Below base w w' ∧ Keeps w w' := by
  have HS := Aside0.mk h
  have hbl : base ≤ w.heap.size := by obtain ⟨A, c, hg, hbg, hR, hlc, hbl⟩ := StR_open h; exact hbl
  have HF := Aside0.mk (findR_cut isBack r 0)
  rw [hc] at HF
  clear h
  have HA := Aside0.mk (blk_new w (.cells #[Value.int .i64 0, .int .i64 0, .string ⟨#[]⟩, .bool false, .slice none 0 0, .slice none 0 0, .slice none 0 0, .slice none 0 0, .slice none 0 0, .int .i64 0, .int .i64 0, .bool false, .slice none 0 0, .slice none 0 0] 60))
  have HB := Aside0.mk (below_alloc (Below.refl w.heap.size w) (.cells #[Value.int .i64 0, .int .i64 0, .string ⟨#[]⟩, .bool false, .slice none 0 0, .slice none 0 0, .slice none 0 0, .slice none 0 0, .slice none 0 0, .int .i64 0, .int .i64 0, .bool false, .slice none 0 0, .slice none 0 0] 60))
  go_enter Try.func29, Try.ntmps29
  go_upto_region 1 with (fail)
  generalize w.alloc (.cells #[Value.int .i64 0, .int .i64 0, .string ⟨#[]⟩, .bool false, .slice none 0 0, .slice none 0 0, .slice none 0 0, .slice none 0 0, .slice none 0 0, .int .i64 0, .int .i64 0, .bool false, .slice none 0 0, .slice none 0 0] 60) = wa at *
  go_wp2_with (first
    | (go_at_call 80; (with_reducible refine (find_back base g r.reverse 0 _ (StR_below HS.out HB.out) (by omega) (by omega) (by rw [List.length_reverse]; omega)).mono ?_); rintro e w1 ⟨rfl, hB⟩; rw [List.reverse_reverse, show findR isBack r 0 = -1 from HF.out]; have n0 := Aside0.mk (below_trans HB.out (below_sub hB HB.out.size)); have n1 := Aside0.mk (blk_below HA.out hB); clear hB HA HB; have HA := n1; have HB := n0; clear n0 n1)
    | ((with_reducible refine gate_storeT 60 2 10 rfl ?_); refine it_put rfl 2 10 rfl w.heap.size _ default rfl rfl rfl HA.out ?_; intro w2 hg hbx; have n0 := Aside0.mk (below_trans HB.out (hbx _ (Nat.le_refl _))); have HX := Aside0.mk hg; clear hbx HA HB; have HB := n0; clear n0 hg))
  ((try simp only [Exit.inBlock, Exit.then]); refine bodyPost_ret (results_ct rfl _ _ _ 60 _ (0, 0) _ rfl HX.out Try.underlying60 rfl (by kernel_rfl)) rfl ?_)
  exact ⟨rfl, StR_below HS.out HB.out, below_sub HB.out hbl, keeps_below HB.out⟩
set_option maxHeartbeats 4000000 in
set_option maxRecDepth 100000 in
theorem ret_yes (base g : Nat) (r r' : List It) (x : It) (w : World) (h : StR w base g r) (hl : r.length ≤ 4294967296) (hc : cut isBack r 0 = some (x, r')) :
    Calls Try.prog 29 #[.pointer (some ⟨g, 0, none⟩)] w fun e w' => e = .returned (.tuple #[.agg #[Value.int .i64 x.kind, .int .i64 x.nk, .string x.nname, .bool x.ngiven, .slice x.s1.a x.s1.n x.s1.c, .slice x.s2.a x.s2.n x.s2.c, .slice x.s3.a x.s3.n x.s3.c, .slice x.s4.a x.s4.n x.s4.c, .slice x.s5.a x.s5.n x.s5.c, .int .i64 x.at_, .int .i64 x.status, .bool x.free, .slice x.s6.a x.s6.n x.s6.c, .slice x.s7.a x.s7.n x.s7.c], .bool true]) ∧ StR w' base g r' ∧ Below base w w' ∧ Keeps w w' := by
  have HS := Aside0.mk h
  obtain ⟨A0, cp, hg0, hbg, hR0, hlc1, hbl⟩ := StR_open h
  have hglt := blk_lt hg0
  have HF := Aside0.mk (findR_cut isBack r 0)
  rw [hc] at HF
  obtain ⟨pre, hs⟩ := cut_split isBack hc
  have HE := Aside0.mk hs
  have hlr : r'.length < r.length := by rw [hs]; simp; omega
  have HG0 := Aside0.mk hg0
  have HR0 := Aside0.mk hR0
  clear h hs hc hg0 hR0
  have hn0 : decide ((r'.length : Int) < 0) = false := decide_eq_false (by omega)
  have HA := Aside0.mk (blk_new w (.cells #[Value.int .i64 0, .int .i64 0, .string ⟨#[]⟩, .bool false, .slice none 0 0, .slice none 0 0, .slice none 0 0, .slice none 0 0, .slice none 0 0, .int .i64 0, .int .i64 0, .bool false, .slice none 0 0, .slice none 0 0] 60))
  have HB := Aside0.mk (below_alloc (Below.refl w.heap.size w) (.cells #[Value.int .i64 0, .int .i64 0, .string ⟨#[]⟩, .bool false, .slice none 0 0, .slice none 0 0, .slice none 0 0, .slice none 0 0, .slice none 0 0, .int .i64 0, .int .i64 0, .bool false, .slice none 0 0, .slice none 0 0] 60))
  go_enter Try.func29, Try.ntmps29
  go_upto_region 1 with (fail)
  generalize w.alloc (.cells #[Value.int .i64 0, .int .i64 0, .string ⟨#[]⟩, .bool false, .slice none 0 0, .slice none 0 0, .slice none 0 0, .slice none 0 0, .slice none 0 0, .int .i64 0, .int .i64 0, .bool false, .slice none 0 0, .slice none 0 0] 60) = wa at *
  go_upto_region 4 with (go_at_call 80; (with_reducible refine (find_back base g r.reverse 0 _ (StR_below HS.out HB.out) (by omega) (by omega) (by rw [List.length_reverse]; omega)).mono ?_); rintro e w1 ⟨rfl, hB⟩; rw [List.reverse_reverse, show findR isBack r 0 = (r'.length : Int) from HF.out]; have n0 := Aside0.mk (below_trans HB.out (below_sub hB HB.out.size)); have n1 := Aside0.mk (blk_below HA.out hB); clear hB HA HB; have HA := n1; have HB := n0; clear n0 n1)
  have hg := blk_below HG0.out HB.out
  have hR := Kd.R_below HR0.out HB.out
  obtain ⟨ad, rfl, k⟩ := StR_item hR HE.out
  obtain ⟨k0, k1, k2, k3, k4, k5, k6, k7, k8, k9, k10, k11, k12, k13⟩ := k
  have c0 : w1.cell? ⟨g, 0, none⟩ = some (.slice (some ad) r.length cp) := (blk_cell hg 0).trans rfl
  have hi0 : (0 : Int) ≤ (r'.length : Int) := by omega
  have hi1 : (r'.length : Int) < (r.length : Int) := by omega
  have HG := Aside0.mk hg
  have HR := Aside0.mk hR
  have HAlt := Aside0.mk (blk_lt HA.out)
  have n2 := Aside0.mk (blk_new w1 (.cells #[Value.int .i64 x.kind, .int .i64 x.nk, .string x.nname, .bool x.ngiven, .slice x.s1.a x.s1.n x.s1.c, .slice x.s2.a x.s2.n x.s2.c, .slice x.s3.a x.s3.n x.s3.c, .slice x.s4.a x.s4.n x.s4.c, .slice x.s5.a x.s5.n x.s5.c, .int .i64 x.at_, .int .i64 x.status, .bool x.free, .slice x.s6.a x.s6.n x.s6.c, .slice x.s7.a x.s7.n x.s7.c] 60))
  have n3 := Aside0.mk (below_alloc (Below.refl w1.heap.size w1) (.cells #[Value.int .i64 x.kind, .int .i64 x.nk, .string x.nname, .bool x.ngiven, .slice x.s1.a x.s1.n x.s1.c, .slice x.s2.a x.s2.n x.s2.c, .slice x.s3.a x.s3.n x.s3.c, .slice x.s4.a x.s4.n x.s4.c, .slice x.s5.a x.s5.n x.s5.c, .int .i64 x.at_, .int .i64 x.status, .bool x.free, .slice x.s6.a x.s6.n x.s6.c, .slice x.s7.a x.s7.n x.s7.c] 60))
  clear hg hR
  go_upto_region 5 with (fail)
  generalize w1.alloc (.cells #[Value.int .i64 x.kind, .int .i64 x.nk, .string x.nname, .bool x.ngiven, .slice x.s1.a x.s1.n x.s1.c, .slice x.s2.a x.s2.n x.s2.c, .slice x.s3.a x.s3.n x.s3.c, .slice x.s4.a x.s4.n x.s4.c, .slice x.s5.a x.s5.n x.s5.c, .int .i64 x.at_, .int .i64 x.status, .bool x.free, .slice x.s6.a x.s6.n x.s6.c, .slice x.s7.a x.s7.n x.s7.c] 60) = w2 at *
  have hg2 := blk_below HG.out n3.out
  have c0' : w2.cell? ⟨g, 0, none⟩ = some (.slice (some ad) r.length cp) := (blk_cell hg2 0).trans rfl
  have f0 := blk_frozen hg2 0
  have hi2 : (r'.length : Int) ≤ (cp : Int) := by omega
  have HG2 := Aside0.mk hg2
  clear hg2 c0 k0 k1 k2 k3 k4 k5 k6 k7 k8 k9 k10 k11 k12 k13
  go_upto_region 6 with (fail)
  have m0 := Aside0.mk (StR_take HG0.out hbg HR0.out HE.out rfl)
  have m4 := Aside0.mk (below_both (i := 0) (u := .slice (some ad) r'.length cp) (below_trans HB.out (below_sub n3.out HB.out.size)) HG0.out hglt)
  have m1 := Aside0.mk (blk_far (blk_below HA.out n3.out) (show w.heap.size ≠ (⟨g, 0, none⟩ : Addr).block by show w.heap.size ≠ g; omega) (.slice (some ad) r'.length cp))
  have m2 := Aside0.mk (blk_far n2.out (show w1.heap.size ≠ (⟨g, 0, none⟩ : Addr).block by have := HAlt.out; show w1.heap.size ≠ g; omega) (.slice (some ad) r'.length cp))
  have m3 := Aside0.mk ((below_sub (below_trans HB.out (below_sub n3.out HB.out.size)) hbl).setCell (p := ⟨g, 0, none⟩) hbg (.slice (some ad) r'.length cp))
  have m6 := Aside0.mk (keeps_trans (keeps_below (below_trans HB.out (below_sub n3.out HB.out.size))) (keeps_set (i := 0) HG2.out (.slice (some ad) r'.length cp)))
  clear c0' f0 HG HR HG2 HA n2 n3 HB
  generalize w2.setCell ⟨g, 0, none⟩ (.slice (some ad) r'.length cp) = w3 at *
  go_wp2_with (first
    | ((with_reducible refine gate_loadT 60 5 rfl ?_); refine it_load rfl 5 rfl w1.heap.size x rfl m2.out ?_)
    | ((with_reducible refine gate_storeT 60 2 27 rfl ?_); refine it_put rfl 2 27 rfl w.heap.size _ x rfl rfl rfl m1.out ?_; intro w4 hg hbx; have n0 := Aside0.mk (below_trans m3.out (hbx _ hbl)); have n1 := Aside0.mk (StR_below m0.out (by rw [size_set]; exact below_trans m4.out (hbx _ (Nat.le_refl _)))); have m7 := Aside0.mk (keeps_over m6.out (hbx _ (Nat.le_refl _)) (Nat.le_refl _)); have HX := Aside0.mk hg; clear hbx m1 m2 hg))
  ((try simp only [Exit.inBlock, Exit.then]); refine bodyPost_ret (results_ct rfl _ _ _ 60 _ (0, 0) _ rfl HX.out Try.underlying60 rfl (by kernel_rfl)) rfl ?_)
  exact ⟨rfl, n1.out, n0.out, m7.out⟩
end Go.Proofs.Ytkepmbkghmkodaa.Frame
