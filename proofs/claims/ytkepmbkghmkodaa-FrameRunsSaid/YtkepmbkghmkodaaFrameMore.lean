/- frame: Continue, Top, Pop, Saved: their contracts. -/
import Derived.Test.YtkepmbkghmkodaaFrameEnds
namespace Go.Proofs.Ytkepmbkghmkodaa.Frame
open Go.RowKit Go.Proofs.YtkepmbkghmkodaaW.PrintWords Go.Proofs.YtkepmbkghmkodaaW.PrintLast Go.Proofs.Ytkepmbkghmkodaa.Base Go.Proofs.Ytkepmbkghmkodaa.Seq
set_option linter.unusedVariables false
set_option linter.unusedSimpArgs false
set_option maxHeartbeats 4000000 in
set_option maxRecDepth 100000 in
theorem top_no (base g : Nat) (w : World) (h : StR w base g []) :
    Calls Try.prog 84 #[.pointer (some ⟨g, 0, none⟩)] w fun e w' => e = .returned (.tuple #[.agg #[Value.int .i64 0, .int .i64 0, .string ⟨#[]⟩, .bool false, .slice none 0 0, .slice none 0 0, .slice none 0 0, .slice none 0 0, .slice none 0 0, .int .i64 0, .int .i64 0, .bool false, .slice none 0 0, .slice none 0 0], .bool false]) ∧ Below w.heap.size w w' := by
  obtain ⟨A0, cp, hg0, hbg, _, _, hbl⟩ := StR_open h
  have HA := Aside0.mk (blk_new w (.cells #[Value.int .i64 0, .int .i64 0, .string ⟨#[]⟩, .bool false, .slice none 0 0, .slice none 0 0, .slice none 0 0, .slice none 0 0, .slice none 0 0, .int .i64 0, .int .i64 0, .bool false, .slice none 0 0, .slice none 0 0] 60))
  have HB := Aside0.mk (below_alloc (Below.refl w.heap.size w) (.cells #[Value.int .i64 0, .int .i64 0, .string ⟨#[]⟩, .bool false, .slice none 0 0, .slice none 0 0, .slice none 0 0, .slice none 0 0, .slice none 0 0, .int .i64 0, .int .i64 0, .bool false, .slice none 0 0, .slice none 0 0] 60))
  have hg := blk_below hg0 HB.out
  have c0 : (w.alloc (.cells #[Value.int .i64 0, .int .i64 0, .string ⟨#[]⟩, .bool false, .slice none 0 0, .slice none 0 0, .slice none 0 0, .slice none 0 0, .slice none 0 0, .int .i64 0, .int .i64 0, .bool false, .slice none 0 0, .slice none 0 0] 60)).cell? ⟨g, 0, none⟩ = some (.slice A0 0 cp) := (blk_cell hg 0).trans rfl
  clear hg hg0 h
  go_enter Try.func84, Try.ntmps84
  go_upto_region 1 with (fail)
  generalize w.alloc (.cells #[Value.int .i64 0, .int .i64 0, .string ⟨#[]⟩, .bool false, .slice none 0 0, .slice none 0 0, .slice none 0 0, .slice none 0 0, .slice none 0 0, .int .i64 0, .int .i64 0, .bool false, .slice none 0 0, .slice none 0 0] 60) = wa at *
  go_wp2_with (first
    | ((with_reducible refine gate_storeT 60 2 10 rfl ?_); refine it_put rfl 2 10 rfl w.heap.size _ default rfl rfl rfl HA.out ?_; intro w2 hg hbx; have n0 := Aside0.mk (below_trans HB.out (hbx _ (Nat.le_refl _))); have HX := Aside0.mk hg; clear hbx HA HB c0; have HB := n0; clear n0 hg))
  ((try simp only [Exit.inBlock, Exit.then]); refine bodyPost_ret (results_ct rfl _ _ _ 60 _ (0, 0) _ rfl HX.out Try.underlying60 rfl (by kernel_rfl)) rfl ?_)
  exact ⟨rfl, HB.out⟩
set_option maxHeartbeats 4000000 in
set_option maxRecDepth 100000 in
theorem top_yes (base g : Nat) (x : It) (r : List It) (w : World) (h : StR w base g (x :: r)) (hl : (x :: r).length ≤ 4294967296) :
    Calls Try.prog 84 #[.pointer (some ⟨g, 0, none⟩)] w fun e w' => e = .returned (.tuple #[.agg #[Value.int .i64 x.kind, .int .i64 x.nk, .string x.nname, .bool x.ngiven, .slice x.s1.a x.s1.n x.s1.c, .slice x.s2.a x.s2.n x.s2.c, .slice x.s3.a x.s3.n x.s3.c, .slice x.s4.a x.s4.n x.s4.c, .slice x.s5.a x.s5.n x.s5.c, .int .i64 x.at_, .int .i64 x.status, .bool x.free, .slice x.s6.a x.s6.n x.s6.c, .slice x.s7.a x.s7.n x.s7.c], .bool true]) ∧ Below w.heap.size w w' := by
  obtain ⟨A0, cp, hg0, hbg, hR0, hlc, hbl⟩ := StR_open h
  obtain ⟨ad, rfl, k⟩ := StR_item (pre := []) hR0 rfl
  have HA := Aside0.mk (blk_new w (.cells #[Value.int .i64 0, .int .i64 0, .string ⟨#[]⟩, .bool false, .slice none 0 0, .slice none 0 0, .slice none 0 0, .slice none 0 0, .slice none 0 0, .int .i64 0, .int .i64 0, .bool false, .slice none 0 0, .slice none 0 0] 60))
  have HB := Aside0.mk (below_alloc (Below.refl w.heap.size w) (.cells #[Value.int .i64 0, .int .i64 0, .string ⟨#[]⟩, .bool false, .slice none 0 0, .slice none 0 0, .slice none 0 0, .slice none 0 0, .slice none 0 0, .int .i64 0, .int .i64 0, .bool false, .slice none 0 0, .slice none 0 0] 60))
  have hg := blk_below hg0 HB.out
  obtain ⟨k0, k1, k2, k3, k4, k5, k6, k7, k8, k9, k10, k11, k12, k13⟩ := Cells_below k HB.out
  have c0 : (w.alloc (.cells #[Value.int .i64 0, .int .i64 0, .string ⟨#[]⟩, .bool false, .slice none 0 0, .slice none 0 0, .slice none 0 0, .slice none 0 0, .slice none 0 0, .int .i64 0, .int .i64 0, .bool false, .slice none 0 0, .slice none 0 0] 60)).cell? ⟨g, 0, none⟩ = some (.slice (some ad) (x :: r).length cp) := (blk_cell hg 0).trans rfl
  have hn : (x :: r).length = r.length + 1 := rfl
  generalize (x :: r).length = n at *
  have hz : ((n : Int) == 0) = false := beq_eq_false_iff_ne.2 (by omega)
  have hw1 : wrap64 ((n : Int) - 1) = (r.length : Int) := by unfold wrap64; omega
  have hi0 : (0 : Int) ≤ (r.length : Int) := by omega
  have hi1 : (r.length : Int) < (n : Int) := by omega
  have HN := Aside0.mk hn
  clear hg hg0 h hR0 k hn
  go_enter Try.func84, Try.ntmps84
  go_upto_region 1 with (fail)
  generalize w.alloc (.cells #[Value.int .i64 0, .int .i64 0, .string ⟨#[]⟩, .bool false, .slice none 0 0, .slice none 0 0, .slice none 0 0, .slice none 0 0, .slice none 0 0, .int .i64 0, .int .i64 0, .bool false, .slice none 0 0, .slice none 0 0] 60) = wa at *
  go_upto_region 3 with (fail)
  refine region_seq (fun w_ => Below wa.heap.size wa w_) [12, 13]
    [(0, some 11, .pure), (1, some 12, .pure), (2, some 13, .pure), (4, some 15, .pure), (5, some 16, .pure), (6, some 17, .pure), (3, some 14, .held), (7, some 18, .held), (8, some 19, .pure), (9, some 20, .pure), (10, some 21, .pure), (11, some 22, .held), (12, none, .last), (13, some 3, .last)] (by kernel_rfl) (by kernel_rfl) ?_
  have hS := below_drew (Below.refl wa.heap.size wa)
  repeat (first
    | (refine s_pure (v := ?_) (a' := ?_) rfl (fun _ _ _ h => h) rfl ?hy ?ha ?_; (case hy => (intro w_; go_simp; with_reducible rfl)); (case ha => (simp only [Act.put, List.setIfInBounds_toArray, List.set_cons_zero, List.set_cons_succ, i64_w, i32_w]; rfl)))
    | (refine s_held (v := ?_) (a' := ?_) hS rfl (fun _ _ _ h => h) rfl ?hy ?ha ?_; (case hy => (intro w_ hb_; have s0 := pw_cell_below hb_ c0; have s1 := pw_cell_below hb_ k0; have s2 := pw_cell_below hb_ k1; have s3 := pw_cell_below hb_ k2; have s4 := pw_cell_below hb_ k3; have s5 := pw_cell_below hb_ k4; have s6 := pw_cell_below hb_ k5; have s7 := pw_cell_below hb_ k6; have s8 := pw_cell_below hb_ k7; have s9 := pw_cell_below hb_ k8; have s10 := pw_cell_below hb_ k9; have s11 := pw_cell_below hb_ k10; have s12 := pw_cell_below hb_ k11; have s13 := pw_cell_below hb_ k12; have s14 := pw_cell_below hb_ k13; go_simp; with_reducible rfl)); (case ha => (simp only [Act.put, List.setIfInBounds_toArray, List.set_cons_zero, List.set_cons_succ, i64_w, i32_w]; rfl))))
  refine s_tail 12 _ (by kernel_rfl) ?_
  simp only [List.drop_succ_cons, List.drop_zero]
  have n1 := Aside0.mk (blk_below HA.out hS)
  have n2 := Aside0.mk (below_trans HB.out (below_sub hS HB.out.size))
  clear HA HB hS c0 k0 k1 k2 k3 k4 k5 k6 k7 k8 k9 k10 k11 k12 k13
  go_wp2_with (first
    | ((with_reducible refine gate_storeT 60 2 22 rfl ?_); refine it_put rfl 2 22 rfl w.heap.size _ x rfl rfl rfl n1.out ?_; intro w2 hg hbx; have n0 := Aside0.mk (below_trans n2.out (hbx _ (Nat.le_refl _))); have HX := Aside0.mk hg; clear hbx hg))
  ((try simp only [Exit.inBlock, Exit.then]); refine bodyPost_ret (results_ct rfl _ _ _ 60 _ (0, 0) _ rfl HX.out Try.underlying60 rfl (by kernel_rfl)) rfl ?_)
  exact ⟨rfl, n0.out⟩
set_option maxHeartbeats 4000000 in
set_option maxRecDepth 100000 in
theorem pop_no (base g : Nat) (w : World) (h : StR w base g []) :
    Calls Try.prog 31 #[.pointer (some ⟨g, 0, none⟩)] w fun e w' => e = .returned (.tuple #[.agg #[Value.int .i64 0, .int .i64 0, .string ⟨#[]⟩, .bool false, .slice none 0 0, .slice none 0 0, .slice none 0 0, .slice none 0 0, .slice none 0 0, .int .i64 0, .int .i64 0, .bool false, .slice none 0 0, .slice none 0 0], .bool false]) ∧ StR w' base g [] ∧ Below base w w' ∧ Keeps w w' := by
  have HS := Aside0.mk h
  obtain ⟨A0, cp, hg0, hbg, _, _, hbl⟩ := StR_open h
  have HA := Aside0.mk (blk_new w (.cells #[Value.int .i64 0, .int .i64 0, .string ⟨#[]⟩, .bool false, .slice none 0 0, .slice none 0 0, .slice none 0 0, .slice none 0 0, .slice none 0 0, .int .i64 0, .int .i64 0, .bool false, .slice none 0 0, .slice none 0 0] 60))
  have HB := Aside0.mk (below_alloc (Below.refl w.heap.size w) (.cells #[Value.int .i64 0, .int .i64 0, .string ⟨#[]⟩, .bool false, .slice none 0 0, .slice none 0 0, .slice none 0 0, .slice none 0 0, .slice none 0 0, .int .i64 0, .int .i64 0, .bool false, .slice none 0 0, .slice none 0 0] 60))
  clear hg0 h
  go_enter Try.func31, Try.ntmps31
  go_upto_region 1 with (fail)
  generalize w.alloc (.cells #[Value.int .i64 0, .int .i64 0, .string ⟨#[]⟩, .bool false, .slice none 0 0, .slice none 0 0, .slice none 0 0, .slice none 0 0, .slice none 0 0, .int .i64 0, .int .i64 0, .bool false, .slice none 0 0, .slice none 0 0] 60) = wa at *
  go_upto_region 2 with (go_at_call 84; (with_reducible refine (top_no base g _ (StR_below HS.out HB.out)).mono ?_); rintro e w1 ⟨rfl, hB⟩; have n0 := Aside0.mk (below_trans HB.out (below_sub hB HB.out.size)); have n1 := Aside0.mk (blk_below HA.out hB); clear hB HA HB; have HA := n1; have HB := n0; clear n0 n1)
  have n2 := Aside0.mk (blk_new w1 (.cells #[Value.int .i64 0, .int .i64 0, .string ⟨#[]⟩, .bool false, .slice none 0 0, .slice none 0 0, .slice none 0 0, .slice none 0 0, .slice none 0 0, .int .i64 0, .int .i64 0, .bool false, .slice none 0 0, .slice none 0 0] 60))
  have n3 := Aside0.mk (below_alloc (Below.refl w1.heap.size w1) (.cells #[Value.int .i64 0, .int .i64 0, .string ⟨#[]⟩, .bool false, .slice none 0 0, .slice none 0 0, .slice none 0 0, .slice none 0 0, .slice none 0 0, .int .i64 0, .int .i64 0, .bool false, .slice none 0 0, .slice none 0 0] 60))
  have n4 := Aside0.mk (blk_below HA.out n3.out)
  generalize w1.alloc (.cells #[Value.int .i64 0, .int .i64 0, .string ⟨#[]⟩, .bool false, .slice none 0 0, .slice none 0 0, .slice none 0 0, .slice none 0 0, .slice none 0 0, .int .i64 0, .int .i64 0, .bool false, .slice none 0 0, .slice none 0 0] 60) = w2 at *
  go_wp2_with (first
    | ((with_reducible refine gate_loadT 60 4 rfl ?_); refine it_load rfl 4 rfl w1.heap.size default rfl n2.out ?_)
    | ((with_reducible refine gate_storeT 60 2 26 rfl ?_); refine it_put rfl 2 26 rfl w.heap.size _ default rfl rfl rfl n4.out ?_; intro w4 hg hbx; have n0 := Aside0.mk (below_trans (below_trans HB.out (below_sub n3.out HB.out.size)) (hbx _ (Nat.le_refl _))); have HX := Aside0.mk hg; clear hbx hg))
  ((try simp only [Exit.inBlock, Exit.then]); refine bodyPost_ret (results_ct rfl _ _ _ 60 _ (0, 0) _ rfl HX.out Try.underlying60 rfl (by kernel_rfl)) rfl ?_)
  exact ⟨rfl, StR_below HS.out n0.out, below_sub n0.out hbl, keeps_below n0.out⟩
set_option maxHeartbeats 4000000 in
set_option maxRecDepth 100000 in
theorem pop_yes (base g : Nat) (x : It) (r : List It) (w : World) (h : StR w base g (x :: r)) (hl : (x :: r).length ≤ 4294967296) :
    Calls Try.prog 31 #[.pointer (some ⟨g, 0, none⟩)] w fun e w' => e = .returned (.tuple #[.agg #[Value.int .i64 x.kind, .int .i64 x.nk, .string x.nname, .bool x.ngiven, .slice x.s1.a x.s1.n x.s1.c, .slice x.s2.a x.s2.n x.s2.c, .slice x.s3.a x.s3.n x.s3.c, .slice x.s4.a x.s4.n x.s4.c, .slice x.s5.a x.s5.n x.s5.c, .int .i64 x.at_, .int .i64 x.status, .bool x.free, .slice x.s6.a x.s6.n x.s6.c, .slice x.s7.a x.s7.n x.s7.c], .bool true]) ∧ StR w' base g r ∧ Below base w w' ∧ Keeps w w' := by
  have HS := Aside0.mk h
  obtain ⟨A0, cp, hg0, hbg, hR0, hlc, hbl⟩ := StR_open h
  have hglt := blk_lt hg0
  have HG0 := Aside0.mk hg0
  have HR0 := Aside0.mk hR0
  have HM0 := Aside0.mk (StR_take (pre := []) (x := x) hg0 hbg hR0 rfl rfl)
  have HA := Aside0.mk (blk_new w (.cells #[Value.int .i64 0, .int .i64 0, .string ⟨#[]⟩, .bool false, .slice none 0 0, .slice none 0 0, .slice none 0 0, .slice none 0 0, .slice none 0 0, .int .i64 0, .int .i64 0, .bool false, .slice none 0 0, .slice none 0 0] 60))
  have HB := Aside0.mk (below_alloc (Below.refl w.heap.size w) (.cells #[Value.int .i64 0, .int .i64 0, .string ⟨#[]⟩, .bool false, .slice none 0 0, .slice none 0 0, .slice none 0 0, .slice none 0 0, .slice none 0 0, .int .i64 0, .int .i64 0, .bool false, .slice none 0 0, .slice none 0 0] 60))
  have HL := Aside0.mk hl
  have hn : (x :: r).length = r.length + 1 := rfl
  have HN := Aside0.mk hn
  clear hg0 h hR0 hl
  go_enter Try.func31, Try.ntmps31
  go_upto_region 1 with (fail)
  generalize w.alloc (.cells #[Value.int .i64 0, .int .i64 0, .string ⟨#[]⟩, .bool false, .slice none 0 0, .slice none 0 0, .slice none 0 0, .slice none 0 0, .slice none 0 0, .int .i64 0, .int .i64 0, .bool false, .slice none 0 0, .slice none 0 0] 60) = wa at *
  go_upto_region 2 with (go_at_call 84; (with_reducible refine (top_yes base g x r _ (StR_below HS.out HB.out) HL.out).mono ?_); rintro e w1 ⟨rfl, hB⟩; have n0 := Aside0.mk (below_trans HB.out (below_sub hB HB.out.size)); have n1 := Aside0.mk (blk_below HA.out hB); clear hB HA HB; have HA := n1; have HB := n0; clear n0 n1)
  have n2 := Aside0.mk (blk_new w1 (.cells #[Value.int .i64 x.kind, .int .i64 x.nk, .string x.nname, .bool x.ngiven, .slice x.s1.a x.s1.n x.s1.c, .slice x.s2.a x.s2.n x.s2.c, .slice x.s3.a x.s3.n x.s3.c, .slice x.s4.a x.s4.n x.s4.c, .slice x.s5.a x.s5.n x.s5.c, .int .i64 x.at_, .int .i64 x.status, .bool x.free, .slice x.s6.a x.s6.n x.s6.c, .slice x.s7.a x.s7.n x.s7.c] 60))
  have n3 := Aside0.mk (below_alloc (Below.refl w1.heap.size w1) (.cells #[Value.int .i64 x.kind, .int .i64 x.nk, .string x.nname, .bool x.ngiven, .slice x.s1.a x.s1.n x.s1.c, .slice x.s2.a x.s2.n x.s2.c, .slice x.s3.a x.s3.n x.s3.c, .slice x.s4.a x.s4.n x.s4.c, .slice x.s5.a x.s5.n x.s5.c, .int .i64 x.at_, .int .i64 x.status, .bool x.free, .slice x.s6.a x.s6.n x.s6.c, .slice x.s7.a x.s7.n x.s7.c] 60))
  have n4 := Aside0.mk (blk_below HA.out n3.out)
  have n5 := Aside0.mk (below_trans HB.out (below_sub n3.out HB.out.size))
  have HAlt := Aside0.mk (blk_lt HA.out)
  generalize w1.alloc (.cells #[Value.int .i64 x.kind, .int .i64 x.nk, .string x.nname, .bool x.ngiven, .slice x.s1.a x.s1.n x.s1.c, .slice x.s2.a x.s2.n x.s2.c, .slice x.s3.a x.s3.n x.s3.c, .slice x.s4.a x.s4.n x.s4.c, .slice x.s5.a x.s5.n x.s5.c, .int .i64 x.at_, .int .i64 x.status, .bool x.free, .slice x.s6.a x.s6.n x.s6.c, .slice x.s7.a x.s7.n x.s7.c] 60) = w2 at *
  clear HA HB
  generalize (x :: r).length = n at *
  go_upto_region 3 with (fail)
  have hg := blk_below HG0.out n5.out
  have c0 : w2.cell? ⟨g, 0, none⟩ = some (.slice A0 n cp) := (blk_cell hg 0).trans rfl
  have hw1 : wrap64 ((n : Int) - 1) = (r.length : Int) := by have := HL.out; unfold wrap64; omega
  have hi0 : (0 : Int) ≤ (r.length : Int) := by omega
  have hi1 : (r.length : Int) ≤ (cp : Int) := by omega
  clear hg hn
  refine region_seq (fun w_ => Below w2.heap.size w2 w_) [14]
    [(0, some 12, .pure), (1, some 13, .pure), (2, some 14, .pure), (3, some 15, .pure), (5, some 17, .pure), (6, some 18, .pure), (7, some 19, .pure), (4, some 16, .held), (8, some 20, .held), (9, some 21, .pure), (10, some 22, .pure), (11, some 23, .pure), (12, some 24, .pure), (13, some 25, .pure), (14, none, .last)] (by kernel_rfl) (by kernel_rfl) ?_
  have hS := below_drew (Below.refl w2.heap.size w2)
  repeat (first
    | (refine s_pure (v := ?_) (a' := ?_) rfl (fun _ _ _ h => h) rfl ?hy ?ha ?_; (case hy => (intro w_; go_simp; with_reducible rfl)); (case ha => (simp only [Act.put, List.setIfInBounds_toArray, List.set_cons_zero, List.set_cons_succ, i64_w, i32_w]; rfl)))
    | (refine s_held (v := ?_) (a' := ?_) hS rfl (fun _ _ _ h => h) rfl ?hy ?ha ?_; (case hy => (intro w_ hb_; have s0 := pw_cell_below hb_ c0; go_simp; with_reducible rfl)); (case ha => (simp only [Act.put, List.setIfInBounds_toArray, List.set_cons_zero, List.set_cons_succ, i64_w, i32_w]; rfl))))
  refine s_tail 14 _ (by kernel_rfl) ?_
  simp only [List.drop_succ_cons, List.drop_zero]
  have m5 := Aside0.mk (below_trans n5.out (below_sub hS n5.out.size))
  have hgd := blk_below HG0.out m5.out
  have c0' := (blk_cell hgd 0).trans rfl
  have f0 := blk_frozen hgd 0
  have m2 := Aside0.mk (blk_far (blk_below n2.out hS) (show w1.heap.size ≠ (⟨g, 0, none⟩ : Addr).block by have := HAlt.out; show w1.heap.size ≠ g; omega) (.slice A0 r.length cp))
  have m1 := Aside0.mk (blk_far (blk_below n4.out hS) (show w.heap.size ≠ (⟨g, 0, none⟩ : Addr).block by show w.heap.size ≠ g; omega) (.slice A0 r.length cp))
  have m4 := Aside0.mk (below_both (i := 0) (u := .slice A0 r.length cp) m5.out HG0.out hglt)
  have m3 := Aside0.mk ((below_sub m5.out hbl).setCell (p := ⟨g, 0, none⟩) hbg (.slice A0 r.length cp))
  have m6 := Aside0.mk (keeps_trans (keeps_below m5.out) (keeps_set (i := 0) hgd (.slice A0 r.length cp)))
  clear hS c0 n2 n3 n4 n5 hgd
  go_upto_region 4 with (fail)
  rw [show w2.drew.setCell ⟨g, 0, none⟩ (.slice A0 r.length cp) = (w2.setCell ⟨g, 0, none⟩ (.slice A0 r.length cp)).drew from rfl] at m1 m2 m3 m4 m6
  generalize (w2.setCell ⟨g, 0, none⟩ (.slice A0 r.length cp)).drew = w3 at *
  go_wp2_with (first
    | ((with_reducible refine gate_loadT 60 4 rfl ?_); refine it_load rfl 4 rfl w1.heap.size x rfl m2.out ?_)
    | ((with_reducible refine gate_storeT 60 2 26 rfl ?_); refine it_put rfl 2 26 rfl w.heap.size _ x rfl rfl rfl m1.out ?_; intro w4 hg hbx; have n0 := Aside0.mk (below_trans m3.out (hbx _ hbl)); have n1 := Aside0.mk (StR_below HM0.out (by rw [size_set]; exact below_trans m4.out (hbx _ (Nat.le_refl _)))); have m7 := Aside0.mk (keeps_over m6.out (hbx _ (Nat.le_refl _)) (Nat.le_refl _)); have HX := Aside0.mk hg; clear hbx m1 m2 hg))
  ((try simp only [Exit.inBlock, Exit.then]); refine bodyPost_ret (results_ct rfl _ _ _ 60 _ (0, 0) _ rfl HX.out Try.underlying60 rfl (by kernel_rfl)) rfl ?_)
  exact ⟨rfl, n1.out, n0.out, m7.out⟩
end Go.Proofs.Ytkepmbkghmkodaa.Frame
