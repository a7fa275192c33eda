/- texts of this claim, one behind the other: RefHow RefRel RefWith RefTake RefPut RefPutNo RefReap RefReapNo RefFork RefExit RefSend ManyPure ProcSome ProcNo -/
import Derived.Test.YtbgodajbdbgdfaaDoorG1
import Derived.Laws.CopyOwn
import Derived.Laws.Rows
import Derived.Laws.BitsLemmas
import Derived.LaidLaws
import Derived.Test.YtbgodajbdbgdfaaDoorShelf
import Derived.Test.YtbgodajbdbgdfaaDoorIter
import Derived.Lib.OwnBridge
import Derived.Lib.SlKeysI
/- kern: the document's How: its contract. -/
namespace Go.Proofs.YtbgodajbdbgdfaaDoor.Kern
open Go.RowKit Go.Proofs.YtbgodajbdbgdfaaDoorW.PrintWords Go.Proofs.YtbgodajbdbgdfaaDoorW.PrintLast Go.Proofs.YtbgodajbdbgdfaaDoor.Sig Go.Proofs.YtbgodajbdbgdfaaDoor.Base Go.Proofs.YtbgodajbdbgdfaaDoor.Seq Go.Proofs.YtbgodajbdbgdfaaDoor.V Go.Maps
set_option linter.unusedVariables false
set_option linter.unusedSimpArgs false
abbrev prc (q : Int) (r : Pr) : Array Value := #[.int .i64 q, .int .i64 r.par, .int .i64 r.status, .bool r.live, .int .u32 (r.ign : Int), .int .u32 (r.ca : Int), .int .u32 (r.pen : Int)]
theorem prc_one (q : Int) (r : Pr) : ∀ u ∈ (prc q r).toList, u.oneCell' = true := by
  intro u hu
  simp only [prc, List.mem_cons, List.not_mem_nil, or_false] at hu
  rcases hu with rfl | rfl | rfl | rfl | rfl | rfl | rfl <;> rfl
section
variable {ops : Array Oper} {rest : List Oper} {o : Oper} {a : Act} {Q : Exit → Act → World → Prop}
theorem gate_st {W : World} (t p y : Nat) (ho : o.op = .store t (.tmp p) (.tmp y)) (h : wpList Tryd.prog ops Q (o :: rest) a W) : wpList Tryd.prog ops Q (o :: rest) a W := h
theorem pr_put {W : World} (hgd : o.guard = none) (p y : Tmp) (ho : o.op = .store 77 (.tmp p) (.tmp y)) (g : Nat) (cs : Array Value) (q : Int) (r : Pr) (hcs : cs.size = 7) (hx : a.eval (.tmp p) = .pointer (some ⟨g, 0, none⟩)) (hy : a.eval (.tmp y) = .agg (prc q r))
    (hg : W.heap[g]? = some (.cells cs 77 (0, 0)))
    (h : ∀ w1, w1.heap[g]? = some (.cells (prc q r) 77 (0, 0)) → (∀ B, B ≤ g → Below B W w1) → (∀ k, k ≠ g → w1.heap[k]? = W.heap[k]?) → wpList Tryd.prog ops Q rest (a.put o.dst undef) w1) : wpList Tryd.prog ops Q (o :: rest) a W := by
  refine wpList_store_row hgd 77 (.tmp p) (.tmp y) ho g (prc q r) hx hy 77 cs hg (by kernel_rfl) hcs (by rw [Array.all_eq_true_iff_forall_mem]; exact fun v hv => prc_one q r v (by simpa using hv)) ?_
  exact h _ (setRow_heap _ _ _ _ _ _ hg) (fun B hB => below_setRow (Below.refl _ _) hB _) (fun k hk => setRow_other _ _ _ _ hk)
end
section
variable {w : World} {A E : Option Addr} {n c m d : Nat} {f : Tb} {L : List S} {es : List SE}
set_option maxHeartbeats 8000000 in
set_option maxRecDepth 100000 in
theorem rhow_any (h : Rel f L) (hr : RT w A n c L E m d es) (last pid s : Int) (hset : ∀ q r, f q = some r → r.ign < 4294967296 ∧ r.ca < 4294967296) :
    Calls Tryd.prog 27 #[.agg #[.slice A n c, .int .i64 last, .slice E m d], .int .i64 pid, .int .i64 s] w fun e w' => e = .returned (.int .i64 (how f pid s)) ∧ Below w.heap.size w w' := by
  have hB1 := below_alloc (Below.refl w.heap.size w) (.cells #[.slice A n c, .int .i64 last, .slice E m d] 42)
  have HG := Aside0.mk (blk_new w (.cells #[.slice A n c, .int .i64 last, .slice E m d] 42))
  have HR := Aside0.mk (hr.below hB1)
  have HB := Aside0.mk hB1
  have HH := Aside0.mk h
  have HSET := Aside0.mk hset
  clear h hr hB1 hset
  cases hl : liv f pid with
  | false =>
    rw [how_off hl]
    have HL := Aside0.mk hl
    clear hl
    go_enter Tryd.func27, Tryd.ntmps27
    go_upto_region 1 with (fail)
    generalize w.alloc (.cells #[.slice A n c, .int .i64 last, .slice E m d] 42) = w1 at *
    have b0 : w1.cell? ⟨w.heap.size, 0, none⟩ = some (.slice A n c) := (blk_cell HG.out 0).trans rfl
    have b1 : w1.cell? ⟨w.heap.size, 1, none⟩ = some (.int .i64 last) := (blk_cell HG.out 1).trans rfl
    have b2 : w1.cell? ⟨w.heap.size, 2, none⟩ = some (.slice E m d) := (blk_cell HG.out 2).trans rfl
    go_wp2_with (go_at_call 25; (with_reducible refine (rlive_any HH.out HR.out last pid).mono ?_); rintro e w2 ⟨rfl, hB⟩; rw [HL.out]; have HB2 := Aside0.mk (HB.out.trans (hB.mono HB.out.size)); clear hB)
    go_ret
    exact ⟨rfl, HB2.out⟩
  | true =>
    obtain ⟨r, hf, hlv⟩ := liv_true hl
    have hhow : how f pid s = if hs r.ign s = true then 1 else if hs r.ca s = true then 2 else 0 := by unfold how; rw [hf]; exact if_pos hlv
    have HHOW := Aside0.mk hhow
    obtain ⟨i, hi, e, hat⟩ := rat_some HH.out hf
    obtain ⟨ad, rfl, k0, k1, k2, k3, k4, k5, k6⟩ := at_S HR.out.row i hi e
    have HL := Aside0.mk hl
    have HAT := Aside0.mk hat
    have HK := Aside0.mk (And.intro k0 (And.intro k1 (And.intro k2 (And.intro k3 (And.intro k4 (And.intro k5 k6))))))
    have hsr := Aside0.mk (HSET.out pid r hf)
    have hin : i < n := by have := HR.out.row.1; omega
    have hi0 : (0 : Int) ≤ (i : Int) := by omega
    have hi1 : (i : Int) < (n : Int) := by omega
    clear hl hat k0 k1 k2 k3 k4 k5 k6 e hi hf hlv hhow HSET
    go_enter Tryd.func27, Tryd.ntmps27
    go_upto_region 1 with (fail)
    generalize w.alloc (.cells #[.slice (some ad) n c, .int .i64 last, .slice E m d] 42) = w1 at *
    have b0 : w1.cell? ⟨w.heap.size, 0, none⟩ = some (.slice (some ad) n c) := (blk_cell HG.out 0).trans rfl
    have b1 : w1.cell? ⟨w.heap.size, 1, none⟩ = some (.int .i64 last) := (blk_cell HG.out 1).trans rfl
    have b2 : w1.cell? ⟨w.heap.size, 2, none⟩ = some (.slice E m d) := (blk_cell HG.out 2).trans rfl
    go_upto_region 3 with (go_at_call 25; (with_reducible refine (rlive_any HH.out HR.out last pid).mono ?_); rintro e w2 ⟨rfl, hB⟩; rw [HL.out]; have HB2 := Aside0.mk (HB.out.trans (hB.mono HB.out.size)); have HR2 := Aside0.mk (HR.out.below hB); have HG2 := Aside0.mk (blk_below HG.out hB); obtain ⟨k0, k1, k2, k3, k4, k5, k6⟩ := HK.out; replace k0 := pw_cell_below hB k0; replace k1 := pw_cell_below hB k1; replace k2 := pw_cell_below hB k2; replace k3 := pw_cell_below hB k3; replace k4 := pw_cell_below hB k4; replace k5 := pw_cell_below hB k5; replace k6 := pw_cell_below hB k6; clear hB b0 b1 b2)
    have b0 : w2.cell? ⟨w.heap.size, 0, none⟩ = some (.slice (some ad) n c) := (blk_cell HG2.out 0).trans rfl
    have b1 : w2.cell? ⟨w.heap.size, 1, none⟩ = some (.int .i64 last) := (blk_cell HG2.out 1).trans rfl
    have b2 : w2.cell? ⟨w.heap.size, 2, none⟩ = some (.slice E m d) := (blk_cell HG2.out 2).trans rfl
    refine region_tree (fun w_ => Below w2.heap.size w2 w_) (.pure 0 (some 12) (.pure 3 (some 15) (.held 1 (some 13) (.held 2 (some 14) (.two 4 (some 16) (.pure 5 (some 17) (.held 6 (some 18) (.one 7 (some 7) (.one 8 none .fin)))) 7 (some 7) (.one 4 (some 16) (.pure 5 (some 17) (.held 6 (some 18) (.one 8 none .fin))))))))) (by kernel_rfl) (by kernel_rfl) ?_
    have hS := below_drew (Below.refl w2.heap.size w2)
    repeat (first
      | (refine t_pure (v := ?_) (a' := ?_) rfl (fun _ _ _ h => h) rfl ?hy ?ha ?_; (case hy => (intro w_; go_simp; with_reducible rfl)); (case ha => (simp only [Act.put, List.setIfInBounds_toArray, List.set_cons_zero, List.set_cons_succ, i64_w, i32_w]; rfl)))
      | (refine t_held (v := ?_) (a' := ?_) hS rfl (fun _ _ _ h => h) rfl ?hy ?ha ?_; (case hy => (intro w_ hb_; have s0 := pw_cell_below hb_ b0; have s1 := pw_cell_below hb_ b1; have s2 := pw_cell_below hb_ b2; go_simp; with_reducible rfl)); (case ha => (simp only [Act.put, List.setIfInBounds_toArray, List.set_cons_zero, List.set_cons_succ, i64_w, i32_w]; rfl))))
    clear b0 b1 b2
    refine t_two ?_ ?_
    ·
      refine t_oneL rfl (fun K hK => ?_) rfl
      go_wp2_with (go_at_call 47; (with_reducible refine (HAT.out _ (some ad) E n c m d es last (HR2.out.below hS)).mono ?_); rintro e w3 ⟨rfl, hB⟩)
      have hS2 : Below w2.heap.size w2 w3 := hS.trans (below_sub hB hS.size)
      refine hK _ _ hS2 ?_
      clear hK hS
      have hS := hS2
      clear hS2
      repeat (first
        | (refine t_pure (v := ?_) (a' := ?_) rfl (fun _ _ _ h => h) rfl ?hy ?ha ?_; (case hy => (intro w_; go_simp; with_reducible rfl)); (case ha => (simp only [Act.put, List.setIfInBounds_toArray, List.set_cons_zero, List.set_cons_succ, i64_w, i32_w]; rfl)))
        | (refine t_held (v := ?_) (a' := ?_) hS rfl (fun _ _ _ h => h) rfl ?hy ?ha ?_; (case hy => (intro w_ hb_; have s0 := pw_cell_below hb_ k0; have s1 := pw_cell_below hb_ k1; have s2 := pw_cell_below hb_ k2; have s3 := pw_cell_below hb_ k3; have s4 := pw_cell_below hb_ k4; have s5 := pw_cell_below hb_ k5; have s6 := pw_cell_below hb_ k6; go_simp; with_reducible rfl)); (case ha => (simp only [Act.put, List.setIfInBounds_toArray, List.set_cons_zero, List.set_cons_succ, i64_w, i32_w]; rfl))))
      clear k0 k1 k2 k3 k4 k5 k6
      (refine t_new (v := ?_) (w1 := ?_) (a' := ?_) rfl rfl rfl ?hy ?ha ?hS ?_; (case hy => (go_simp; first | with_reducible rfl | (refine ⟨?_, ?_⟩ <;> with_reducible rfl))); (case ha => (simp only [Act.put, List.setIfInBounds_toArray, List.set_cons_zero, List.set_cons_succ, i64_w, i32_w]; rfl)); (case hS => (repeat (first | exact hS | exact Below.refl _ _ | refine below_drew ?_ | refine below_alloc ?_ _))))
      have HG7 := Aside0.mk (blk_new w3 (.cells #[Value.int .i64 0, .int .i64 0, .int .i64 0, .bool false, .int .u32 0, .int .u32 0, .int .u32 0] 77))
      have hS1 := below_alloc hS (.cells #[Value.int .i64 0, .int .i64 0, .int .i64 0, .bool false, .int .u32 0, .int .u32 0, .int .u32 0] 77)
      have hg7 := hS.size
      clear hS
      have hS := hS1
      clear hS1
      generalize w3.alloc (.cells #[Value.int .i64 0, .int .i64 0, .int .i64 0, .bool false, .int .u32 0, .int .u32 0, .int .u32 0] 77) = w4 at *
      generalize w3.heap.size = g7 at *
      refine t_oneL rfl (fun K hK => ?_) rfl
      go_wp2_with ((with_reducible refine gate_st 77 7 18 rfl ?_); go_loud (refine pr_put rfl 7 18 rfl g7 _ pid r rfl rfl rfl HG7.out ?_); intro w9 hg hbx hoth; have HG9 := Aside0.mk hg; have HS9 := Aside0.mk (hbx w2.heap.size hg7); clear hbx hoth hg)
      have hS2 : Below w2.heap.size w2 w9 := hS.trans HS9.out
      refine hK _ _ hS2 ?_
      clear hK hS
      have hS := hS2
      clear hS2
      have HB9 := Aside0.mk (HB2.out.trans (hS.mono HB2.out.size))
      refine t_fin ?_
      clear hS
      have c4 : w9.cell? ⟨g7, 4, none⟩ = some (.int .u32 (r.ign : Int)) := (blk_cell HG9.out 4).trans rfl
      cases h1 : hs r.ign s with
      | true =>
        have H1 := Aside0.mk h1
        clear h1
        go_wp2_with (go_at_call 56; (with_reducible refine (rhas_any r.ign hsr.out.1 s _).mono ?_); rintro e w10 ⟨rfl, hB⟩; rw [H1.out]; have HB10 := Aside0.mk (HB9.out.trans (hB.mono HB9.out.size)); clear hB c4)
        go_ret
        exact ⟨by rw [HHOW.out, if_pos H1.out]; rfl, HB10.out⟩
      | false =>
        have H1 := Aside0.mk h1
        clear h1
        go_upto_region 6 with (go_at_call 56; (with_reducible refine (rhas_any r.ign hsr.out.1 s _).mono ?_); rintro e w10 ⟨rfl, hB⟩; rw [H1.out]; have HB10 := Aside0.mk (HB9.out.trans (hB.mono HB9.out.size)); have HG10 := Aside0.mk (blk_below HG9.out hB); clear hB c4)
        have c5 : w10.cell? ⟨g7, 5, none⟩ = some (.int .u32 (r.ca : Int)) := (blk_cell HG10.out 5).trans rfl
        cases h2 : hs r.ca s with
        | true =>
          have H2 := Aside0.mk h2
          clear h2
          go_wp2_with (go_at_call 56; (with_reducible refine (rhas_any r.ca hsr.out.2 s _).mono ?_); rintro e w11 ⟨rfl, hB⟩; rw [H2.out]; have HB11 := Aside0.mk (HB10.out.trans (hB.mono HB10.out.size)); clear hB c5)
          go_ret
          exact ⟨by rw [HHOW.out, if_neg (by rw [H1.out]; decide), if_pos H2.out]; rfl, HB11.out⟩
        | false =>
          have H2 := Aside0.mk h2
          clear h2
          go_wp2_with (go_at_call 56; (with_reducible refine (rhas_any r.ca hsr.out.2 s _).mono ?_); rintro e w11 ⟨rfl, hB⟩; rw [H2.out]; have HB11 := Aside0.mk (HB10.out.trans (hB.mono HB10.out.size)); clear hB c5)
          go_ret
          exact ⟨by rw [HHOW.out, if_neg (by rw [H1.out]; decide), if_neg (by rw [H2.out]; decide)]; rfl, HB11.out⟩
    · (refine t_new (v := ?_) (w1 := ?_) (a' := ?_) rfl rfl rfl ?hy ?ha ?hS ?_; (case hy => (go_simp; first | with_reducible rfl | (refine ⟨?_, ?_⟩ <;> with_reducible rfl))); (case ha => (simp only [Act.put, List.setIfInBounds_toArray, List.set_cons_zero, List.set_cons_succ, i64_w, i32_w]; rfl)); (case hS => (repeat (first | exact hS | exact Below.refl _ _ | refine below_drew ?_ | refine below_alloc ?_ _))))
      have HG7a := Aside0.mk (show (w2.alloc (.cells #[Value.int .i64 0, .int .i64 0, .int .i64 0, .bool false, .int .u32 0, .int .u32 0, .int .u32 0] 77)).drew.heap[w2.heap.size]? = some (.cells #[Value.int .i64 0, .int .i64 0, .int .i64 0, .bool false, .int .u32 0, .int .u32 0, .int .u32 0] 77 (0, 0)) from blk_new w2 (.cells #[Value.int .i64 0, .int .i64 0, .int .i64 0, .bool false, .int .u32 0, .int .u32 0, .int .u32 0] 77))
      have hS1 := below_drew (below_alloc (Below.refl w2.heap.size w2) (.cells #[Value.int .i64 0, .int .i64 0, .int .i64 0, .bool false, .int .u32 0, .int .u32 0, .int .u32 0] 77))
      have hsz := show w2.heap.size < (w2.alloc (.cells #[Value.int .i64 0, .int .i64 0, .int .i64 0, .bool false, .int .u32 0, .int .u32 0, .int .u32 0] 77)).drew.heap.size by simp
      clear hS
      have hS := hS1
      clear hS1
      generalize (w2.alloc (.cells #[Value.int .i64 0, .int .i64 0, .int .i64 0, .bool false, .int .u32 0, .int .u32 0, .int .u32 0] 77)).drew = w4 at *
      refine t_oneL rfl (fun K hK => ?_) rfl
      go_wp2_with (go_at_call 47; (with_reducible refine (HAT.out _ (some ad) E n c m d es last (HR2.out.below hS)).mono ?_); rintro e w3 ⟨rfl, hB⟩)
      have hS2 : Below w2.heap.size w2 w3 := hS.trans (below_sub hB hS.size)
      have HG7 := Aside0.mk (show w3.heap[w2.heap.size]? = some (.cells #[Value.int .i64 0, .int .i64 0, .int .i64 0, .bool false, .int .u32 0, .int .u32 0, .int .u32 0] 77 (0, 0)) from blk_below HG7a.out hB)
      clear hB
      refine hK _ _ hS2 ?_
      clear hK hS
      have hS := hS2
      clear hS2
      repeat (first
        | (refine t_pure (v := ?_) (a' := ?_) rfl (fun _ _ _ h => h) rfl ?hy ?ha ?_; (case hy => (intro w_; go_simp; with_reducible rfl)); (case ha => (simp only [Act.put, List.setIfInBounds_toArray, List.set_cons_zero, List.set_cons_succ, i64_w, i32_w]; rfl)))
        | (refine t_held (v := ?_) (a' := ?_) hS rfl (fun _ _ _ h => h) rfl ?hy ?ha ?_; (case hy => (intro w_ hb_; have s0 := pw_cell_below hb_ k0; have s1 := pw_cell_below hb_ k1; have s2 := pw_cell_below hb_ k2; have s3 := pw_cell_below hb_ k3; have s4 := pw_cell_below hb_ k4; have s5 := pw_cell_below hb_ k5; have s6 := pw_cell_below hb_ k6; go_simp; with_reducible rfl)); (case ha => (simp only [Act.put, List.setIfInBounds_toArray, List.set_cons_zero, List.set_cons_succ, i64_w, i32_w]; rfl))))
      clear k0 k1 k2 k3 k4 k5 k6
      refine t_oneL rfl (fun K hK => ?_) rfl
      go_wp2_with ((with_reducible refine gate_st 77 7 18 rfl ?_); go_loud (refine pr_put rfl 7 18 rfl w2.heap.size _ pid r rfl rfl rfl HG7.out ?_); intro w9 hg hbx hoth; have HG9 := Aside0.mk hg; have HS9 := Aside0.mk (hbx w2.heap.size (Nat.le_refl _)); clear hbx hoth hg)
      have hS2 : Below w2.heap.size w2 w9 := hS.trans HS9.out
      refine hK _ _ hS2 ?_
      clear hK hS
      have hS := hS2
      clear hS2
      have HB9 := Aside0.mk (HB2.out.trans (hS.mono HB2.out.size))
      refine t_fin ?_
      clear hS
      have c4 : w9.cell? ⟨w2.heap.size, 4, none⟩ = some (.int .u32 (r.ign : Int)) := (blk_cell HG9.out 4).trans rfl
      cases h1 : hs r.ign s with
      | true =>
        have H1 := Aside0.mk h1
        clear h1
        go_wp2_with (go_at_call 56; (with_reducible refine (rhas_any r.ign hsr.out.1 s _).mono ?_); rintro e w10 ⟨rfl, hB⟩; rw [H1.out]; have HB10 := Aside0.mk (HB9.out.trans (hB.mono HB9.out.size)); clear hB c4)
        go_ret
        exact ⟨by rw [HHOW.out, if_pos H1.out]; rfl, HB10.out⟩
      | false =>
        have H1 := Aside0.mk h1
        clear h1
        go_upto_region 6 with (go_at_call 56; (with_reducible refine (rhas_any r.ign hsr.out.1 s _).mono ?_); rintro e w10 ⟨rfl, hB⟩; rw [H1.out]; have HB10 := Aside0.mk (HB9.out.trans (hB.mono HB9.out.size)); have HG10 := Aside0.mk (blk_below HG9.out hB); clear hB c4)
        have c5 : w10.cell? ⟨w2.heap.size, 5, none⟩ = some (.int .u32 (r.ca : Int)) := (blk_cell HG10.out 5).trans rfl
        cases h2 : hs r.ca s with
        | true =>
          have H2 := Aside0.mk h2
          clear h2
          go_wp2_with (go_at_call 56; (with_reducible refine (rhas_any r.ca hsr.out.2 s _).mono ?_); rintro e w11 ⟨rfl, hB⟩; rw [H2.out]; have HB11 := Aside0.mk (HB10.out.trans (hB.mono HB10.out.size)); clear hB c5)
          go_ret
          exact ⟨by rw [HHOW.out, if_neg (by rw [H1.out]; decide), if_pos H2.out]; rfl, HB11.out⟩
        | false =>
          have H2 := Aside0.mk h2
          clear h2
          go_wp2_with (go_at_call 56; (with_reducible refine (rhas_any r.ca hsr.out.2 s _).mono ?_); rintro e w11 ⟨rfl, hB⟩; rw [H2.out]; have HB11 := Aside0.mk (HB10.out.trans (hB.mono HB10.out.size)); clear hB c5)
          go_ret
          exact ⟨by rw [HHOW.out, if_neg (by rw [H1.out]; decide), if_neg (by rw [H2.out]; decide)]; rfl, HB11.out⟩
end
end Go.Proofs.YtbgodajbdbgdfaaDoor.Kern
/- kern: what is done to the table is done to the list: plain laws. -/
namespace Go.Proofs.YtbgodajbdbgdfaaDoor.Kern
open Go.RowKit Go.Proofs.YtbgodajbdbgdfaaDoorW.PrintWords Go.Proofs.YtbgodajbdbgdfaaDoor.V
set_option linter.unusedVariables false
set_option linter.unusedSimpArgs false
def prOf (x : S) : Pr := ⟨x.f1, x.f3, x.f2, x.f4.toNat, x.f5.toNat, x.f6.toNat⟩
theorem prOf_mk (q : Int) (r : Pr) : prOf (mkS q r) = r := rfl
theorem filterMap_same {α β : Type} {f g : α → Option β} : ∀ (l : List α), (∀ x ∈ l, f x = g x) → l.filterMap f = l.filterMap g
  | [], _ => rfl
  | x :: l, h => by
    rw [List.filterMap_cons, List.filterMap_cons, h x List.mem_cons_self, filterMap_same l (fun y hy => h y (List.mem_cons_of_mem _ hy))]
/-- What a step makes of the list. -/
def stepL (st : Int → Pr → Option Pr) (L : List S) : List S := L.filterMap fun x => (st x.f0 (prOf x)).map (mkS x.f0)
theorem stepL_len (st : Int → Pr → Option Pr) (L : List S) : (stepL st L).length ≤ L.length := List.length_filterMap_le _ _
theorem rel_step {f : Tb} {L : List S} (h : Rel f L) (st : Int → Pr → Option Pr) : Rel (fun q => (f q).bind (st q)) (stepL st L) where
  asc := by
    unfold stepL
    rw [List.pairwise_filterMap]
    refine h.asc.imp ?_
    intro x y hxy b hb b' hb'
    obtain ⟨r, _, rfl⟩ := Option.map_eq_some_iff.1 hb
    obtain ⟨r', _, rfl⟩ := Option.map_eq_some_iff.1 hb'
    exact hxy
  mem := by
    intro y
    unfold stepL
    rw [List.mem_filterMap]
    constructor
    · rintro ⟨x, hx, hy⟩
      obtain ⟨q, r, hf, rfl⟩ := (h.mem x).1 hx
      obtain ⟨r', hr, rfl⟩ := Option.map_eq_some_iff.1 hy
      exact ⟨q, r', by rw [hf]; exact hr, rfl⟩
    · rintro ⟨q, r', hg, rfl⟩
      obtain ⟨r, hf, hr⟩ := Option.bind_eq_some_iff.1 hg
      exact ⟨mkS q r, (h.mem _).2 ⟨q, r, hf, rfl⟩, by rw [prOf_mk]; show (st q r).map (mkS q) = _; rw [hr]; rfl⟩
  few := Nat.le_trans (stepL_len _ _) h.few
theorem rel_eq {f g : Tb} {L : List S} (h : Rel f L) (e : ∀ q, f q = g q) : Rel g L := by
  have : f = g := funext e
  rw [← this]; exact h
theorem rel_fork {f : Tb} {L : List S} (h : Rel f L) {last : Int} (ht : ∀ q, f q ≠ none → q ≤ last) (hl : L.length < 1000000) (r : Pr) : Rel (upd f (last + 1) (some r)) (L ++ [mkS (last + 1) r]) where
  asc := by
    rw [List.pairwise_append]
    refine ⟨h.asc, List.pairwise_singleton _ _, ?_⟩
    intro x hx y hy
    rw [List.mem_singleton] at hy
    subst hy
    obtain ⟨q, r', hf, rfl⟩ := (h.mem x).1 hx
    have := ht q (by rw [hf]; simp)
    show q < last + 1
    omega
  mem := by
    intro y
    rw [List.mem_append, List.mem_singleton, h.mem y]
    constructor
    · rintro (⟨q, r', hf, rfl⟩ | rfl)
      · have := ht q (by rw [hf]; simp)
        exact ⟨q, r', by rw [upd_other (by omega)]; exact hf, rfl⟩
      · exact ⟨last + 1, r, upd_same _ _ _, rfl⟩
    · rintro ⟨q, r', hf, rfl⟩
      by_cases hq : q = last + 1
      · subst hq
        rw [upd_same] at hf
        cases hf
        exact .inr rfl
      · rw [upd_other hq] at hf
        exact .inl ⟨q, r', hf, rfl⟩
  few := by simp; omega
/-- One of them is another one. -/
def setP (pid : Int) (r : Pr) : Int → Pr → Option Pr := fun q c => if q = pid then some r else some c
theorem rel_set {f : Tb} {L : List S} (h : Rel f L) {pid : Int} {r0 : Pr} (hf : f pid = some r0) (r : Pr) : Rel (upd f pid (some r)) (stepL (setP pid r) L) :=
  rel_eq (rel_step h (setP pid r)) (fun q => by
    by_cases hq : q = pid
    · subst hq
      rw [hf, upd_same]
      exact if_pos rfl
    · rw [upd_other hq]
      cases hc : f q with
      | none => rfl
      | some c => exact if_neg hq)
theorem set_list {L : List S} {f : Tb} (h : Rel f L) {pid : Int} {i : Nat} (hi : i < L.length) (hp : L[i].f0 = pid) (r : Pr) : L.set i (mkS pid r) = stepL (setP pid r) L := by
  have e : stepL (setP pid r) L = L.map fun x => if x.f0 = pid then mkS pid r else x := by
    unfold stepL
    rw [← List.filterMap_eq_map]
    refine filterMap_same L ?_
    intro x hx
    obtain ⟨q, c, hf, rfl⟩ := (h.mem x).1 hx
    show (setP pid r q (prOf (mkS q c))).map (mkS q) = some (if q = pid then mkS pid r else mkS q c)
    unfold setP
    by_cases hq : q = pid
    · rw [if_pos hq, if_pos hq, hq]; rfl
    · rw [if_neg hq, if_neg hq]; rfl
  rw [e]
  refine List.ext_getElem (by simp) ?_
  intro j h1 h2
  rw [List.getElem_set, List.getElem_map]
  have hj : j < L.length := by simpa using h2
  by_cases hij : i = j
  · subst hij
    rw [if_pos rfl, if_pos hp]
  · rw [if_neg hij, if_neg ?_]
    intro hpj
    rcases Nat.lt_or_gt_of_ne hij with hlt | hlt
    · have := rel_lt h hj hlt
      rw [hp, hpj] at this
      exact absurd this (Int.lt_irrefl _)
    · have := rel_lt h hi hlt
      rw [hp, hpj] at this
      exact absurd this (Int.lt_irrefl _)
/-- One of them is no more. -/
def delP (pid : Int) : Int → Pr → Option Pr := fun q c => if q = pid then none else some c
theorem rel_del {f : Tb} {L : List S} (h : Rel f L) (pid : Int) : Rel (upd f pid none) (stepL (delP pid) L) :=
  rel_eq (rel_step h (delP pid)) (fun q => by
    by_cases hq : q = pid
    · subst hq
      rw [upd_same]
      cases hc : f q with
      | none => rfl
      | some c => exact if_pos rfl
    · rw [upd_other hq]
      cases hc : f q with
      | none => rfl
      | some c => exact if_neg hq)
/-- One of them ends: b: its parent is live. -/
def endP (pid status : Int) (b : Bool) : Int → Pr → Option Pr := fun q c => if q = pid then (if b = true then some { c with live := false, status := status } else none) else aft pid q c
theorem rel_end {f : Tb} {L : List S} (h : Rel f L) {pid : Int} {r : Pr} (hf : f pid = some r) (status : Int) : Rel (endd f pid status) (stepL (endP pid status (liv f r.par)) L) :=
  rel_eq (rel_step h _) (fun q => by
    unfold endd
    rw [hf]
    show (f q).bind (endP pid status (liv f r.par) q) = if q = pid then (if liv f r.par = true then some { r with live := false, status := status } else none) else (f q).bind (aft pid q)
    by_cases hq : q = pid
    · subst hq
      rw [hf, if_pos rfl]
      exact if_pos rfl
    · rw [if_neg hq]
      cases hc : f q with
      | none => rfl
      | some c => exact if_neg hq)
end Go.Proofs.YtbgodajbdbgdfaaDoor.Kern
/- kern: the document's with: its contract. -/
namespace Go.Proofs.YtbgodajbdbgdfaaDoor.Kern
open Go.RowKit Go.Proofs.YtbgodajbdbgdfaaDoorW.PrintWords Go.Proofs.YtbgodajbdbgdfaaDoorW.PrintLast Go.Proofs.YtbgodajbdbgdfaaDoor.Sig Go.Proofs.YtbgodajbdbgdfaaDoor.Base Go.Proofs.YtbgodajbdbgdfaaDoor.Seq Go.Proofs.YtbgodajbdbgdfaaDoor.V Go.Maps
set_option linter.unusedVariables false
set_option linter.unusedSimpArgs false
/-- A table with a new list, of the call's own. -/
def SetOut (w w' : World) (e : Ending) (L : List S) (last : Int) (E : Option Addr) (m d : Nat) : Prop := ∃ (A : Option Addr) (n c : Nat), e = .returned (.agg #[.slice A n c, .int .i64 last, .slice E m d]) ∧ k77.R 77 w' w.heap.size ok0 (.slice A n c) L ∧ Below w.heap.size w w'
abbrev tbc (A : Option Addr) (n c : Nat) (last : Int) (E : Option Addr) (m d : Nat) : Array Value := #[.slice A n c, .int .i64 last, .slice E m d]
theorem tbc_one (A : Option Addr) (n c : Nat) (last : Int) (E : Option Addr) (m d : Nat) : ∀ u ∈ (tbc A n c last E m d).toList, u.oneCell' = true := by
  intro u hu
  simp only [tbc, List.mem_cons, List.not_mem_nil, or_false] at hu
  rcases hu with rfl | rfl | rfl <;> rfl
theorem add0 (g k : Nat) : (⟨g, 0, none⟩ : Addr).add k = ⟨g, k, none⟩ := by
  unfold Addr.add
  by_cases h : k = 0
  · subst h; rfl
  · rw [if_neg h]; simp
theorem flat_S : Flat k77 := fun _ _ _ _ _ _ h => h
theorem flat_SE : Flat k73 := fun _ _ _ _ _ _ h => h
theorem mkS_K (w : World) (q : Int) (r : Pr) : k77.K w (mkS q r) (prc q r).toList :=
  ⟨[.int .i64 q], [.int .i64 r.par, .int .i64 r.status, .bool r.live, .int .u32 (r.ign : Int), .int .u32 (r.ca : Int), .int .u32 (r.pen : Int)], rfl, rfl, [.int .i64 r.par], [.int .i64 r.status, .bool r.live, .int .u32 (r.ign : Int), .int .u32 (r.ca : Int), .int .u32 (r.pen : Int)], rfl, rfl, [.int .i64 r.status], [.bool r.live, .int .u32 (r.ign : Int), .int .u32 (r.ca : Int), .int .u32 (r.pen : Int)], rfl, rfl, [.bool r.live], [.int .u32 (r.ign : Int), .int .u32 (r.ca : Int), .int .u32 (r.pen : Int)], rfl, rfl, [.int .u32 (r.ign : Int)], [.int .u32 (r.ca : Int), .int .u32 (r.pen : Int)], rfl, rfl, [.int .u32 (r.ca : Int)], [.int .u32 (r.pen : Int)], rfl, rfl, rfl⟩
theorem own_some {w : World} {base : Nat} {v : Value} {xs : List S} (h : k77.R 77 w base ok0 v xs) (hn : 0 < xs.length) : ∃ g cap, v = .slice (some ⟨g, 0, none⟩) xs.length cap ∧ base ≤ g := by
  obtain ⟨inner, ho⟩ := Kd.R_own h
  rcases ho.2 with ⟨rfl, hz⟩ | ⟨g, cap, cur, rfl, hg, hh, r⟩
  · omega
  · exact ⟨g, cap, rfl, hg⟩
section
variable {ops : Array Oper} {rest : List Oper} {o : Oper} {a : Act} {Q : Exit → Act → World → Prop}
theorem app_S {w0 W : World} (base : Nat) {N : Tmp} (hd : o.dst = some N) (hgd : o.guard = none) (s x : Operand) (ho : o.op = .call { callee := .builtin .append, args := #[s, x], argTypes := #[40, 40] })
    (v : Value) (xs ys : List S) (A : Option Addr) (m c : Nat) (hs : a.eval s = v) (hx : a.eval x = .slice A m c)
    (HO : k77.R 77 W base ok0 v xs) (HR : Kd.C k77 W A m ys) (HB : Below base w0 W) (hbase : base ≤ W.heap.size) (hl : xs.length + m ≤ 100000000000)
    (h : ∀ A1 n1 cp1 w1, k77.R 77 w1 base ok0 (.slice A1 n1 cp1) (xs ++ ys) → Below base w0 w1 → W.grownBy w1 v.ownBlock → wpList Tryd.prog ops Q rest (a.put (some N) (.slice A1 n1 cp1)) w1) :
    wpList Tryd.prog ops Q (o :: rest) a W := by
  refine R_app k77 flat_S base (N := N) (w0 := w0) (W := W) hd hgd s x 40 77 (.agg #[Value.int .i64 0, .int .i64 0, .int .i64 0, .bool false, .int .u32 0, .int .u32 0, .int .u32 0]) 40 ho Tryd.underlying40 (by kernel_rfl) rfl (by decide) (by decide) v xs ys A m c hs hx HO HR HB hbase (by omega) ?_
  intro v1 w1 hR hB hG
  obtain ⟨A1, n1, cp1, rfl⟩ := R_slice3 hR
  rw [hd]
  exact h A1 n1 cp1 w1 hR hB hG
theorem tab_put {W : World} (hgd : o.guard = none) (p y : Tmp) (ho : o.op = .store 42 (.tmp p) (.tmp y)) (g : Nat) (cs : Array Value) (A : Option Addr) (n c : Nat) (last : Int) (E : Option Addr) (m d : Nat) (hcs : cs.size = 3) (hx : a.eval (.tmp p) = .pointer (some ⟨g, 0, none⟩)) (hy : a.eval (.tmp y) = .agg (tbc A n c last E m d))
    (hg : W.heap[g]? = some (.cells cs 42 (0, 0)))
    (h : ∀ w1, w1.heap[g]? = some (.cells (tbc A n c last E m d) 42 (0, 0)) → (∀ B, B ≤ g → Below B W w1) → (∀ k, k ≠ g → w1.heap[k]? = W.heap[k]?) → wpList Tryd.prog ops Q rest (a.put o.dst undef) w1) : wpList Tryd.prog ops Q (o :: rest) a W := by
  refine wpList_store_row hgd 42 (.tmp p) (.tmp y) ho g (tbc A n c last E m d) hx hy 42 cs hg (by kernel_rfl) hcs (by rw [Array.all_eq_true_iff_forall_mem]; exact fun v hv => tbc_one A n c last E m d v (by simpa using hv)) ?_
  exact h _ (setRow_heap _ _ _ _ _ _ hg) (fun B hB => below_setRow (Below.refl _ _) hB _) (fun k hk => setRow_other _ _ _ _ hk)
end
section
variable {w : World} {A E : Option Addr} {n c m d : Nat} {f : Tb} {L : List S} {es : List SE}
set_option maxHeartbeats 8000000 in
set_option maxRecDepth 100000 in
theorem rset_any (hr : RT w A n c L E m d es) (last : Int) (i : Nat) (hi : i < L.length) (hl : L.length ≤ 1000000) (q : Int) (r : Pr) :
    Calls Tryd.prog 52 #[.agg #[.slice A n c, .int .i64 last, .slice E m d], .int .i64 (i : Int), .agg (prc q r)] w fun e w' => SetOut w w' e (L.set i (mkS q r)) last E m d := by
  have hB1 := below_alloc (below_alloc (below_alloc (Below.refl w.heap.size w) (.cells #[.slice A n c, .int .i64 last, .slice E m d] 42)) (.cells (prc q r) 77)) (.cells #[.slice none 0 0, .int .i64 0, .slice none 0 0] 42)
  have hG3 := blk_below (blk_below (blk_new w (.cells #[.slice A n c, .int .i64 last, .slice E m d] 42)) (below_alloc (Below.refl _ _) (.cells (prc q r) 77))) (below_alloc (Below.refl _ _) (.cells #[.slice none 0 0, .int .i64 0, .slice none 0 0] 42))
  have hG5 := blk_below (blk_new (w.alloc (.cells #[.slice A n c, .int .i64 last, .slice E m d] 42)) (.cells (prc q r) 77)) (below_alloc (Below.refl _ _) (.cells #[.slice none 0 0, .int .i64 0, .slice none 0 0] 42))
  have hG6 := blk_new ((w.alloc (.cells #[.slice A n c, .int .i64 last, .slice E m d] 42)).alloc (.cells (prc q r) 77)) (.cells #[.slice none 0 0, .int .i64 0, .slice none 0 0] 42)
  rw [show (w.alloc (.cells #[.slice A n c, .int .i64 last, .slice E m d] 42)).heap.size = w.heap.size + 1 by simp] at hG5
  rw [show ((w.alloc (.cells #[.slice A n c, .int .i64 last, .slice E m d] 42)).alloc (.cells (prc q r) 77)).heap.size = w.heap.size + 2 by simp] at hG6
  have HR := Aside0.mk (hr.below hB1)
  have HE0 := Aside0.mk hr.erow
  have HEC := Aside0.mk hr.ecap
  have HB := Aside0.mk hB1
  have HG3 := Aside0.mk hG3
  have HG5 := Aside0.mk hG5
  have HG6 := Aside0.mk hG6
  clear hr hB1 hG3 hG5 hG6
  have hnl : L.length = n := HR.out.row.1
  go_enter Tryd.func52, Tryd.ntmps52
  go_upto_region 1 with (fail)
  generalize ((w.alloc (.cells #[.slice A n c, .int .i64 last, .slice E m d] 42)).alloc (.cells (prc q r) 77)).alloc (.cells #[.slice none 0 0, .int .i64 0, .slice none 0 0] 42) = w1 at *
  have b0 := pw_cell_below (below_alloc (Below.refl w1.heap.size w1) (.cells #[] 77)) ((blk_cell HG3.out 0).trans rfl : w1.cell? ⟨w.heap.size, 0, none⟩ = some (.slice A n c))
  have hsz1 := HB.out.size
  go_upto_region 2 with ((with_reducible refine gate_dst (N := 11) rfl ?_)
                         go_loud (refine app_S w1.heap.size (N := 11) (w0 := w1) (W := w1.alloc (.cells #[] 77)) rfl rfl (.tmp 8) (.tmp 10) rfl (.slice (some ⟨w1.heap.size, 0, none⟩) 0 0) [] L A n c rfl rfl (R_empty (blk_new w1 _) (Nat.le_refl _)) (Kd.C_below HR.out.row (below_alloc (Below.refl _ _) _)) (below_alloc (Below.refl _ _) _) (below_alloc (Below.refl _ _) _).size (by simp; omega) ?_)
                         intro A1 n1 cp1 w2 hR hB hG
                         have HR2 := Aside0.mk hR
                         have HB2 := Aside0.mk hB
                         clear hR hB hG b0)
  obtain ⟨g, cap, hv, hg⟩ := own_some HR2.out (show 0 < ([] ++ L).length by simp; omega)
  obtain ⟨rfl, rfl, rfl⟩ : A1 = some ⟨g, 0, none⟩ ∧ n1 = ([] ++ L).length ∧ cp1 = cap := by injection hv with e1 e2 e3; exact ⟨e1, e2, e3⟩
  have hnn : ([] ++ L).length = n := hnl
  rw [hnn] at HR2 ⊢
  have HG5b := Aside0.mk (blk_below HG5.out HB2.out)
  have HG3b := Aside0.mk (blk_below HG3.out HB2.out)
  have HG6b := Aside0.mk (blk_below HG6.out HB2.out)
  have HRB := Aside0.mk (HR.out.below HB2.out)
  have p0 : w2.cell? ⟨w.heap.size + 1, 0, none⟩ = some (.int .i64 q) := (blk_cell HG5b.out 0).trans rfl
  have p1 : w2.cell? ⟨w.heap.size + 1, 1, none⟩ = some (.int .i64 r.par) := (blk_cell HG5b.out 1).trans rfl
  have p2 : w2.cell? ⟨w.heap.size + 1, 2, none⟩ = some (.int .i64 r.status) := (blk_cell HG5b.out 2).trans rfl
  have p3 : w2.cell? ⟨w.heap.size + 1, 3, none⟩ = some (.bool r.live) := (blk_cell HG5b.out 3).trans rfl
  have p4 : w2.cell? ⟨w.heap.size + 1, 4, none⟩ = some (.int .u32 (r.ign : Int)) := (blk_cell HG5b.out 4).trans rfl
  have p5 : w2.cell? ⟨w.heap.size + 1, 5, none⟩ = some (.int .u32 (r.ca : Int)) := (blk_cell HG5b.out 5).trans rfl
  have p6 : w2.cell? ⟨w.heap.size + 1, 6, none⟩ = some (.int .u32 (r.pen : Int)) := (blk_cell HG5b.out 6).trans rfl
  have hi0 : (0 : Int) ≤ (i : Int) := by omega
  have hi1 : (i : Int) < (n : Int) := by omega
  clear hv hnn
  obtain ⟨oc, hocl, hocc⟩ : ∃ oc : List Value, oc.length = 7 ∧ ∀ j u, oc[j]? = some u → w2.cell? ⟨g, (i : Int).toNat * 7 + j, none⟩ = some u := by
    obtain ⟨ad, oc, e1, e2, _, e3⟩ := Kd.C_get (R_C HR2.out) (mkS q r) (i : Int) hi0 hi1
    obtain rfl := Option.some.inj e1
    refine ⟨oc, e2, fun j u hu => ?_⟩
    have e4 := e3 j u hu
    rw [add0] at e4
    exact e4
  have HOC := Aside0.mk hocc
  clear hocc
  go_upto_region 3 with ((with_reducible refine gate_st 77 15 14 rfl ?_)
                         go_loud (refine Kd.R_store k77 (w0 := w1) w1.heap.size rfl rfl 77 (.tmp 15) (.tmp 14) rfl 77 (g := g) (n := n) (cap := cp1) (o' := i * 7) (i : Int) 0 ([] ++ L) (mkS q r) (.agg (prc q r)) (prc q r).toList oc ok0 (fun _ => False) rfl rfl rfl rfl (by kernel_rfl) (prc_one q r) HR2.out hi0 hi1 hocl HOC.out (Nat.le_refl 7) ?_ (fun _ h => h.elim) HB2.out ?_)
                         exact (show k77.M w2 w1.heap.size (fun _ => False) (mkS q r) (oc.take 0 ++ (prc q r).toList ++ oc.drop 7) from by rw [List.take_zero, List.nil_append, List.drop_eq_nil_of_le (by omega), List.append_nil]; exact flat_S w2 w2 w1.heap.size _ _ _ (mkS_K w2 q r))
                         intro w3 hR hB hG
                         have HR3 := Aside0.mk hR
                         have HB3 := Aside0.mk hB
                         have HG3c := Aside0.mk (blk_grown HG3b.out hG (by have := blk_lt HG3.out; intro h; injection h with h; omega))
                         have HG6c := Aside0.mk (blk_grown HG6b.out hG (by have := blk_lt HG6.out; intro h; injection h with h; omega))
                         clear hR hB hG p0 p1 p2 p3 p4 p5 p6)
  have c0 : w3.cell? ⟨w.heap.size, 0, none⟩ = some (.slice A n c) := (blk_cell HG3c.out 0).trans rfl
  have f0 := blk_frozen HG3c.out 0
  go_upto_region 4 with (fail)
  have HR4 := Aside0.mk (Kd.R_set HR3.out HG3c.out (by decide) 0 (.slice (some ⟨g, 0, none⟩) n cp1))
  have HG3d := Aside0.mk (blk_put HG3c.out 0 (.slice (some ⟨g, 0, none⟩) n cp1) rfl)
  have HG6d := Aside0.mk (blk_far HG6c.out (show w.heap.size + 2 ≠ (⟨w.heap.size, 0, none⟩ : Addr).block by show w.heap.size + 2 ≠ w.heap.size; omega) (.slice (some ⟨g, 0, none⟩) n cp1))
  have HB4 := Aside0.mk ((HB.out.trans (HB3.out.mono hsz1)).setCell (p := ⟨w.heap.size, 0, none⟩) (Nat.le_refl _) (.slice (some ⟨g, 0, none⟩) n cp1))
  clear c0 f0
  generalize w3.setCell ⟨w.heap.size, 0, none⟩ (.slice (some ⟨g, 0, none⟩) n cp1) = w4 at *
  have c0 : w4.cell? ⟨w.heap.size, 0, none⟩ = some (.slice (some ⟨g, 0, none⟩) n cp1) := (blk_cell HG3d.out 0).trans rfl
  have c1 : w4.cell? ⟨w.heap.size, 1, none⟩ = some (.int .i64 last) := (blk_cell HG3d.out 1).trans rfl
  have c2 : w4.cell? ⟨w.heap.size, 2, none⟩ = some (.slice E m d) := (blk_cell HG3d.out 2).trans rfl
  have hg6 := blk_lt HG6.out
  go_wp2_with ((with_reducible refine gate_st 42 6 18 rfl ?_)
               go_loud (refine tab_put rfl 6 18 rfl (w.heap.size + 2) _ (some ⟨g, 0, none⟩) n cp1 last E m d rfl rfl rfl HG6d.out ?_)
               intro w5 hg hbx hoth
               have HX := Aside0.mk hg
               have HB5 := Aside0.mk (HB4.out.trans (hbx w.heap.size (by omega)))
               have HR5 := Aside0.mk (Kd.R_lower (base' := w.heap.size) (Kd.R_mono (ok' := ok0) (Kd.R_step (Kd.R_bound HR4.out) (fun k ho _ => hoth k (by have := ho.2.1; omega))) (fun _ _ => trivial)) hsz1)
               clear hg hbx hoth c0 c1 c2)
  ((try simp only [Exit.inBlock, Exit.then]); refine bodyPost_ret (results_single (r := .cell 6 42) rfl (.cell _ 42 _ (0, 0) _ rfl HX.out Tryd.underlying42 rfl (by kernel_rfl) .nil)) rfl ?_)
  have hnl2 : (([] ++ L).set (i : Int).toNat (mkS q r)) = L.set i (mkS q r) := by rw [Int.toNat_natCast]; rfl
  rw [hnl2] at HR5
  exact ⟨_, _, _, rfl, HR5.out, HB5.out⟩
end
end Go.Proofs.YtbgodajbdbgdfaaDoor.Kern
/- kern: the document's Take: its contract. -/
namespace Go.Proofs.YtbgodajbdbgdfaaDoor.Kern
open Go.RowKit Go.Proofs.YtbgodajbdbgdfaaDoorW.PrintWords Go.Proofs.YtbgodajbdbgdfaaDoorW.PrintLast Go.Proofs.YtbgodajbdbgdfaaDoor.Sig Go.Proofs.YtbgodajbdbgdfaaDoor.Base Go.Proofs.YtbgodajbdbgdfaaDoor.Seq Go.Proofs.YtbgodajbdbgdfaaDoor.V Go.Maps
set_option linter.unusedVariables false
set_option linter.unusedSimpArgs false
/-- A table, and whether it is another one: the same one, or one with a new list of the call's own. -/
def TabB2 (w w' : World) (e : Ending) (b : Bool) (A0 : Option Addr) (n0 c0 : Nat) (L : List S) (last : Int) (E : Option Addr) (m d : Nat) : Prop := ∃ (A : Option Addr) (n c : Nat), e = .returned (.tuple #[.agg #[.slice A n c, .int .i64 last, .slice E m d], .bool b]) ∧ (if b = true then k77.R 77 w' w.heap.size ok0 (.slice A n c) L else A = A0 ∧ n = n0 ∧ c = c0) ∧ Below w.heap.size w w'
section
variable {w : World} {A E : Option Addr} {n c m d : Nat} {f : Tb} {L : List S} {es : List SE}
theorem pend_lt {pid : Int} (hset : ∀ q r, f q = some r → r.pen < 4294967296) : pend f pid < 4294967296 := by
  unfold pend
  cases hf : f pid with
  | none => show (0 : Nat) < _; decide
  | some r =>
    show (if r.live = true then r.pen else 0) < _
    split
    · exact hset pid r hf
    · decide
set_option maxHeartbeats 8000000 in
set_option maxRecDepth 100000 in
theorem rtake_no (h : Rel f L) (hr : RT w A n c L E m d es) (last pid s : Int) (hset : ∀ q r, f q = some r → r.pen < 4294967296) (hb : hs (pend f pid) s = false) :
    Calls Tryd.prog 23 #[.agg #[.slice A n c, .int .i64 last, .slice E m d], .int .i64 pid, .int .i64 s] w fun e w' => TabB2 w w' e false A n c L last E m d := by
  have hB1 := below_alloc (below_alloc (Below.refl w.heap.size w) (.cells #[.slice A n c, .int .i64 last, .slice E m d] 42)) (.cells #[.slice none 0 0, .int .i64 0, .slice none 0 0] 42)
  have hG3 := blk_below (blk_new w (.cells #[.slice A n c, .int .i64 last, .slice E m d] 42)) (below_alloc (Below.refl _ _) (.cells #[.slice none 0 0, .int .i64 0, .slice none 0 0] 42))
  have hG6 := blk_new (w.alloc (.cells #[.slice A n c, .int .i64 last, .slice E m d] 42)) (.cells #[.slice none 0 0, .int .i64 0, .slice none 0 0] 42)
  rw [show (w.alloc (.cells #[.slice A n c, .int .i64 last, .slice E m d] 42)).heap.size = w.heap.size + 1 by simp] at hG6
  have HR := Aside0.mk (hr.below hB1)
  have HB := Aside0.mk hB1
  have HG3 := Aside0.mk hG3
  have HG6 := Aside0.mk hG6
  have HR0 := Aside0.mk hr
  have HH := Aside0.mk h
  clear hr hB1 hG3 hG6 h
  have HP := Aside0.mk (pend_lt (pid := pid) hset)
  have HBB := Aside0.mk hb
  clear hset hb
  go_enter Tryd.func23, Tryd.ntmps23
  go_upto_region 1 with (fail)
  generalize (w.alloc (.cells #[.slice A n c, .int .i64 last, .slice E m d] 42)).alloc (.cells #[.slice none 0 0, .int .i64 0, .slice none 0 0] 42) = w1 at *
  have b0 : w1.cell? ⟨w.heap.size, 0, none⟩ = some (.slice A n c) := (blk_cell HG3.out 0).trans rfl
  have b1 : w1.cell? ⟨w.heap.size, 1, none⟩ = some (.int .i64 last) := (blk_cell HG3.out 1).trans rfl
  have b2 : w1.cell? ⟨w.heap.size, 2, none⟩ = some (.slice E m d) := (blk_cell HG3.out 2).trans rfl
  go_upto_region 2 with (first
    | (go_at_call 31; (with_reducible refine (rpend_any HH.out HR.out last pid).mono ?_); rintro e w2 ⟨rfl, hB⟩; have HB2 := Aside0.mk hB; clear hB)
    | (go_at_call 56; (with_reducible refine (rhas_any (pend f pid) HP.out s _).mono ?_); rintro e w3 ⟨rfl, hB⟩; rw [HBB.out]; have HB3 := Aside0.mk (HB2.out.trans (hB.mono HB2.out.size)); clear hB b0 b1 b2))
  have HG3b := Aside0.mk (blk_below HG3.out HB3.out)
  have HG6b := Aside0.mk (blk_below HG6.out HB3.out)
  have HBW := Aside0.mk (HB.out.trans (HB3.out.mono HB.out.size))
  obtain ⟨w2', rfl⟩ : ∃ w2', w2' = w3 := ⟨_, rfl⟩
  have b0 : w2'.cell? ⟨w.heap.size, 0, none⟩ = some (.slice A n c) := (blk_cell HG3b.out 0).trans rfl
  have b1 : w2'.cell? ⟨w.heap.size, 1, none⟩ = some (.int .i64 last) := (blk_cell HG3b.out 1).trans rfl
  have b2 : w2'.cell? ⟨w.heap.size, 2, none⟩ = some (.slice E m d) := (blk_cell HG3b.out 2).trans rfl
  go_wp2_with ((with_reducible refine gate_st 42 6 16 rfl ?_)
               go_loud (refine tab_put rfl 6 16 rfl (w.heap.size + 1) _ A n c last E m d rfl rfl rfl HG6b.out ?_)
               intro w5 hg hbx hoth
               have HX := Aside0.mk hg
               have HB5 := Aside0.mk (HBW.out.trans (hbx w.heap.size (by omega)))
               clear hg hbx hoth b0 b1 b2)
  ((try simp only [Exit.inBlock, Exit.then]); refine bodyPost_ret (results_ct rfl _ _ _ 42 _ (0, 0) _ rfl HX.out Tryd.underlying42 rfl (by kernel_rfl)) rfl ?_)
  exact ⟨_, _, _, rfl, ⟨rfl, rfl, rfl⟩, HB5.out⟩
set_option maxHeartbeats 8000000 in
set_option maxRecDepth 100000 in
theorem rtake_yes (h : Rel f L) (hr : RT w A n c L E m d es) (last pid s : Int) (r : Pr) (hf : f pid = some r) (hlv : r.live = true) (hpen : r.pen < 4294967296) (hb : hs r.pen s = true) :
    Calls Tryd.prog 23 #[.agg #[.slice A n c, .int .i64 last, .slice E m d], .int .i64 pid, .int .i64 s] w fun e w' => TabB2 w w' e true A n c (stepL (setP pid { r with pen := wto r.pen s }) L) last E m d := by
  have hpd : pend f pid = r.pen := by unfold pend; rw [hf]; exact if_pos hlv
  obtain ⟨i, hi, e, hat⟩ := rat_some h hf
  have hset := set_list h hi (show L[i].f0 = pid by rw [e]; rfl) { r with pen := wto r.pen s }
  have hfew := h.few
  have hB1 := below_alloc (below_alloc (Below.refl w.heap.size w) (.cells #[.slice A n c, .int .i64 last, .slice E m d] 42)) (.cells #[.slice none 0 0, .int .i64 0, .slice none 0 0] 42)
  have hG3 := blk_below (blk_new w (.cells #[.slice A n c, .int .i64 last, .slice E m d] 42)) (below_alloc (Below.refl _ _) (.cells #[.slice none 0 0, .int .i64 0, .slice none 0 0] 42))
  have hG6 := blk_new (w.alloc (.cells #[.slice A n c, .int .i64 last, .slice E m d] 42)) (.cells #[.slice none 0 0, .int .i64 0, .slice none 0 0] 42)
  rw [show (w.alloc (.cells #[.slice A n c, .int .i64 last, .slice E m d] 42)).heap.size = w.heap.size + 1 by simp] at hG6
  have HR := Aside0.mk (hr.below hB1)
  have HB := Aside0.mk hB1
  have HG3 := Aside0.mk hG3
  have HG6 := Aside0.mk hG6
  have HR0 := Aside0.mk hr
  have HH := Aside0.mk h
  clear hr hB1 hG3 hG6 h
  have HPD := Aside0.mk hpd
  have HP := Aside0.mk hpen
  have HBB := Aside0.mk hb
  have HAT := Aside0.mk hat
  have HSET := Aside0.mk hset
  obtain ⟨ad, rfl, k0, k1, k2, k3, k4, k5, k6⟩ := at_S HR.out.row i hi e
  have HK := Aside0.mk (And.intro k0 (And.intro k1 (And.intro k2 (And.intro k3 (And.intro k4 (And.intro k5 k6))))))
  have hin : i < n := by have := HR.out.row.1; omega
  have hi0 : (0 : Int) ≤ (i : Int) := by omega
  have hi1 : (i : Int) < (n : Int) := by omega
  clear hpd hpen hb hat hset k0 k1 k2 k3 k4 k5 k6 e hf hlv
  go_enter Tryd.func23, Tryd.ntmps23
  go_upto_region 1 with (fail)
  generalize (w.alloc (.cells #[.slice (some ad) n c, .int .i64 last, .slice E m d] 42)).alloc (.cells #[.slice none 0 0, .int .i64 0, .slice none 0 0] 42) = w1 at *
  have b0 : w1.cell? ⟨w.heap.size, 0, none⟩ = some (.slice (some ad) n c) := (blk_cell HG3.out 0).trans rfl
  have b1 : w1.cell? ⟨w.heap.size, 1, none⟩ = some (.int .i64 last) := (blk_cell HG3.out 1).trans rfl
  have b2 : w1.cell? ⟨w.heap.size, 2, none⟩ = some (.slice E m d) := (blk_cell HG3.out 2).trans rfl
  go_upto_region 3 with (first
    | (go_at_call 31; (with_reducible refine (rpend_any HH.out HR.out last pid).mono ?_); rintro e w2 ⟨rfl, hB⟩; rw [HPD.out]; have HB2 := Aside0.mk hB; clear hB)
    | (go_at_call 56; (with_reducible refine (rhas_any r.pen HP.out s _).mono ?_); rintro e w3 ⟨rfl, hB⟩; rw [HBB.out]; have HB3 := Aside0.mk (HB2.out.trans (hB.mono HB2.out.size)); clear hB b0 b1 b2))
  have HG3b := Aside0.mk (blk_below HG3.out HB3.out)
  have HG6b := Aside0.mk (blk_below HG6.out HB3.out)
  have HRb := Aside0.mk (HR.out.below HB3.out)
  have b0 : w3.cell? ⟨w.heap.size, 0, none⟩ = some (.slice (some ad) n c) := (blk_cell HG3b.out 0).trans rfl
  have b1 : w3.cell? ⟨w.heap.size, 1, none⟩ = some (.int .i64 last) := (blk_cell HG3b.out 1).trans rfl
  have b2 : w3.cell? ⟨w.heap.size, 2, none⟩ = some (.slice E m d) := (blk_cell HG3b.out 2).trans rfl
  go_upto_region 4 with (go_at_call 47; (with_reducible refine (HAT.out _ (some ad) E n c m d es last HRb.out).mono ?_); rintro e w4 ⟨rfl, hB⟩; have HB4 := Aside0.mk (HB3.out.trans (hB.mono HB3.out.size)); clear hB b0 b1 b2)
  have HG3c := Aside0.mk (blk_below HG3.out HB4.out)
  have HG6c := Aside0.mk (blk_below HG6.out HB4.out)
  have b0 : w4.cell? ⟨w.heap.size, 0, none⟩ = some (.slice (some ad) n c) := (blk_cell HG3c.out 0).trans rfl
  obtain ⟨k0, k1, k2, k3, k4, k5, k6⟩ := HK.out
  replace k0 := pw_cell_below HB4.out k0
  replace k1 := pw_cell_below HB4.out k1
  replace k2 := pw_cell_below HB4.out k2
  replace k3 := pw_cell_below HB4.out k3
  replace k4 := pw_cell_below HB4.out k4
  replace k5 := pw_cell_below HB4.out k5
  replace k6 := pw_cell_below HB4.out k6
  have HG9 := Aside0.mk (blk_new w4 (.cells (prc pid r) 77))
  have HB5 := Aside0.mk (HB4.out.trans ((below_alloc (Below.refl w4.heap.size w4) (.cells (prc pid r) 77)).mono HB4.out.size))
  go_upto_region 5 with (fail)
  clear b0 k0 k1 k2 k3 k4 k5 k6
  generalize w4.alloc (.cells (prc pid r) 77) = w5 at *
  have hg9 := Aside0.mk (show w1.heap.size ≤ w4.heap.size from HB4.out.size)
  have p6 : w5.cell? ⟨w4.heap.size, 6, none⟩ = some (.int .u32 (r.pen : Int)) := (blk_cell HG9.out 6).trans rfl
  have hlt6 := blk_lt HG6.out
  go_upto_region 6 with (go_at_call 55; (with_reducible refine (rwithout_any r.pen HP.out s _).mono ?_); rintro e w6 ⟨rfl, hB⟩; have HB6 := Aside0.mk (HB5.out.trans (hB.mono HB5.out.size)); have HG9b := Aside0.mk (blk_below HG9.out hB); have q6 : w6.cell? ⟨w4.heap.size, 6, none⟩ = some (.int .u32 (r.pen : Int)) := (blk_cell HG9b.out 6).trans rfl; have f6 := blk_frozen HG9b.out 6; clear hB p6)
  have HG9c := Aside0.mk (show (w6.setCell ⟨w4.heap.size, 6, none⟩ (.int .u32 ((wto r.pen s : Nat) : Int))).heap[w4.heap.size]? = some (.cells (prc pid { r with pen := wto r.pen s }) 77 (0, 0)) from blk_put HG9b.out 6 _ rfl)
  have HG3d := Aside0.mk (blk_far (blk_below HG3.out HB6.out) (show w.heap.size ≠ (⟨w4.heap.size, 6, none⟩ : Addr).block by have := hg9.out; show w.heap.size ≠ w4.heap.size; omega) (.int .u32 ((wto r.pen s : Nat) : Int)))
  have HG6d := Aside0.mk (blk_far (blk_below HG6.out HB6.out) (show w.heap.size + 1 ≠ (⟨w4.heap.size, 6, none⟩ : Addr).block by have := hg9.out; show w.heap.size + 1 ≠ w4.heap.size; omega) (.int .u32 ((wto r.pen s : Nat) : Int)))
  have HB7 := Aside0.mk ((HB.out.trans (HB6.out.mono HB.out.size)).setCell (p := ⟨w4.heap.size, 6, none⟩) (Nat.le_trans HB.out.size hg9.out) (.int .u32 ((wto r.pen s : Nat) : Int)))
  clear q6 f6
  generalize w6.setCell ⟨w4.heap.size, 6, none⟩ (.int .u32 ((wto r.pen s : Nat) : Int)) = w7 at *
  have b0 : w7.cell? ⟨w.heap.size, 0, none⟩ = some (.slice (some ad) n c) := (blk_cell HG3d.out 0).trans rfl
  have b1 : w7.cell? ⟨w.heap.size, 1, none⟩ = some (.int .i64 last) := (blk_cell HG3d.out 1).trans rfl
  have b2 : w7.cell? ⟨w.heap.size, 2, none⟩ = some (.slice E m d) := (blk_cell HG3d.out 2).trans rfl
  have p0 : w7.cell? ⟨w4.heap.size, 0, none⟩ = some (.int .i64 pid) := (blk_cell HG9c.out 0).trans rfl
  have p1 : w7.cell? ⟨w4.heap.size, 1, none⟩ = some (.int .i64 r.par) := (blk_cell HG9c.out 1).trans rfl
  have p2 : w7.cell? ⟨w4.heap.size, 2, none⟩ = some (.int .i64 r.status) := (blk_cell HG9c.out 2).trans rfl
  have p3 : w7.cell? ⟨w4.heap.size, 3, none⟩ = some (.bool r.live) := (blk_cell HG9c.out 3).trans rfl
  have p4 : w7.cell? ⟨w4.heap.size, 4, none⟩ = some (.int .u32 (r.ign : Int)) := (blk_cell HG9c.out 4).trans rfl
  have p5 : w7.cell? ⟨w4.heap.size, 5, none⟩ = some (.int .u32 (r.ca : Int)) := (blk_cell HG9c.out 5).trans rfl
  have p6 : w7.cell? ⟨w4.heap.size, 6, none⟩ = some (.int .u32 ((wto r.pen s : Nat) : Int)) := (blk_cell HG9c.out 6).trans rfl
  have hw7 := blk_lt HG6d.out
  go_wp2_with (first
    | (go_at_call 52; go_loud (refine (rset_any (HR0.out.below HB7.out) last i hi hfew pid { r with pen := wto r.pen s }).mono ?_); rintro e w8 ⟨A8, n8, c8, rfl, hR, hB⟩; have HR8 := Aside0.mk hR; have HB8 := Aside0.mk (HB7.out.trans (hB.mono HB7.out.size)); have HG6e := Aside0.mk (blk_below HG6d.out hB); clear hR hB b0 b1 b2 p0 p1 p2 p3 p4 p5 p6)
    | ((with_reducible refine gate_st 42 6 33 rfl ?_)
       go_loud (refine tab_put rfl 6 33 rfl (w.heap.size + 1) _ A8 n8 c8 last E m d rfl rfl rfl HG6e.out ?_)
       intro w9 hg hbx hoth
       have HX := Aside0.mk hg
       have HB9 := Aside0.mk (HB8.out.trans (hbx w.heap.size (by omega)))
       have HR9 := Aside0.mk (Kd.R_lower (base' := w.heap.size) (Kd.R_mono (ok' := ok0) (Kd.R_step (Kd.R_bound HR8.out) (fun k ho _ => hoth k (by have := ho.2.1; omega))) (fun _ _ => trivial)) HB7.out.size)
       clear hg hbx hoth))
  ((try simp only [Exit.inBlock, Exit.then]); refine bodyPost_ret (results_ct rfl _ _ _ 42 _ (0, 0) _ rfl HX.out Tryd.underlying42 rfl (by kernel_rfl)) rfl ?_)
  exact ⟨A8, n8, c8, rfl, by rw [if_pos rfl, ← HSET.out]; exact HR9.out, HB9.out⟩
end
end Go.Proofs.YtbgodajbdbgdfaaDoor.Kern
/- kern: the document's Put: its contract. -/
namespace Go.Proofs.YtbgodajbdbgdfaaDoor.Kern
open Go.RowKit Go.Proofs.YtbgodajbdbgdfaaDoorW.PrintWords Go.Proofs.YtbgodajbdbgdfaaDoorW.PrintLast Go.Proofs.YtbgodajbdbgdfaaDoor.Sig Go.Proofs.YtbgodajbdbgdfaaDoor.Base Go.Proofs.YtbgodajbdbgdfaaDoor.Seq Go.Proofs.YtbgodajbdbgdfaaDoor.V Go.Maps
set_option linter.unusedVariables false
set_option linter.unusedSimpArgs false
theorem set_eq {f : Tb} {L : List S} (h : Rel f L) {pid : Int} {i : Nat} (hi : i < L.length) (hp : L[i].f0 = pid) (r : Pr) : stepL (setP pid r) L = L.set i (mkS pid r) := (set_list h hi hp r).symm
/-- The walk's three boxes: the table, the result, the process. -/
structure BoxSt (w W : World) (A : Option Addr) (n c : Nat) (last : Int) (E : Option Addr) (m d g : Nat) (q : Int) (r : Pr) : Prop where
  g3 : W.heap[w.heap.size]? = some (.cells #[.slice A n c, .int .i64 last, .slice E m d] 42 (0, 0))
  g6 : W.heap[w.heap.size + 1]? = some (.cells #[.slice none 0 0, .int .i64 0, .slice none 0 0] 42 (0, 0))
  g9 : W.heap[g]? = some (.cells (prc q r) 77 (0, 0))
  bel : Below w.heap.size w W
  hi : w.heap.size + 1 < g
theorem box_below {w W W' : World} {A : Option Addr} {n c : Nat} {last : Int} {E : Option Addr} {m d g : Nat} {q : Int} {r : Pr} (h : BoxSt w W A n c last E m d g q r) (hb : Below W.heap.size W W') : BoxSt w W' A n c last E m d g q r :=
  ⟨blk_below h.g3 hb, blk_below h.g6 hb, blk_below h.g9 hb, h.bel.trans (hb.mono h.bel.size), h.hi⟩
theorem box_set {w W : World} {A : Option Addr} {n c : Nat} {last : Int} {E : Option Addr} {m d g : Nat} {q : Int} {r : Pr} (h : BoxSt w W A n c last E m d g q r) (j : Nat) (u : Value) (r' : Pr) (e : (prc q r).setIfInBounds j u = prc q r') : BoxSt w (W.setCell ⟨g, j, none⟩ u) A n c last E m d g q r' :=
  ⟨blk_far h.g3 (show w.heap.size ≠ (⟨g, j, none⟩ : Addr).block by have := h.hi; show w.heap.size ≠ g; omega) u, blk_far h.g6 (show w.heap.size + 1 ≠ (⟨g, j, none⟩ : Addr).block by have := h.hi; show w.heap.size + 1 ≠ g; omega) u, by rw [← e]; exact blk_put h.g9 j u rfl, h.bel.setCell (p := ⟨g, j, none⟩) (by have := h.hi; show w.heap.size ≤ g; omega) u, h.hi⟩
section
variable {w : World} {A E : Option Addr} {n c m d : Nat} {f : Tb} {L : List S} {es : List SE}
set_option maxHeartbeats 8000000 in
set_option maxRecDepth 100000 in
theorem rput0_any (h : Rel f L) (hr : RT w A n c L E m d es) (last pid s : Int) (r : Pr) (hf : f pid = some r) (hlv : r.live = true) (hI : r.ign < 4294967296 ∧ r.ca < 4294967296 ∧ r.pen < 4294967296) (hs1 : isg s = true) (hfx : fx s = false) :
    Calls Tryd.prog 21 #[.agg #[.slice A n c, .int .i64 last, .slice E m d], .int .i64 pid, .int .i64 s, .int .i64 0] w fun e w' => TabB2 w w' e true A n c (stepL (setP pid (putR r s 0)) L) last E m d := by
  have hll : liv f pid = true := by unfold liv; rw [hf]; exact hlv
  obtain ⟨i, hi, e, hat⟩ := rat_some h hf
  have hfew := h.few
  have hB1 := below_alloc (below_alloc (Below.refl w.heap.size w) (.cells #[.slice A n c, .int .i64 last, .slice E m d] 42)) (.cells #[.slice none 0 0, .int .i64 0, .slice none 0 0] 42)
  have hG3 := blk_below (blk_new w (.cells #[.slice A n c, .int .i64 last, .slice E m d] 42)) (below_alloc (Below.refl _ _) (.cells #[.slice none 0 0, .int .i64 0, .slice none 0 0] 42))
  have hG6 := blk_new (w.alloc (.cells #[.slice A n c, .int .i64 last, .slice E m d] 42)) (.cells #[.slice none 0 0, .int .i64 0, .slice none 0 0] 42)
  rw [show (w.alloc (.cells #[.slice A n c, .int .i64 last, .slice E m d] 42)).heap.size = w.heap.size + 1 by simp] at hG6
  have HR := Aside0.mk (hr.below hB1)
  have HB := Aside0.mk hB1
  have HG3 := Aside0.mk hG3
  have HG6 := Aside0.mk hG6
  have HR0 := Aside0.mk hr
  have HH := Aside0.mk h
  clear hr hB1 hG3 hG6 h
  have HI := Aside0.mk hI
  have HLL := Aside0.mk hll
  have HS1 := Aside0.mk hs1
  have HFX := Aside0.mk hfx
  have HAT := Aside0.mk hat
  have HPI := Aside0.mk (show L[i].f0 = pid by rw [e]; rfl)
  obtain ⟨ad, rfl, k0, k1, k2, k3, k4, k5, k6⟩ := at_S HR.out.row i hi e
  have HK := Aside0.mk (And.intro k0 (And.intro k1 (And.intro k2 (And.intro k3 (And.intro k4 (And.intro k5 k6))))))
  have hin : i < n := by have := HR.out.row.1; omega
  have hi0 : (0 : Int) ≤ (i : Int) := by omega
  have hi1 : (i : Int) < (n : Int) := by omega
  clear hI hll hs1 hfx hat k0 k1 k2 k3 k4 k5 k6 e hf hlv
  go_enter Tryd.func21, Tryd.ntmps21
  go_upto_region 1 with (fail)
  generalize (w.alloc (.cells #[.slice (some ad) n c, .int .i64 last, .slice E m d] 42)).alloc (.cells #[.slice none 0 0, .int .i64 0, .slice none 0 0] 42) = w1 at *
  have b0 : w1.cell? ⟨w.heap.size, 0, none⟩ = some (.slice (some ad) n c) := (blk_cell HG3.out 0).trans rfl
  have b1 : w1.cell? ⟨w.heap.size, 1, none⟩ = some (.int .i64 last) := (blk_cell HG3.out 1).trans rfl
  have b2 : w1.cell? ⟨w.heap.size, 2, none⟩ = some (.slice E m d) := (blk_cell HG3.out 2).trans rfl
  go_upto_region 3 with (first
    | (go_at_call 25; (with_reducible refine (rlive_any HH.out HR.out last pid).mono ?_); rintro e w2 ⟨rfl, hB⟩; rw [HLL.out]; have HB2 := Aside0.mk hB; clear hB)
    | (go_at_call 51; (with_reducible refine (ris2_any s _).mono ?_); rintro e w3a ⟨rfl, hB⟩; rw [HS1.out]; have HB3a := Aside0.mk (HB2.out.trans (hB.mono HB2.out.size)); clear hB)
    | (go_at_call 40; (with_reducible refine (rfixed_any s _).mono ?_); rintro e w3 ⟨rfl, hB⟩; rw [HFX.out]; have HB3 := Aside0.mk (HB3a.out.trans (hB.mono HB3a.out.size)); clear hB b0 b1 b2))
  have HG3b := Aside0.mk (blk_below HG3.out HB3.out)
  have HG6b := Aside0.mk (blk_below HG6.out HB3.out)
  have HRb := Aside0.mk (HR.out.below HB3.out)
  have b0 : w3.cell? ⟨w.heap.size, 0, none⟩ = some (.slice (some ad) n c) := (blk_cell HG3b.out 0).trans rfl
  have b1 : w3.cell? ⟨w.heap.size, 1, none⟩ = some (.int .i64 last) := (blk_cell HG3b.out 1).trans rfl
  have b2 : w3.cell? ⟨w.heap.size, 2, none⟩ = some (.slice E m d) := (blk_cell HG3b.out 2).trans rfl
  go_upto_region 4 with (go_at_call 47; (with_reducible refine (HAT.out _ (some ad) E n c m d es last HRb.out).mono ?_); rintro e w4 ⟨rfl, hB⟩; have HB4 := Aside0.mk (HB3.out.trans (hB.mono HB3.out.size)); clear hB b0 b1 b2)
  have b0 : w4.cell? ⟨w.heap.size, 0, none⟩ = some (.slice (some ad) n c) := (blk_cell (blk_below HG3.out HB4.out) 0).trans rfl
  obtain ⟨k0, k1, k2, k3, k4, k5, k6⟩ := HK.out
  replace k0 := pw_cell_below HB4.out k0
  replace k1 := pw_cell_below HB4.out k1
  replace k2 := pw_cell_below HB4.out k2
  replace k3 := pw_cell_below HB4.out k3
  replace k4 := pw_cell_below HB4.out k4
  replace k5 := pw_cell_below HB4.out k5
  replace k6 := pw_cell_below HB4.out k6
  have hal := below_alloc (Below.refl w4.heap.size w4) (.cells (prc pid r) 77)
  have HSw5 := Aside0.mk (show BoxSt w (w4.alloc (.cells (prc pid r) 77)) (some ad) n c last E m d w4.heap.size pid r from ⟨blk_below (blk_below HG3.out HB4.out) hal, blk_below (blk_below HG6.out HB4.out) hal, blk_new w4 _, (HB.out.trans (HB4.out.mono HB.out.size)).trans (hal.mono (HB.out.trans (HB4.out.mono HB.out.size)).size), by have := blk_lt (blk_below HG6.out HB4.out); omega⟩)
  clear hal
  go_upto_region 5 with (fail)
  clear b0 k0 k1 k2 k3 k4 k5 k6
  generalize w4.alloc (.cells (prc pid r) 77) = w5 at *
  generalize w4.heap.size = g9 at *
  have p4 : w5.cell? ⟨g9, 4, none⟩ = some (.int .u32 (r.ign : Int)) := (blk_cell HSw5.out.g9 4).trans rfl
  go_upto_region 6 with (go_at_call 55; (with_reducible refine (rwithout_any r.ign HI.out.1 s _).mono ?_); rintro e w6a ⟨rfl, hB⟩; have HSw6a := Aside0.mk (box_below HSw5.out hB); have q4 : w6a.cell? ⟨g9, 4, none⟩ = some (.int .u32 (r.ign : Int)) := (blk_cell HSw6a.out.g9 4).trans rfl; have f4 := blk_frozen HSw6a.out.g9 4; clear hB p4)
  have HSw6 := Aside0.mk (box_set HSw6a.out 4 (.int .u32 ((wto r.ign s : Nat) : Int)) { r with ign := wto r.ign s } rfl)
  clear q4 f4
  generalize w6a.setCell ⟨g9, 4, none⟩ (.int .u32 ((wto r.ign s : Nat) : Int)) = w6 at *
  have p5 : w6.cell? ⟨g9, 5, none⟩ = some (.int .u32 (r.ca : Int)) := (blk_cell HSw6.out.g9 5).trans rfl
  go_upto_region 7 with (go_at_call 55; (with_reducible refine (rwithout_any r.ca HI.out.2.1 s _).mono ?_); rintro e w7a ⟨rfl, hB⟩; have HSw7a := Aside0.mk (box_below HSw6.out hB); have q5 : w7a.cell? ⟨g9, 5, none⟩ = some (.int .u32 (r.ca : Int)) := (blk_cell HSw7a.out.g9 5).trans rfl; have f5 := blk_frozen HSw7a.out.g9 5; clear hB p5)
  have HSw7 := Aside0.mk (box_set HSw7a.out 5 (.int .u32 ((wto r.ca s : Nat) : Int)) { r with ign := wto r.ign s, ca := wto r.ca s } rfl)
  clear q5 f5
  generalize w7a.setCell ⟨g9, 5, none⟩ (.int .u32 ((wto r.ca s : Nat) : Int)) = w7 at *
  have p6 : w7.cell? ⟨g9, 6, none⟩ = some (.int .u32 (r.pen : Int)) := (blk_cell HSw7.out.g9 6).trans rfl
  go_upto_region 9 with (go_at_call 55; (with_reducible refine (rwithout_any r.pen HI.out.2.2 s _).mono ?_); rintro e w8a ⟨rfl, hB⟩; have HSw8a := Aside0.mk (box_below HSw7.out hB); have q6 : w8a.cell? ⟨g9, 6, none⟩ = some (.int .u32 (r.pen : Int)) := (blk_cell HSw8a.out.g9 6).trans rfl; have f6 := blk_frozen HSw8a.out.g9 6; clear hB p6)
  have HSw8 := Aside0.mk (box_set HSw8a.out 6 (.int .u32 ((wto r.pen s : Nat) : Int)) { r with ign := wto r.ign s, ca := wto r.ca s, pen := wto r.pen s } rfl)
  clear q6 f6
  generalize w8a.setCell ⟨g9, 6, none⟩ (.int .u32 ((wto r.pen s : Nat) : Int)) = w8 at *
  have b0 : w8.cell? ⟨w.heap.size, 0, none⟩ = some (.slice (some ad) n c) := (blk_cell HSw8.out.g3 0).trans rfl
  have b1 : w8.cell? ⟨w.heap.size, 1, none⟩ = some (.int .i64 last) := (blk_cell HSw8.out.g3 1).trans rfl
  have b2 : w8.cell? ⟨w.heap.size, 2, none⟩ = some (.slice E m d) := (blk_cell HSw8.out.g3 2).trans rfl
  have p0 : w8.cell? ⟨g9, 0, none⟩ = some (.int .i64 pid) := (blk_cell HSw8.out.g9 0).trans rfl
  have p1 : w8.cell? ⟨g9, 1, none⟩ = some (.int .i64 r.par) := (blk_cell HSw8.out.g9 1).trans rfl
  have p2 : w8.cell? ⟨g9, 2, none⟩ = some (.int .i64 r.status) := (blk_cell HSw8.out.g9 2).trans rfl
  have p3 : w8.cell? ⟨g9, 3, none⟩ = some (.bool r.live) := (blk_cell HSw8.out.g9 3).trans rfl
  have p4 : w8.cell? ⟨g9, 4, none⟩ = some (.int .u32 ((wto r.ign s : Nat) : Int)) := (blk_cell HSw8.out.g9 4).trans rfl
  have p5 : w8.cell? ⟨g9, 5, none⟩ = some (.int .u32 ((wto r.ca s : Nat) : Int)) := (blk_cell HSw8.out.g9 5).trans rfl
  have p6 : w8.cell? ⟨g9, 6, none⟩ = some (.int .u32 ((wto r.pen s : Nat) : Int)) := (blk_cell HSw8.out.g9 6).trans rfl
  have hg6w := blk_lt HSw8.out.g6
  go_wp2_with (first
    | (go_at_call 52; go_loud (refine (rset_any (HR0.out.below HSw8.out.bel) last i hi hfew pid { r with ign := wto r.ign s, ca := wto r.ca s, pen := wto r.pen s }).mono ?_); rintro e wa ⟨A8, n8, c8, rfl, hR, hB⟩; have HR8 := Aside0.mk hR; have HB8 := Aside0.mk (HSw8.out.bel.trans (hB.mono HSw8.out.bel.size)); have HG6e := Aside0.mk (blk_below HSw8.out.g6 hB); clear hR hB b0 b1 b2 p0 p1 p2 p3 p4 p5 p6)
    | ((with_reducible refine gate_st 42 8 76 rfl ?_)
       go_loud (refine tab_put rfl 8 76 rfl (w.heap.size + 1) _ A8 n8 c8 last E m d rfl rfl rfl HG6e.out ?_)
       intro wb hg hbx hoth
       have HX := Aside0.mk hg
       have HB9 := Aside0.mk (HB8.out.trans (hbx w.heap.size (by omega)))
       have HR9 := Aside0.mk (Kd.R_lower (base' := w.heap.size) (Kd.R_mono (ok' := ok0) (Kd.R_step (Kd.R_bound HR8.out) (fun k ho _ => hoth k (by have := ho.2.1; omega))) (fun _ _ => trivial)) HSw8.out.bel.size)
       clear hg hbx hoth))
  ((try simp only [Exit.inBlock, Exit.then]); refine bodyPost_ret (results_ct rfl _ _ _ 42 _ (0, 0) _ rfl HX.out Tryd.underlying42 rfl (by kernel_rfl)) rfl ?_)
  exact ⟨A8, n8, c8, rfl, by rw [if_pos rfl, show putR r s 0 = { r with ign := wto r.ign s, ca := wto r.ca s, pen := wto r.pen s } from rfl, set_eq HH.out hi HPI.out { r with ign := wto r.ign s, ca := wto r.ca s, pen := wto r.pen s }]; exact HR9.out, HB9.out⟩
set_option maxHeartbeats 8000000 in
set_option maxRecDepth 100000 in
theorem rput1_any (h : Rel f L) (hr : RT w A n c L E m d es) (last pid s : Int) (r : Pr) (hf : f pid = some r) (hlv : r.live = true) (hI : r.ign < 4294967296 ∧ r.ca < 4294967296 ∧ r.pen < 4294967296) (hs1 : isg s = true) (hfx : fx s = false) :
    Calls Tryd.prog 21 #[.agg #[.slice A n c, .int .i64 last, .slice E m d], .int .i64 pid, .int .i64 s, .int .i64 1] w fun e w' => TabB2 w w' e true A n c (stepL (setP pid (putR r s 1)) L) last E m d := by
  have hll : liv f pid = true := by unfold liv; rw [hf]; exact hlv
  obtain ⟨i, hi, e, hat⟩ := rat_some h hf
  have hfew := h.few
  have hB1 := below_alloc (below_alloc (Below.refl w.heap.size w) (.cells #[.slice A n c, .int .i64 last, .slice E m d] 42)) (.cells #[.slice none 0 0, .int .i64 0, .slice none 0 0] 42)
  have hG3 := blk_below (blk_new w (.cells #[.slice A n c, .int .i64 last, .slice E m d] 42)) (below_alloc (Below.refl _ _) (.cells #[.slice none 0 0, .int .i64 0, .slice none 0 0] 42))
  have hG6 := blk_new (w.alloc (.cells #[.slice A n c, .int .i64 last, .slice E m d] 42)) (.cells #[.slice none 0 0, .int .i64 0, .slice none 0 0] 42)
  rw [show (w.alloc (.cells #[.slice A n c, .int .i64 last, .slice E m d] 42)).heap.size = w.heap.size + 1 by simp] at hG6
  have HR := Aside0.mk (hr.below hB1)
  have HB := Aside0.mk hB1
  have HG3 := Aside0.mk hG3
  have HG6 := Aside0.mk hG6
  have HR0 := Aside0.mk hr
  have HH := Aside0.mk h
  clear hr hB1 hG3 hG6 h
  have HI := Aside0.mk hI
  have HLL := Aside0.mk hll
  have HS1 := Aside0.mk hs1
  have HFX := Aside0.mk hfx
  have HAT := Aside0.mk hat
  have HPI := Aside0.mk (show L[i].f0 = pid by rw [e]; rfl)
  obtain ⟨ad, rfl, k0, k1, k2, k3, k4, k5, k6⟩ := at_S HR.out.row i hi e
  have HK := Aside0.mk (And.intro k0 (And.intro k1 (And.intro k2 (And.intro k3 (And.intro k4 (And.intro k5 k6))))))
  have hin : i < n := by have := HR.out.row.1; omega
  have hi0 : (0 : Int) ≤ (i : Int) := by omega
  have hi1 : (i : Int) < (n : Int) := by omega
  clear hI hll hs1 hfx hat k0 k1 k2 k3 k4 k5 k6 e hf hlv
  go_enter Tryd.func21, Tryd.ntmps21
  go_upto_region 1 with (fail)
  generalize (w.alloc (.cells #[.slice (some ad) n c, .int .i64 last, .slice E m d] 42)).alloc (.cells #[.slice none 0 0, .int .i64 0, .slice none 0 0] 42) = w1 at *
  have b0 : w1.cell? ⟨w.heap.size, 0, none⟩ = some (.slice (some ad) n c) := (blk_cell HG3.out 0).trans rfl
  have b1 : w1.cell? ⟨w.heap.size, 1, none⟩ = some (.int .i64 last) := (blk_cell HG3.out 1).trans rfl
  have b2 : w1.cell? ⟨w.heap.size, 2, none⟩ = some (.slice E m d) := (blk_cell HG3.out 2).trans rfl
  go_upto_region 3 with (first
    | (go_at_call 25; (with_reducible refine (rlive_any HH.out HR.out last pid).mono ?_); rintro e w2 ⟨rfl, hB⟩; rw [HLL.out]; have HB2 := Aside0.mk hB; clear hB)
    | (go_at_call 51; (with_reducible refine (ris2_any s _).mono ?_); rintro e w3a ⟨rfl, hB⟩; rw [HS1.out]; have HB3a := Aside0.mk (HB2.out.trans (hB.mono HB2.out.size)); clear hB)
    | (go_at_call 40; (with_reducible refine (rfixed_any s _).mono ?_); rintro e w3 ⟨rfl, hB⟩; rw [HFX.out]; have HB3 := Aside0.mk (HB3a.out.trans (hB.mono HB3a.out.size)); clear hB b0 b1 b2))
  have HG3b := Aside0.mk (blk_below HG3.out HB3.out)
  have HG6b := Aside0.mk (blk_below HG6.out HB3.out)
  have HRb := Aside0.mk (HR.out.below HB3.out)
  have b0 : w3.cell? ⟨w.heap.size, 0, none⟩ = some (.slice (some ad) n c) := (blk_cell HG3b.out 0).trans rfl
  have b1 : w3.cell? ⟨w.heap.size, 1, none⟩ = some (.int .i64 last) := (blk_cell HG3b.out 1).trans rfl
  have b2 : w3.cell? ⟨w.heap.size, 2, none⟩ = some (.slice E m d) := (blk_cell HG3b.out 2).trans rfl
  go_upto_region 4 with (go_at_call 47; (with_reducible refine (HAT.out _ (some ad) E n c m d es last HRb.out).mono ?_); rintro e w4 ⟨rfl, hB⟩; have HB4 := Aside0.mk (HB3.out.trans (hB.mono HB3.out.size)); clear hB b0 b1 b2)
  have b0 : w4.cell? ⟨w.heap.size, 0, none⟩ = some (.slice (some ad) n c) := (blk_cell (blk_below HG3.out HB4.out) 0).trans rfl
  obtain ⟨k0, k1, k2, k3, k4, k5, k6⟩ := HK.out
  replace k0 := pw_cell_below HB4.out k0
  replace k1 := pw_cell_below HB4.out k1
  replace k2 := pw_cell_below HB4.out k2
  replace k3 := pw_cell_below HB4.out k3
  replace k4 := pw_cell_below HB4.out k4
  replace k5 := pw_cell_below HB4.out k5
  replace k6 := pw_cell_below HB4.out k6
  have hal := below_alloc (Below.refl w4.heap.size w4) (.cells (prc pid r) 77)
  have HSw5 := Aside0.mk (show BoxSt w (w4.alloc (.cells (prc pid r) 77)) (some ad) n c last E m d w4.heap.size pid r from ⟨blk_below (blk_below HG3.out HB4.out) hal, blk_below (blk_below HG6.out HB4.out) hal, blk_new w4 _, (HB.out.trans (HB4.out.mono HB.out.size)).trans (hal.mono (HB.out.trans (HB4.out.mono HB.out.size)).size), by have := blk_lt (blk_below HG6.out HB4.out); omega⟩)
  clear hal
  go_upto_region 5 with (fail)
  clear b0 k0 k1 k2 k3 k4 k5 k6
  generalize w4.alloc (.cells (prc pid r) 77) = w5 at *
  generalize w4.heap.size = g9 at *
  have p4 : w5.cell? ⟨g9, 4, none⟩ = some (.int .u32 (r.ign : Int)) := (blk_cell HSw5.out.g9 4).trans rfl
  go_upto_region 6 with (go_at_call 55; (with_reducible refine (rwithout_any r.ign HI.out.1 s _).mono ?_); rintro e w6a ⟨rfl, hB⟩; have HSw6a := Aside0.mk (box_below HSw5.out hB); have q4 : w6a.cell? ⟨g9, 4, none⟩ = some (.int .u32 (r.ign : Int)) := (blk_cell HSw6a.out.g9 4).trans rfl; have f4 := blk_frozen HSw6a.out.g9 4; clear hB p4)
  have HSw6 := Aside0.mk (box_set HSw6a.out 4 (.int .u32 ((wto r.ign s : Nat) : Int)) { r with ign := wto r.ign s } rfl)
  clear q4 f4
  generalize w6a.setCell ⟨g9, 4, none⟩ (.int .u32 ((wto r.ign s : Nat) : Int)) = w6 at *
  have p5 : w6.cell? ⟨g9, 5, none⟩ = some (.int .u32 (r.ca : Int)) := (blk_cell HSw6.out.g9 5).trans rfl
  go_upto_region 7 with (go_at_call 55; (with_reducible refine (rwithout_any r.ca HI.out.2.1 s _).mono ?_); rintro e w7a ⟨rfl, hB⟩; have HSw7a := Aside0.mk (box_below HSw6.out hB); have q5 : w7a.cell? ⟨g9, 5, none⟩ = some (.int .u32 (r.ca : Int)) := (blk_cell HSw7a.out.g9 5).trans rfl; have f5 := blk_frozen HSw7a.out.g9 5; clear hB p5)
  have HSw7 := Aside0.mk (box_set HSw7a.out 5 (.int .u32 ((wto r.ca s : Nat) : Int)) { r with ign := wto r.ign s, ca := wto r.ca s } rfl)
  clear q5 f5
  generalize w7a.setCell ⟨g9, 5, none⟩ (.int .u32 ((wto r.ca s : Nat) : Int)) = w7 at *
  have p6 : w7.cell? ⟨g9, 6, none⟩ = some (.int .u32 (r.pen : Int)) := (blk_cell HSw7.out.g9 6).trans rfl
  go_upto_region 9 with (go_at_call 55; (with_reducible refine (rwithout_any r.pen HI.out.2.2 s _).mono ?_); rintro e w8a ⟨rfl, hB⟩; have HSw8a := Aside0.mk (box_below HSw7.out hB); have q6 : w8a.cell? ⟨g9, 6, none⟩ = some (.int .u32 (r.pen : Int)) := (blk_cell HSw8a.out.g9 6).trans rfl; have f6 := blk_frozen HSw8a.out.g9 6; clear hB p6)
  have HSw8 := Aside0.mk (box_set HSw8a.out 6 (.int .u32 ((wto r.pen s : Nat) : Int)) { r with ign := wto r.ign s, ca := wto r.ca s, pen := wto r.pen s } rfl)
  clear q6 f6
  generalize w8a.setCell ⟨g9, 6, none⟩ (.int .u32 ((wto r.pen s : Nat) : Int)) = w8 at *
  have p4 : w8.cell? ⟨g9, 4, none⟩ = some (.int .u32 (wto r.ign s : Int)) := (blk_cell HSw8.out.g9 4).trans rfl
  go_upto_region 11 with (go_at_call 41; (with_reducible refine (rwith_any (wto r.ign s) (wto_lt s HI.out.1) s _).mono ?_); rintro e w9a ⟨rfl, hB⟩; have HSw9a := Aside0.mk (box_below HSw8.out hB); have q4 : w9a.cell? ⟨g9, 4, none⟩ = some (.int .u32 (wto r.ign s : Int)) := (blk_cell HSw9a.out.g9 4).trans rfl; have f4 := blk_frozen HSw9a.out.g9 4; clear hB p4)
  have HSw9 := Aside0.mk (box_set HSw9a.out 4 (.int .u32 ((wth (wto r.ign s) s : Nat) : Int)) { r with ign := wth (wto r.ign s) s, ca := wto r.ca s, pen := wto r.pen s } rfl)
  clear q4 f4
  generalize w9a.setCell ⟨g9, 4, none⟩ (.int .u32 ((wth (wto r.ign s) s : Nat) : Int)) = w9 at *
  have b0 : w9.cell? ⟨w.heap.size, 0, none⟩ = some (.slice (some ad) n c) := (blk_cell HSw9.out.g3 0).trans rfl
  have b1 : w9.cell? ⟨w.heap.size, 1, none⟩ = some (.int .i64 last) := (blk_cell HSw9.out.g3 1).trans rfl
  have b2 : w9.cell? ⟨w.heap.size, 2, none⟩ = some (.slice E m d) := (blk_cell HSw9.out.g3 2).trans rfl
  have p0 : w9.cell? ⟨g9, 0, none⟩ = some (.int .i64 pid) := (blk_cell HSw9.out.g9 0).trans rfl
  have p1 : w9.cell? ⟨g9, 1, none⟩ = some (.int .i64 r.par) := (blk_cell HSw9.out.g9 1).trans rfl
  have p2 : w9.cell? ⟨g9, 2, none⟩ = some (.int .i64 r.status) := (blk_cell HSw9.out.g9 2).trans rfl
  have p3 : w9.cell? ⟨g9, 3, none⟩ = some (.bool r.live) := (blk_cell HSw9.out.g9 3).trans rfl
  have p4 : w9.cell? ⟨g9, 4, none⟩ = some (.int .u32 ((wth (wto r.ign s) s : Nat) : Int)) := (blk_cell HSw9.out.g9 4).trans rfl
  have p5 : w9.cell? ⟨g9, 5, none⟩ = some (.int .u32 ((wto r.ca s : Nat) : Int)) := (blk_cell HSw9.out.g9 5).trans rfl
  have p6 : w9.cell? ⟨g9, 6, none⟩ = some (.int .u32 ((wto r.pen s : Nat) : Int)) := (blk_cell HSw9.out.g9 6).trans rfl
  have hg6w := blk_lt HSw9.out.g6
  go_wp2_with (first
    | (go_at_call 52; go_loud (refine (rset_any (HR0.out.below HSw9.out.bel) last i hi hfew pid { r with ign := wth (wto r.ign s) s, ca := wto r.ca s, pen := wto r.pen s }).mono ?_); rintro e wa ⟨A8, n8, c8, rfl, hR, hB⟩; have HR8 := Aside0.mk hR; have HB8 := Aside0.mk (HSw9.out.bel.trans (hB.mono HSw9.out.bel.size)); have HG6e := Aside0.mk (blk_below HSw9.out.g6 hB); clear hR hB b0 b1 b2 p0 p1 p2 p3 p4 p5 p6)
    | ((with_reducible refine gate_st 42 8 76 rfl ?_)
       go_loud (refine tab_put rfl 8 76 rfl (w.heap.size + 1) _ A8 n8 c8 last E m d rfl rfl rfl HG6e.out ?_)
       intro wb hg hbx hoth
       have HX := Aside0.mk hg
       have HB9 := Aside0.mk (HB8.out.trans (hbx w.heap.size (by omega)))
       have HR9 := Aside0.mk (Kd.R_lower (base' := w.heap.size) (Kd.R_mono (ok' := ok0) (Kd.R_step (Kd.R_bound HR8.out) (fun k ho _ => hoth k (by have := ho.2.1; omega))) (fun _ _ => trivial)) HSw9.out.bel.size)
       clear hg hbx hoth))
  ((try simp only [Exit.inBlock, Exit.then]); refine bodyPost_ret (results_ct rfl _ _ _ 42 _ (0, 0) _ rfl HX.out Tryd.underlying42 rfl (by kernel_rfl)) rfl ?_)
  exact ⟨A8, n8, c8, rfl, by rw [if_pos rfl, show putR r s 1 = { r with ign := wth (wto r.ign s) s, ca := wto r.ca s, pen := wto r.pen s } from rfl, set_eq HH.out hi HPI.out { r with ign := wth (wto r.ign s) s, ca := wto r.ca s, pen := wto r.pen s }]; exact HR9.out, HB9.out⟩
set_option maxHeartbeats 8000000 in
set_option maxRecDepth 100000 in
theorem rput2_any (h : Rel f L) (hr : RT w A n c L E m d es) (last pid s : Int) (r : Pr) (hf : f pid = some r) (hlv : r.live = true) (hI : r.ign < 4294967296 ∧ r.ca < 4294967296 ∧ r.pen < 4294967296) (hs1 : isg s = true) (hfx : fx s = false) :
    Calls Tryd.prog 21 #[.agg #[.slice A n c, .int .i64 last, .slice E m d], .int .i64 pid, .int .i64 s, .int .i64 2] w fun e w' => TabB2 w w' e true A n c (stepL (setP pid (putR r s 2)) L) last E m d := by
  have hll : liv f pid = true := by unfold liv; rw [hf]; exact hlv
  obtain ⟨i, hi, e, hat⟩ := rat_some h hf
  have hfew := h.few
  have hB1 := below_alloc (below_alloc (Below.refl w.heap.size w) (.cells #[.slice A n c, .int .i64 last, .slice E m d] 42)) (.cells #[.slice none 0 0, .int .i64 0, .slice none 0 0] 42)
  have hG3 := blk_below (blk_new w (.cells #[.slice A n c, .int .i64 last, .slice E m d] 42)) (below_alloc (Below.refl _ _) (.cells #[.slice none 0 0, .int .i64 0, .slice none 0 0] 42))
  have hG6 := blk_new (w.alloc (.cells #[.slice A n c, .int .i64 last, .slice E m d] 42)) (.cells #[.slice none 0 0, .int .i64 0, .slice none 0 0] 42)
  rw [show (w.alloc (.cells #[.slice A n c, .int .i64 last, .slice E m d] 42)).heap.size = w.heap.size + 1 by simp] at hG6
  have HR := Aside0.mk (hr.below hB1)
  have HB := Aside0.mk hB1
  have HG3 := Aside0.mk hG3
  have HG6 := Aside0.mk hG6
  have HR0 := Aside0.mk hr
  have HH := Aside0.mk h
  clear hr hB1 hG3 hG6 h
  have HI := Aside0.mk hI
  have HLL := Aside0.mk hll
  have HS1 := Aside0.mk hs1
  have HFX := Aside0.mk hfx
  have HAT := Aside0.mk hat
  have HPI := Aside0.mk (show L[i].f0 = pid by rw [e]; rfl)
  obtain ⟨ad, rfl, k0, k1, k2, k3, k4, k5, k6⟩ := at_S HR.out.row i hi e
  have HK := Aside0.mk (And.intro k0 (And.intro k1 (And.intro k2 (And.intro k3 (And.intro k4 (And.intro k5 k6))))))
  have hin : i < n := by have := HR.out.row.1; omega
  have hi0 : (0 : Int) ≤ (i : Int) := by omega
  have hi1 : (i : Int) < (n : Int) := by omega
  clear hI hll hs1 hfx hat k0 k1 k2 k3 k4 k5 k6 e hf hlv
  go_enter Tryd.func21, Tryd.ntmps21
  go_upto_region 1 with (fail)
  generalize (w.alloc (.cells #[.slice (some ad) n c, .int .i64 last, .slice E m d] 42)).alloc (.cells #[.slice none 0 0, .int .i64 0, .slice none 0 0] 42) = w1 at *
  have b0 : w1.cell? ⟨w.heap.size, 0, none⟩ = some (.slice (some ad) n c) := (blk_cell HG3.out 0).trans rfl
  have b1 : w1.cell? ⟨w.heap.size, 1, none⟩ = some (.int .i64 last) := (blk_cell HG3.out 1).trans rfl
  have b2 : w1.cell? ⟨w.heap.size, 2, none⟩ = some (.slice E m d) := (blk_cell HG3.out 2).trans rfl
  go_upto_region 3 with (first
    | (go_at_call 25; (with_reducible refine (rlive_any HH.out HR.out last pid).mono ?_); rintro e w2 ⟨rfl, hB⟩; rw [HLL.out]; have HB2 := Aside0.mk hB; clear hB)
    | (go_at_call 51; (with_reducible refine (ris2_any s _).mono ?_); rintro e w3a ⟨rfl, hB⟩; rw [HS1.out]; have HB3a := Aside0.mk (HB2.out.trans (hB.mono HB2.out.size)); clear hB)
    | (go_at_call 40; (with_reducible refine (rfixed_any s _).mono ?_); rintro e w3 ⟨rfl, hB⟩; rw [HFX.out]; have HB3 := Aside0.mk (HB3a.out.trans (hB.mono HB3a.out.size)); clear hB b0 b1 b2))
  have HG3b := Aside0.mk (blk_below HG3.out HB3.out)
  have HG6b := Aside0.mk (blk_below HG6.out HB3.out)
  have HRb := Aside0.mk (HR.out.below HB3.out)
  have b0 : w3.cell? ⟨w.heap.size, 0, none⟩ = some (.slice (some ad) n c) := (blk_cell HG3b.out 0).trans rfl
  have b1 : w3.cell? ⟨w.heap.size, 1, none⟩ = some (.int .i64 last) := (blk_cell HG3b.out 1).trans rfl
  have b2 : w3.cell? ⟨w.heap.size, 2, none⟩ = some (.slice E m d) := (blk_cell HG3b.out 2).trans rfl
  go_upto_region 4 with (go_at_call 47; (with_reducible refine (HAT.out _ (some ad) E n c m d es last HRb.out).mono ?_); rintro e w4 ⟨rfl, hB⟩; have HB4 := Aside0.mk (HB3.out.trans (hB.mono HB3.out.size)); clear hB b0 b1 b2)
  have b0 : w4.cell? ⟨w.heap.size, 0, none⟩ = some (.slice (some ad) n c) := (blk_cell (blk_below HG3.out HB4.out) 0).trans rfl
  obtain ⟨k0, k1, k2, k3, k4, k5, k6⟩ := HK.out
  replace k0 := pw_cell_below HB4.out k0
  replace k1 := pw_cell_below HB4.out k1
  replace k2 := pw_cell_below HB4.out k2
  replace k3 := pw_cell_below HB4.out k3
  replace k4 := pw_cell_below HB4.out k4
  replace k5 := pw_cell_below HB4.out k5
  replace k6 := pw_cell_below HB4.out k6
  have hal := below_alloc (Below.refl w4.heap.size w4) (.cells (prc pid r) 77)
  have HSw5 := Aside0.mk (show BoxSt w (w4.alloc (.cells (prc pid r) 77)) (some ad) n c last E m d w4.heap.size pid r from ⟨blk_below (blk_below HG3.out HB4.out) hal, blk_below (blk_below HG6.out HB4.out) hal, blk_new w4 _, (HB.out.trans (HB4.out.mono HB.out.size)).trans (hal.mono (HB.out.trans (HB4.out.mono HB.out.size)).size), by have := blk_lt (blk_below HG6.out HB4.out); omega⟩)
  clear hal
  go_upto_region 5 with (fail)
  clear b0 k0 k1 k2 k3 k4 k5 k6
  generalize w4.alloc (.cells (prc pid r) 77) = w5 at *
  generalize w4.heap.size = g9 at *
  have p4 : w5.cell? ⟨g9, 4, none⟩ = some (.int .u32 (r.ign : Int)) := (blk_cell HSw5.out.g9 4).trans rfl
  go_upto_region 6 with (go_at_call 55; (with_reducible refine (rwithout_any r.ign HI.out.1 s _).mono ?_); rintro e w6a ⟨rfl, hB⟩; have HSw6a := Aside0.mk (box_below HSw5.out hB); have q4 : w6a.cell? ⟨g9, 4, none⟩ = some (.int .u32 (r.ign : Int)) := (blk_cell HSw6a.out.g9 4).trans rfl; have f4 := blk_frozen HSw6a.out.g9 4; clear hB p4)
  have HSw6 := Aside0.mk (box_set HSw6a.out 4 (.int .u32 ((wto r.ign s : Nat) : Int)) { r with ign := wto r.ign s } rfl)
  clear q4 f4
  generalize w6a.setCell ⟨g9, 4, none⟩ (.int .u32 ((wto r.ign s : Nat) : Int)) = w6 at *
  have p5 : w6.cell? ⟨g9, 5, none⟩ = some (.int .u32 (r.ca : Int)) := (blk_cell HSw6.out.g9 5).trans rfl
  go_upto_region 7 with (go_at_call 55; (with_reducible refine (rwithout_any r.ca HI.out.2.1 s _).mono ?_); rintro e w7a ⟨rfl, hB⟩; have HSw7a := Aside0.mk (box_below HSw6.out hB); have q5 : w7a.cell? ⟨g9, 5, none⟩ = some (.int .u32 (r.ca : Int)) := (blk_cell HSw7a.out.g9 5).trans rfl; have f5 := blk_frozen HSw7a.out.g9 5; clear hB p5)
  have HSw7 := Aside0.mk (box_set HSw7a.out 5 (.int .u32 ((wto r.ca s : Nat) : Int)) { r with ign := wto r.ign s, ca := wto r.ca s } rfl)
  clear q5 f5
  generalize w7a.setCell ⟨g9, 5, none⟩ (.int .u32 ((wto r.ca s : Nat) : Int)) = w7 at *
  have p5 : w7.cell? ⟨g9, 5, none⟩ = some (.int .u32 (wto r.ca s : Int)) := (blk_cell HSw7.out.g9 5).trans rfl
  go_upto_region 13 with (go_at_call 41; (with_reducible refine (rwith_any (wto r.ca s) (wto_lt s HI.out.2.1) s _).mono ?_); rintro e w9a ⟨rfl, hB⟩; have HSw9a := Aside0.mk (box_below HSw7.out hB); have q5 : w9a.cell? ⟨g9, 5, none⟩ = some (.int .u32 (wto r.ca s : Int)) := (blk_cell HSw9a.out.g9 5).trans rfl; have f5 := blk_frozen HSw9a.out.g9 5; clear hB p5)
  have HSw9 := Aside0.mk (box_set HSw9a.out 5 (.int .u32 ((wth (wto r.ca s) s : Nat) : Int)) { r with ign := wto r.ign s, ca := wth (wto r.ca s) s } rfl)
  clear q5 f5
  generalize w9a.setCell ⟨g9, 5, none⟩ (.int .u32 ((wth (wto r.ca s) s : Nat) : Int)) = w9 at *
  have b0 : w9.cell? ⟨w.heap.size, 0, none⟩ = some (.slice (some ad) n c) := (blk_cell HSw9.out.g3 0).trans rfl
  have b1 : w9.cell? ⟨w.heap.size, 1, none⟩ = some (.int .i64 last) := (blk_cell HSw9.out.g3 1).trans rfl
  have b2 : w9.cell? ⟨w.heap.size, 2, none⟩ = some (.slice E m d) := (blk_cell HSw9.out.g3 2).trans rfl
  have p0 : w9.cell? ⟨g9, 0, none⟩ = some (.int .i64 pid) := (blk_cell HSw9.out.g9 0).trans rfl
  have p1 : w9.cell? ⟨g9, 1, none⟩ = some (.int .i64 r.par) := (blk_cell HSw9.out.g9 1).trans rfl
  have p2 : w9.cell? ⟨g9, 2, none⟩ = some (.int .i64 r.status) := (blk_cell HSw9.out.g9 2).trans rfl
  have p3 : w9.cell? ⟨g9, 3, none⟩ = some (.bool r.live) := (blk_cell HSw9.out.g9 3).trans rfl
  have p4 : w9.cell? ⟨g9, 4, none⟩ = some (.int .u32 ((wto r.ign s : Nat) : Int)) := (blk_cell HSw9.out.g9 4).trans rfl
  have p5 : w9.cell? ⟨g9, 5, none⟩ = some (.int .u32 ((wth (wto r.ca s) s : Nat) : Int)) := (blk_cell HSw9.out.g9 5).trans rfl
  have p6 : w9.cell? ⟨g9, 6, none⟩ = some (.int .u32 ((r.pen : Nat) : Int)) := (blk_cell HSw9.out.g9 6).trans rfl
  have hg6w := blk_lt HSw9.out.g6
  go_wp2_with (first
    | (go_at_call 52; go_loud (refine (rset_any (HR0.out.below HSw9.out.bel) last i hi hfew pid { r with ign := wto r.ign s, ca := wth (wto r.ca s) s }).mono ?_); rintro e wa ⟨A8, n8, c8, rfl, hR, hB⟩; have HR8 := Aside0.mk hR; have HB8 := Aside0.mk (HSw9.out.bel.trans (hB.mono HSw9.out.bel.size)); have HG6e := Aside0.mk (blk_below HSw9.out.g6 hB); clear hR hB b0 b1 b2 p0 p1 p2 p3 p4 p5 p6)
    | ((with_reducible refine gate_st 42 8 76 rfl ?_)
       go_loud (refine tab_put rfl 8 76 rfl (w.heap.size + 1) _ A8 n8 c8 last E m d rfl rfl rfl HG6e.out ?_)
       intro wb hg hbx hoth
       have HX := Aside0.mk hg
       have HB9 := Aside0.mk (HB8.out.trans (hbx w.heap.size (by omega)))
       have HR9 := Aside0.mk (Kd.R_lower (base' := w.heap.size) (Kd.R_mono (ok' := ok0) (Kd.R_step (Kd.R_bound HR8.out) (fun k ho _ => hoth k (by have := ho.2.1; omega))) (fun _ _ => trivial)) HSw9.out.bel.size)
       clear hg hbx hoth))
  ((try simp only [Exit.inBlock, Exit.then]); refine bodyPost_ret (results_ct rfl _ _ _ 42 _ (0, 0) _ rfl HX.out Tryd.underlying42 rfl (by kernel_rfl)) rfl ?_)
  exact ⟨A8, n8, c8, rfl, by rw [if_pos rfl, show putR r s 2 = { r with ign := wto r.ign s, ca := wth (wto r.ca s) s } from rfl, set_eq HH.out hi HPI.out { r with ign := wto r.ign s, ca := wth (wto r.ca s) s }]; exact HR9.out, HB9.out⟩
end
end Go.Proofs.YtbgodajbdbgdfaaDoor.Kern
/- kern: the document's Put, where nothing is put: its contract. -/
namespace Go.Proofs.YtbgodajbdbgdfaaDoor.Kern
open Go.RowKit Go.Proofs.YtbgodajbdbgdfaaDoorW.PrintWords Go.Proofs.YtbgodajbdbgdfaaDoorW.PrintLast Go.Proofs.YtbgodajbdbgdfaaDoor.Sig Go.Proofs.YtbgodajbdbgdfaaDoor.Base Go.Proofs.YtbgodajbdbgdfaaDoor.Seq Go.Proofs.YtbgodajbdbgdfaaDoor.V Go.Maps
set_option linter.unusedVariables false
set_option linter.unusedSimpArgs false
section
variable {w : World} {A E : Option Addr} {n c m d : Nat} {f : Tb} {L : List S} {es : List SE}
set_option maxHeartbeats 8000000 in
set_option maxRecDepth 100000 in
theorem rput_nolive (h : Rel f L) (hr : RT w A n c L E m d es) (last pid s k : Int) (hll : liv f pid = false) :
    Calls Tryd.prog 21 #[.agg #[.slice A n c, .int .i64 last, .slice E m d], .int .i64 pid, .int .i64 s, .int .i64 k] w fun e w' => TabB2 w w' e false A n c L last E m d := by
  have hB1 := below_alloc (below_alloc (Below.refl w.heap.size w) (.cells #[.slice A n c, .int .i64 last, .slice E m d] 42)) (.cells #[.slice none 0 0, .int .i64 0, .slice none 0 0] 42)
  have hG3 := blk_below (blk_new w (.cells #[.slice A n c, .int .i64 last, .slice E m d] 42)) (below_alloc (Below.refl _ _) (.cells #[.slice none 0 0, .int .i64 0, .slice none 0 0] 42))
  have hG6 := blk_new (w.alloc (.cells #[.slice A n c, .int .i64 last, .slice E m d] 42)) (.cells #[.slice none 0 0, .int .i64 0, .slice none 0 0] 42)
  rw [show (w.alloc (.cells #[.slice A n c, .int .i64 last, .slice E m d] 42)).heap.size = w.heap.size + 1 by simp] at hG6
  have HR := Aside0.mk (hr.below hB1)
  have HB := Aside0.mk hB1
  have HG3 := Aside0.mk hG3
  have HG6 := Aside0.mk hG6
  have HR0 := Aside0.mk hr
  have HH := Aside0.mk h
  clear hr hB1 hG3 hG6 h
  have HLL := Aside0.mk hll
  clear hll
  go_enter Tryd.func21, Tryd.ntmps21
  go_upto_region 1 with (fail)
  generalize (w.alloc (.cells #[.slice A n c, .int .i64 last, .slice E m d] 42)).alloc (.cells #[.slice none 0 0, .int .i64 0, .slice none 0 0] 42) = w1 at *
  have b0 : w1.cell? ⟨w.heap.size, 0, none⟩ = some (.slice A n c) := (blk_cell HG3.out 0).trans rfl
  have b1 : w1.cell? ⟨w.heap.size, 1, none⟩ = some (.int .i64 last) := (blk_cell HG3.out 1).trans rfl
  have b2 : w1.cell? ⟨w.heap.size, 2, none⟩ = some (.slice E m d) := (blk_cell HG3.out 2).trans rfl
  go_upto_region 2 with (first | (go_at_call 25; (with_reducible refine (rlive_any HH.out HR.out last pid).mono ?_); rintro e w2 ⟨rfl, hB⟩; rw [HLL.out]; have HB2 := Aside0.mk hB; have HBz := Aside0.mk hB; clear hB))
  clear b0 b1 b2
  have HG3b := Aside0.mk (blk_below HG3.out HBz.out)
  have HG6b := Aside0.mk (blk_below HG6.out HBz.out)
  have HBW := Aside0.mk (HB.out.trans (HBz.out.mono HB.out.size))
  have b0 : w2.cell? ⟨w.heap.size, 0, none⟩ = some (.slice A n c) := (blk_cell HG3b.out 0).trans rfl
  have b1 : w2.cell? ⟨w.heap.size, 1, none⟩ = some (.int .i64 last) := (blk_cell HG3b.out 1).trans rfl
  have b2 : w2.cell? ⟨w.heap.size, 2, none⟩ = some (.slice E m d) := (blk_cell HG3b.out 2).trans rfl
  go_wp2_with ((with_reducible refine gate_st 42 8 33 rfl ?_)
               go_loud (refine tab_put rfl 8 33 rfl (w.heap.size + 1) _ A n c last E m d rfl rfl rfl HG6b.out ?_)
               intro w5 hg hbx hoth
               have HX := Aside0.mk hg
               have HB5 := Aside0.mk (HBW.out.trans (hbx w.heap.size (by omega)))
               clear hg hbx hoth b0 b1 b2)
  ((try simp only [Exit.inBlock, Exit.then]); refine bodyPost_ret (results_ct rfl _ _ _ 42 _ (0, 0) _ rfl HX.out Tryd.underlying42 rfl (by kernel_rfl)) rfl ?_)
  exact ⟨_, _, _, rfl, ⟨rfl, rfl, rfl⟩, HB5.out⟩
set_option maxHeartbeats 8000000 in
set_option maxRecDepth 100000 in
theorem rput_nosig (h : Rel f L) (hr : RT w A n c L E m d es) (last pid s k : Int) (hll : liv f pid = true) (hs1 : isg s = false) :
    Calls Tryd.prog 21 #[.agg #[.slice A n c, .int .i64 last, .slice E m d], .int .i64 pid, .int .i64 s, .int .i64 k] w fun e w' => TabB2 w w' e false A n c L last E m d := by
  have hB1 := below_alloc (below_alloc (Below.refl w.heap.size w) (.cells #[.slice A n c, .int .i64 last, .slice E m d] 42)) (.cells #[.slice none 0 0, .int .i64 0, .slice none 0 0] 42)
  have hG3 := blk_below (blk_new w (.cells #[.slice A n c, .int .i64 last, .slice E m d] 42)) (below_alloc (Below.refl _ _) (.cells #[.slice none 0 0, .int .i64 0, .slice none 0 0] 42))
  have hG6 := blk_new (w.alloc (.cells #[.slice A n c, .int .i64 last, .slice E m d] 42)) (.cells #[.slice none 0 0, .int .i64 0, .slice none 0 0] 42)
  rw [show (w.alloc (.cells #[.slice A n c, .int .i64 last, .slice E m d] 42)).heap.size = w.heap.size + 1 by simp] at hG6
  have HR := Aside0.mk (hr.below hB1)
  have HB := Aside0.mk hB1
  have HG3 := Aside0.mk hG3
  have HG6 := Aside0.mk hG6
  have HR0 := Aside0.mk hr
  have HH := Aside0.mk h
  clear hr hB1 hG3 hG6 h
  have HLL := Aside0.mk hll
  clear hll
  have HS1 := Aside0.mk hs1
  clear hs1
  go_enter Tryd.func21, Tryd.ntmps21
  go_upto_region 1 with (fail)
  generalize (w.alloc (.cells #[.slice A n c, .int .i64 last, .slice E m d] 42)).alloc (.cells #[.slice none 0 0, .int .i64 0, .slice none 0 0] 42) = w1 at *
  have b0 : w1.cell? ⟨w.heap.size, 0, none⟩ = some (.slice A n c) := (blk_cell HG3.out 0).trans rfl
  have b1 : w1.cell? ⟨w.heap.size, 1, none⟩ = some (.int .i64 last) := (blk_cell HG3.out 1).trans rfl
  have b2 : w1.cell? ⟨w.heap.size, 2, none⟩ = some (.slice E m d) := (blk_cell HG3.out 2).trans rfl
  go_upto_region 2 with (first | (go_at_call 25; (with_reducible refine (rlive_any HH.out HR.out last pid).mono ?_); rintro e w2 ⟨rfl, hB⟩; rw [HLL.out]; have HB2 := Aside0.mk hB; have HBz := Aside0.mk hB; clear hB) | (go_at_call 51; (with_reducible refine (ris2_any s _).mono ?_); rintro e w3 ⟨rfl, hB⟩; rw [HS1.out]; have HB3 := Aside0.mk (HB2.out.trans (hB.mono HB2.out.size)); clear HBz; have HBz := HB3; clear hB))
  clear b0 b1 b2
  have HG3b := Aside0.mk (blk_below HG3.out HBz.out)
  have HG6b := Aside0.mk (blk_below HG6.out HBz.out)
  have HBW := Aside0.mk (HB.out.trans (HBz.out.mono HB.out.size))
  have b0 : w3.cell? ⟨w.heap.size, 0, none⟩ = some (.slice A n c) := (blk_cell HG3b.out 0).trans rfl
  have b1 : w3.cell? ⟨w.heap.size, 1, none⟩ = some (.int .i64 last) := (blk_cell HG3b.out 1).trans rfl
  have b2 : w3.cell? ⟨w.heap.size, 2, none⟩ = some (.slice E m d) := (blk_cell HG3b.out 2).trans rfl
  go_wp2_with ((with_reducible refine gate_st 42 8 33 rfl ?_)
               go_loud (refine tab_put rfl 8 33 rfl (w.heap.size + 1) _ A n c last E m d rfl rfl rfl HG6b.out ?_)
               intro w5 hg hbx hoth
               have HX := Aside0.mk hg
               have HB5 := Aside0.mk (HBW.out.trans (hbx w.heap.size (by omega)))
               clear hg hbx hoth b0 b1 b2)
  ((try simp only [Exit.inBlock, Exit.then]); refine bodyPost_ret (results_ct rfl _ _ _ 42 _ (0, 0) _ rfl HX.out Tryd.underlying42 rfl (by kernel_rfl)) rfl ?_)
  exact ⟨_, _, _, rfl, ⟨rfl, rfl, rfl⟩, HB5.out⟩
set_option maxHeartbeats 8000000 in
set_option maxRecDepth 100000 in
theorem rput_fixed (h : Rel f L) (hr : RT w A n c L E m d es) (last pid s k : Int) (hll : liv f pid = true) (hs1 : isg s = true) (hfx : fx s = true) :
    Calls Tryd.prog 21 #[.agg #[.slice A n c, .int .i64 last, .slice E m d], .int .i64 pid, .int .i64 s, .int .i64 k] w fun e w' => TabB2 w w' e false A n c L last E m d := by
  have hB1 := below_alloc (below_alloc (Below.refl w.heap.size w) (.cells #[.slice A n c, .int .i64 last, .slice E m d] 42)) (.cells #[.slice none 0 0, .int .i64 0, .slice none 0 0] 42)
  have hG3 := blk_below (blk_new w (.cells #[.slice A n c, .int .i64 last, .slice E m d] 42)) (below_alloc (Below.refl _ _) (.cells #[.slice none 0 0, .int .i64 0, .slice none 0 0] 42))
  have hG6 := blk_new (w.alloc (.cells #[.slice A n c, .int .i64 last, .slice E m d] 42)) (.cells #[.slice none 0 0, .int .i64 0, .slice none 0 0] 42)
  rw [show (w.alloc (.cells #[.slice A n c, .int .i64 last, .slice E m d] 42)).heap.size = w.heap.size + 1 by simp] at hG6
  have HR := Aside0.mk (hr.below hB1)
  have HB := Aside0.mk hB1
  have HG3 := Aside0.mk hG3
  have HG6 := Aside0.mk hG6
  have HR0 := Aside0.mk hr
  have HH := Aside0.mk h
  clear hr hB1 hG3 hG6 h
  have HLL := Aside0.mk hll
  clear hll
  have HS1 := Aside0.mk hs1
  clear hs1
  have HFX := Aside0.mk hfx
  clear hfx
  go_enter Tryd.func21, Tryd.ntmps21
  go_upto_region 1 with (fail)
  generalize (w.alloc (.cells #[.slice A n c, .int .i64 last, .slice E m d] 42)).alloc (.cells #[.slice none 0 0, .int .i64 0, .slice none 0 0] 42) = w1 at *
  have b0 : w1.cell? ⟨w.heap.size, 0, none⟩ = some (.slice A n c) := (blk_cell HG3.out 0).trans rfl
  have b1 : w1.cell? ⟨w.heap.size, 1, none⟩ = some (.int .i64 last) := (blk_cell HG3.out 1).trans rfl
  have b2 : w1.cell? ⟨w.heap.size, 2, none⟩ = some (.slice E m d) := (blk_cell HG3.out 2).trans rfl
  go_upto_region 2 with (first | (go_at_call 25; (with_reducible refine (rlive_any HH.out HR.out last pid).mono ?_); rintro e w2 ⟨rfl, hB⟩; rw [HLL.out]; have HB2 := Aside0.mk hB; have HBz := Aside0.mk hB; clear hB) | (go_at_call 51; (with_reducible refine (ris2_any s _).mono ?_); rintro e w3 ⟨rfl, hB⟩; rw [HS1.out]; have HB3 := Aside0.mk (HB2.out.trans (hB.mono HB2.out.size)); clear HBz; have HBz := HB3; clear hB) | (go_at_call 40; (with_reducible refine (rfixed_any s _).mono ?_); rintro e w4 ⟨rfl, hB⟩; rw [HFX.out]; have HB4 := Aside0.mk (HB3.out.trans (hB.mono HB3.out.size)); clear HBz; have HBz := HB4; clear hB))
  clear b0 b1 b2
  have HG3b := Aside0.mk (blk_below HG3.out HBz.out)
  have HG6b := Aside0.mk (blk_below HG6.out HBz.out)
  have HBW := Aside0.mk (HB.out.trans (HBz.out.mono HB.out.size))
  have b0 : w4.cell? ⟨w.heap.size, 0, none⟩ = some (.slice A n c) := (blk_cell HG3b.out 0).trans rfl
  have b1 : w4.cell? ⟨w.heap.size, 1, none⟩ = some (.int .i64 last) := (blk_cell HG3b.out 1).trans rfl
  have b2 : w4.cell? ⟨w.heap.size, 2, none⟩ = some (.slice E m d) := (blk_cell HG3b.out 2).trans rfl
  go_wp2_with ((with_reducible refine gate_st 42 8 33 rfl ?_)
               go_loud (refine tab_put rfl 8 33 rfl (w.heap.size + 1) _ A n c last E m d rfl rfl rfl HG6b.out ?_)
               intro w5 hg hbx hoth
               have HX := Aside0.mk hg
               have HB5 := Aside0.mk (HBW.out.trans (hbx w.heap.size (by omega)))
               clear hg hbx hoth b0 b1 b2)
  ((try simp only [Exit.inBlock, Exit.then]); refine bodyPost_ret (results_ct rfl _ _ _ 42 _ (0, 0) _ rfl HX.out Tryd.underlying42 rfl (by kernel_rfl)) rfl ?_)
  exact ⟨_, _, _, rfl, ⟨rfl, rfl, rfl⟩, HB5.out⟩
set_option maxHeartbeats 8000000 in
set_option maxRecDepth 100000 in
theorem rput_low (h : Rel f L) (hr : RT w A n c L E m d es) (last pid s k : Int) (hll : liv f pid = true) (hs1 : isg s = true) (hfx : fx s = false) (hk : k < 0) :
    Calls Tryd.prog 21 #[.agg #[.slice A n c, .int .i64 last, .slice E m d], .int .i64 pid, .int .i64 s, .int .i64 k] w fun e w' => TabB2 w w' e false A n c L last E m d := by
  have hB1 := below_alloc (below_alloc (Below.refl w.heap.size w) (.cells #[.slice A n c, .int .i64 last, .slice E m d] 42)) (.cells #[.slice none 0 0, .int .i64 0, .slice none 0 0] 42)
  have hG3 := blk_below (blk_new w (.cells #[.slice A n c, .int .i64 last, .slice E m d] 42)) (below_alloc (Below.refl _ _) (.cells #[.slice none 0 0, .int .i64 0, .slice none 0 0] 42))
  have hG6 := blk_new (w.alloc (.cells #[.slice A n c, .int .i64 last, .slice E m d] 42)) (.cells #[.slice none 0 0, .int .i64 0, .slice none 0 0] 42)
  rw [show (w.alloc (.cells #[.slice A n c, .int .i64 last, .slice E m d] 42)).heap.size = w.heap.size + 1 by simp] at hG6
  have HR := Aside0.mk (hr.below hB1)
  have HB := Aside0.mk hB1
  have HG3 := Aside0.mk hG3
  have HG6 := Aside0.mk hG6
  have HR0 := Aside0.mk hr
  have HH := Aside0.mk h
  clear hr hB1 hG3 hG6 h
  have HLL := Aside0.mk hll
  clear hll
  have HS1 := Aside0.mk hs1
  clear hs1
  have HFX := Aside0.mk hfx
  clear hfx
  have hd : decide (k < 0) = true := decide_eq_true hk
  clear hk
  go_enter Tryd.func21, Tryd.ntmps21
  go_upto_region 1 with (fail)
  generalize (w.alloc (.cells #[.slice A n c, .int .i64 last, .slice E m d] 42)).alloc (.cells #[.slice none 0 0, .int .i64 0, .slice none 0 0] 42) = w1 at *
  have b0 : w1.cell? ⟨w.heap.size, 0, none⟩ = some (.slice A n c) := (blk_cell HG3.out 0).trans rfl
  have b1 : w1.cell? ⟨w.heap.size, 1, none⟩ = some (.int .i64 last) := (blk_cell HG3.out 1).trans rfl
  have b2 : w1.cell? ⟨w.heap.size, 2, none⟩ = some (.slice E m d) := (blk_cell HG3.out 2).trans rfl
  go_upto_region 2 with (first | (go_at_call 25; (with_reducible refine (rlive_any HH.out HR.out last pid).mono ?_); rintro e w2 ⟨rfl, hB⟩; rw [HLL.out]; have HB2 := Aside0.mk hB; have HBz := Aside0.mk hB; clear hB) | (go_at_call 51; (with_reducible refine (ris2_any s _).mono ?_); rintro e w3 ⟨rfl, hB⟩; rw [HS1.out]; have HB3 := Aside0.mk (HB2.out.trans (hB.mono HB2.out.size)); clear HBz; have HBz := HB3; clear hB) | (go_at_call 40; (with_reducible refine (rfixed_any s _).mono ?_); rintro e w4 ⟨rfl, hB⟩; rw [HFX.out]; have HB4 := Aside0.mk (HB3.out.trans (hB.mono HB3.out.size)); clear HBz; have HBz := HB4; clear hB))
  clear b0 b1 b2
  have HG3b := Aside0.mk (blk_below HG3.out HBz.out)
  have HG6b := Aside0.mk (blk_below HG6.out HBz.out)
  have HBW := Aside0.mk (HB.out.trans (HBz.out.mono HB.out.size))
  have b0 : w4.cell? ⟨w.heap.size, 0, none⟩ = some (.slice A n c) := (blk_cell HG3b.out 0).trans rfl
  have b1 : w4.cell? ⟨w.heap.size, 1, none⟩ = some (.int .i64 last) := (blk_cell HG3b.out 1).trans rfl
  have b2 : w4.cell? ⟨w.heap.size, 2, none⟩ = some (.slice E m d) := (blk_cell HG3b.out 2).trans rfl
  go_wp2_with ((with_reducible refine gate_st 42 8 33 rfl ?_)
               go_loud (refine tab_put rfl 8 33 rfl (w.heap.size + 1) _ A n c last E m d rfl rfl rfl HG6b.out ?_)
               intro w5 hg hbx hoth
               have HX := Aside0.mk hg
               have HB5 := Aside0.mk (HBW.out.trans (hbx w.heap.size (by omega)))
               clear hg hbx hoth b0 b1 b2)
  ((try simp only [Exit.inBlock, Exit.then]); refine bodyPost_ret (results_ct rfl _ _ _ 42 _ (0, 0) _ rfl HX.out Tryd.underlying42 rfl (by kernel_rfl)) rfl ?_)
  exact ⟨_, _, _, rfl, ⟨rfl, rfl, rfl⟩, HB5.out⟩
set_option maxHeartbeats 8000000 in
set_option maxRecDepth 100000 in
theorem rput_high (h : Rel f L) (hr : RT w A n c L E m d es) (last pid s k : Int) (hll : liv f pid = true) (hs1 : isg s = true) (hfx : fx s = false) (hk : 2 < k) :
    Calls Tryd.prog 21 #[.agg #[.slice A n c, .int .i64 last, .slice E m d], .int .i64 pid, .int .i64 s, .int .i64 k] w fun e w' => TabB2 w w' e false A n c L last E m d := by
  have hB1 := below_alloc (below_alloc (Below.refl w.heap.size w) (.cells #[.slice A n c, .int .i64 last, .slice E m d] 42)) (.cells #[.slice none 0 0, .int .i64 0, .slice none 0 0] 42)
  have hG3 := blk_below (blk_new w (.cells #[.slice A n c, .int .i64 last, .slice E m d] 42)) (below_alloc (Below.refl _ _) (.cells #[.slice none 0 0, .int .i64 0, .slice none 0 0] 42))
  have hG6 := blk_new (w.alloc (.cells #[.slice A n c, .int .i64 last, .slice E m d] 42)) (.cells #[.slice none 0 0, .int .i64 0, .slice none 0 0] 42)
  rw [show (w.alloc (.cells #[.slice A n c, .int .i64 last, .slice E m d] 42)).heap.size = w.heap.size + 1 by simp] at hG6
  have HR := Aside0.mk (hr.below hB1)
  have HB := Aside0.mk hB1
  have HG3 := Aside0.mk hG3
  have HG6 := Aside0.mk hG6
  have HR0 := Aside0.mk hr
  have HH := Aside0.mk h
  clear hr hB1 hG3 hG6 h
  have HLL := Aside0.mk hll
  clear hll
  have HS1 := Aside0.mk hs1
  clear hs1
  have HFX := Aside0.mk hfx
  clear hfx
  have hd0 : decide (k < 0) = false := decide_eq_false (by omega)
  have hd : decide (2 < k) = true := decide_eq_true hk
  clear hk
  go_enter Tryd.func21, Tryd.ntmps21
  go_upto_region 1 with (fail)
  generalize (w.alloc (.cells #[.slice A n c, .int .i64 last, .slice E m d] 42)).alloc (.cells #[.slice none 0 0, .int .i64 0, .slice none 0 0] 42) = w1 at *
  have b0 : w1.cell? ⟨w.heap.size, 0, none⟩ = some (.slice A n c) := (blk_cell HG3.out 0).trans rfl
  have b1 : w1.cell? ⟨w.heap.size, 1, none⟩ = some (.int .i64 last) := (blk_cell HG3.out 1).trans rfl
  have b2 : w1.cell? ⟨w.heap.size, 2, none⟩ = some (.slice E m d) := (blk_cell HG3.out 2).trans rfl
  go_upto_region 2 with (first | (go_at_call 25; (with_reducible refine (rlive_any HH.out HR.out last pid).mono ?_); rintro e w2 ⟨rfl, hB⟩; rw [HLL.out]; have HB2 := Aside0.mk hB; have HBz := Aside0.mk hB; clear hB) | (go_at_call 51; (with_reducible refine (ris2_any s _).mono ?_); rintro e w3 ⟨rfl, hB⟩; rw [HS1.out]; have HB3 := Aside0.mk (HB2.out.trans (hB.mono HB2.out.size)); clear HBz; have HBz := HB3; clear hB) | (go_at_call 40; (with_reducible refine (rfixed_any s _).mono ?_); rintro e w4 ⟨rfl, hB⟩; rw [HFX.out]; have HB4 := Aside0.mk (HB3.out.trans (hB.mono HB3.out.size)); clear HBz; have HBz := HB4; clear hB))
  clear b0 b1 b2
  have HG3b := Aside0.mk (blk_below HG3.out HBz.out)
  have HG6b := Aside0.mk (blk_below HG6.out HBz.out)
  have HBW := Aside0.mk (HB.out.trans (HBz.out.mono HB.out.size))
  have b0 : w4.cell? ⟨w.heap.size, 0, none⟩ = some (.slice A n c) := (blk_cell HG3b.out 0).trans rfl
  have b1 : w4.cell? ⟨w.heap.size, 1, none⟩ = some (.int .i64 last) := (blk_cell HG3b.out 1).trans rfl
  have b2 : w4.cell? ⟨w.heap.size, 2, none⟩ = some (.slice E m d) := (blk_cell HG3b.out 2).trans rfl
  go_wp2_with ((with_reducible refine gate_st 42 8 33 rfl ?_)
               go_loud (refine tab_put rfl 8 33 rfl (w.heap.size + 1) _ A n c last E m d rfl rfl rfl HG6b.out ?_)
               intro w5 hg hbx hoth
               have HX := Aside0.mk hg
               have HB5 := Aside0.mk (HBW.out.trans (hbx w.heap.size (by omega)))
               clear hg hbx hoth b0 b1 b2)
  ((try simp only [Exit.inBlock, Exit.then]); refine bodyPost_ret (results_ct rfl _ _ _ 42 _ (0, 0) _ rfl HX.out Tryd.underlying42 rfl (by kernel_rfl)) rfl ?_)
  exact ⟨_, _, _, rfl, ⟨rfl, rfl, rfl⟩, HB5.out⟩
/-- Put, whatever is asked. -/
theorem rput_any (h : Rel f L) (hr : RT w A n c L E m d es) (last pid s k : Int) (hI : ∀ q r, f q = some r → r.ign < 4294967296 ∧ r.ca < 4294967296 ∧ r.pen < 4294967296) :
    Calls Tryd.prog 21 #[.agg #[.slice A n c, .int .i64 last, .slice E m d], .int .i64 pid, .int .i64 s, .int .i64 k] w fun e w' => ∃ L', Rel (putT f pid s k) L' ∧ TabB2 w w' e (putB f pid s k) A n c L' last E m d := by
  cases hll : liv f pid with
  | false =>
    have hb : putB f pid s k = false := by unfold putB; rw [hll]; rfl
    rw [hb, put_off hb]
    exact (rput_nolive h hr last pid s k hll).mono fun e w' q => ⟨L, h, q⟩
  | true =>
    cases hs1 : isg s with
    | false =>
      have hb : putB f pid s k = false := by unfold putB; rw [hll, hs1]; rfl
      rw [hb, put_off hb]
      exact (rput_nosig h hr last pid s k hll hs1).mono fun e w' q => ⟨L, h, q⟩
    | true =>
      cases hfx : fx s with
      | true =>
        have hb : putB f pid s k = false := by unfold putB; rw [hll, hs1, hfx]; rfl
        rw [hb, put_off hb]
        exact (rput_fixed h hr last pid s k hll hs1 hfx).mono fun e w' q => ⟨L, h, q⟩
      | false =>
        by_cases h0 : k < 0
        · have hb : putB f pid s k = false := by unfold putB; rw [hll, hs1, hfx, decide_eq_false (show ¬ 0 ≤ k by omega)]; rfl
          rw [hb, put_off hb]
          exact (rput_low h hr last pid s k hll hs1 hfx h0).mono fun e w' q => ⟨L, h, q⟩
        · by_cases h2 : 2 < k
          · have hb : putB f pid s k = false := by unfold putB; rw [hll, hs1, hfx, decide_eq_true (show 0 ≤ k by omega), decide_eq_false (show ¬ k ≤ 2 by omega)]; rfl
            rw [hb, put_off hb]
            exact (rput_high h hr last pid s k hll hs1 hfx h2).mono fun e w' q => ⟨L, h, q⟩
          · have hb : putB f pid s k = true := by unfold putB; rw [hll, hs1, hfx, decide_eq_true (show 0 ≤ k by omega), decide_eq_true (show k ≤ 2 by omega)]; rfl
            obtain ⟨r, hf, hlv⟩ := liv_true hll
            have ht : putT f pid s k = upd f pid (some (putR r s k)) := by unfold putT; rw [if_pos hb, hf]; rfl
            rw [hb, ht]
            have hk : k = 0 ∨ k = 1 ∨ k = 2 := by omega
            rcases hk with rfl | rfl | rfl
            · exact (rput0_any h hr last pid s r hf hlv (hI pid r hf) hs1 hfx).mono fun e w' q => ⟨_, rel_set h hf _, q⟩
            · exact (rput1_any h hr last pid s r hf hlv (hI pid r hf) hs1 hfx).mono fun e w' q => ⟨_, rel_set h hf _, q⟩
            · exact (rput2_any h hr last pid s r hf hlv (hI pid r hf) hs1 hfx).mono fun e w' q => ⟨_, rel_set h hf _, q⟩
/-- Take, whatever is asked. -/
def takeT (f : Tb) (pid s : Int) : Tb := if hs (pend f pid) s = true then upd f pid ((f pid).map fun r => { r with pen := wto r.pen s }) else f
theorem rtake_any (h : Rel f L) (hr : RT w A n c L E m d es) (last pid s : Int) (hI : ∀ q r, f q = some r → r.pen < 4294967296) :
    Calls Tryd.prog 23 #[.agg #[.slice A n c, .int .i64 last, .slice E m d], .int .i64 pid, .int .i64 s] w fun e w' => ∃ L', Rel (takeT f pid s) L' ∧ TabB2 w w' e (hs (pend f pid) s) A n c L' last E m d := by
  cases hb : hs (pend f pid) s with
  | false =>
    have ht : takeT f pid s = f := by unfold takeT; rw [hb]; rfl
    rw [ht]
    exact (rtake_no h hr last pid s hI hb).mono fun e w' q => ⟨L, h, q⟩
  | true =>
    have hll : liv f pid = true := by
      cases hl : liv f pid with
      | true => rfl
      | false => rw [pend_off hl, hs_zero] at hb; cases hb
    obtain ⟨r, hf, hlv⟩ := liv_true hll
    have hpd : pend f pid = r.pen := by unfold pend; rw [hf]; exact if_pos hlv
    have ht : takeT f pid s = upd f pid (some { r with pen := wto r.pen s }) := by unfold takeT; rw [if_pos hb, hf]; rfl
    rw [ht]
    rw [hpd] at hb
    exact (rtake_yes h hr last pid s r hf hlv (hI pid r hf) hb).mono fun e w' q => ⟨_, rel_set h hf _, q⟩
end
end Go.Proofs.YtbgodajbdbgdfaaDoor.Kern
/- kern: the document's Reap: its contract. -/
namespace Go.Proofs.YtbgodajbdbgdfaaDoor.Kern
open Go.RowKit Go.Proofs.YtbgodajbdbgdfaaDoorW.PrintWords Go.Proofs.YtbgodajbdbgdfaaDoorW.PrintLast Go.Proofs.YtbgodajbdbgdfaaDoor.Sig Go.Proofs.YtbgodajbdbgdfaaDoor.Base Go.Proofs.YtbgodajbdbgdfaaDoor.Seq Go.Proofs.YtbgodajbdbgdfaaDoor.V Go.Maps
set_option linter.unusedVariables false
set_option linter.unusedSimpArgs false
theorem stepL_take (st : Int → Pr → Option Pr) (L : List S) (k : Nat) (hk : k < L.length) {q : Int} {r : Pr} (e : L[k] = mkS q r) : stepL st (L.take (k + 1)) = stepL st (L.take k) ++ ((st q r).map (mkS q)).toList := by
  unfold stepL
  rw [List.take_succ_eq_append_getElem hk, List.filterMap_append, e]
  congr 1
/-- The status, once it has been met. -/
def statAt (i k : Nat) (s : Int) : Int := if i < k then s else 0
/-- Reap's answer. -/
def ReapOut (w w' : World) (e : Ending) (st : Int) (b : Bool) (A0 : Option Addr) (n0 c0 : Nat) (L : List S) (last : Int) (E : Option Addr) (m d : Nat) : Prop := ∃ (A : Option Addr) (n c : Nat), e = .returned (.tuple #[.agg #[.slice A n c, .int .i64 last, .slice E m d], .int .i64 st, .bool b]) ∧ (if b = true then k77.R 77 w' w.heap.size ok0 (.slice A n c) L else A = A0 ∧ n = n0 ∧ c = c0) ∧ Below w.heap.size w w'
section
variable {w : World} {A E : Option Addr} {n c m d : Nat} {f : Tb} {L : List S} {es : List SE}
theorem one_S {w : World} {g : Nat} {q : Int} {r : Pr} (hg : w.heap[g]? = some (.cells (prc q r) 77 (0, 0))) : Kd.C k77 w (some ⟨g, 0, none⟩) 1 [mkS q r] := C_one hg (mkS_K w q r)
set_option maxHeartbeats 8000000 in
set_option maxRecDepth 100000 in
theorem rreap_yes (h : Rel f L) (hr : RT w A n c L E m d es) (last par pid : Int) (r : Pr) (hf : f pid = some r) (hlv : r.live = false) (hch : chB f par pid = true) :
    Calls Tryd.prog 19 #[.agg #[.slice A n c, .int .i64 last, .slice E m d], .int .i64 par, .int .i64 pid] w fun e w' => ReapOut w w' e r.status true A n c (stepL (delP pid) L) last E m d := by
  have hll : liv f pid = false := by unfold liv; rw [hf]; exact hlv
  obtain ⟨i, hi, ei, _⟩ := rat_some h hf
  have hfew := h.few
  have hget : ∀ k (hk : k < L.length), ∃ q r, L[k] = mkS q r ∧ (q = pid ↔ k = i) := by
    intro k hk
    obtain ⟨r', _, e'⟩ := rel_get h k hk
    refine ⟨_, r', e', ?_⟩
    constructor
    · intro hq
      rcases Nat.lt_trichotomy k i with hlt | hlt | hlt
      · have := rel_lt h hi hlt
        rw [hq, ei] at this
        exact absurd this (Int.lt_irrefl _)
      · exact hlt
      · have := rel_lt h hk hlt
        rw [hq, ei] at this
        exact absurd this (Int.lt_irrefl _)
    · rintro rfl
      rw [ei]; rfl
  have hB1 := below_alloc (below_alloc (Below.refl w.heap.size w) (.cells #[.slice A n c, .int .i64 last, .slice E m d] 42)) (.cells #[.slice none 0 0, .int .i64 0, .slice none 0 0] 42)
  have hG3 := blk_below (blk_new w (.cells #[.slice A n c, .int .i64 last, .slice E m d] 42)) (below_alloc (Below.refl _ _) (.cells #[.slice none 0 0, .int .i64 0, .slice none 0 0] 42))
  have hG6 := blk_new (w.alloc (.cells #[.slice A n c, .int .i64 last, .slice E m d] 42)) (.cells #[.slice none 0 0, .int .i64 0, .slice none 0 0] 42)
  rw [show (w.alloc (.cells #[.slice A n c, .int .i64 last, .slice E m d] 42)).heap.size = w.heap.size + 1 by simp] at hG6
  have HR := Aside0.mk (hr.below hB1)
  have HB := Aside0.mk hB1
  have HG3 := Aside0.mk hG3
  have HG6 := Aside0.mk hG6
  have HR0 := Aside0.mk hr
  have HH := Aside0.mk h
  clear hr hB1 hG3 hG6 h
  have HLL := Aside0.mk hll
  have HCH := Aside0.mk hch
  have HGET := Aside0.mk hget
  have HEI := Aside0.mk ei
  have hnl : L.length = n := HR.out.row.1
  clear hll hch hget hf hlv ei
  go_enter Tryd.func19, Tryd.ntmps19
  go_upto_region 1 with (fail)
  generalize (w.alloc (.cells #[.slice A n c, .int .i64 last, .slice E m d] 42)).alloc (.cells #[.slice none 0 0, .int .i64 0, .slice none 0 0] 42) = w1 at *
  have b0 : w1.cell? ⟨w.heap.size, 0, none⟩ = some (.slice A n c) := (blk_cell HG3.out 0).trans rfl
  have b1 : w1.cell? ⟨w.heap.size, 1, none⟩ = some (.int .i64 last) := (blk_cell HG3.out 1).trans rfl
  have b2 : w1.cell? ⟨w.heap.size, 2, none⟩ = some (.slice E m d) := (blk_cell HG3.out 2).trans rfl
  go_upto_region 3 with (first
    | (go_at_call 29; (with_reducible refine (rchild_any HH.out HR.out last par pid).mono ?_); rintro e w2 ⟨rfl, hB⟩; rw [HCH.out]; have HB2 := Aside0.mk hB; have b0' := pw_cell_below hB b0; have b1' := pw_cell_below hB b1; have b2' := pw_cell_below hB b2; clear hB b0 b1 b2)
    | (go_at_call 25; (with_reducible refine (rlive_any HH.out (HR.out.below HB2.out) last pid).mono ?_); rintro e w3 ⟨rfl, hB⟩; rw [HLL.out]; have HB3 := Aside0.mk (HB2.out.trans (hB.mono HB2.out.size)); clear hB b0' b1' b2'))
  have HE := Aside0.mk (show k77.R 77 (w3.alloc (.cells #[] 77)) w3.heap.size ok0 (.slice (some ⟨w3.heap.size, 0, none⟩) 0 0) [] from R_empty (blk_new w3 _) (Nat.le_refl _))
  have HB4 := Aside0.mk (HB3.out.trans ((below_alloc (Below.refl w3.heap.size w3) (.cells #[] 77)).mono HB3.out.size))
  have HB4b := Aside0.mk (below_alloc (Below.refl w3.heap.size w3) (.cells #[] 77))
  go_upto_region 5 with (fail)
  have hw3 : w1.heap.size ≤ w3.heap.size := HB3.out.size
  generalize w3.alloc (.cells #[] 77) = w4 at *
  have b0 : w4.cell? ⟨w.heap.size, 0, none⟩ = some (.slice A n c) := (blk_cell (blk_below HG3.out HB4.out) 0).trans rfl
  go_wp2
  clear b0
  go_loopw [28, 9, 10] (fun v28 v9 v10 wr => ∃ (k : Nat) (B : Option Addr) (k1 q1 : Nat), k ≤ n ∧ v28 = .int .i64 (k : Int) ∧ v9 = .int .i64 (statAt i k r.status) ∧ v10 = .slice B k1 q1 ∧ Aside0 (k77.R 77 wr w3.heap.size ok0 (.slice B k1 q1) (stepL (delP pid) (L.take k))) ∧ Aside0 (Below w3.heap.size w3 wr)) (fun v28 _ _ _ => n - (intOf v28).toNat)
  case atStart => exact ⟨0, _, 0, 0, Nat.zero_le _, rfl, rfl, rfl, HE, HB4b⟩
  case round =>
    clear HE HB4b
    obtain ⟨k, B, k1, q1, hk, rfl, rfl, rfl, HL, HBr⟩ := hrel
    have HBw := Aside0.mk (HB3.out.trans (HBr.out.mono hw3))
    generalize hsv : statAt i k r.status = sv at *
    have HSV := Aside0.mk hsv
    clear hsv
    by_cases hkn : k < n
    · have hkL : k < L.length := by omega
      obtain ⟨q, rk, ek, hqi⟩ := HGET.out k hkL
      obtain ⟨ad, rfl, k0, k1', k2, k3, k4, k5, k6⟩ := at_S (HR.out.below HBw.out).row k hkL ek
      have HTK := Aside0.mk (stepL_take (delP pid) L k hkL ek)
      have HEK := Aside0.mk ek
      have HQI := Aside0.mk hqi
      have HGB := Aside0.mk (blk_new wr (.cells (prc q rk) 77))
      have hal := Aside0.mk (below_alloc (Below.refl wr.heap.size wr) (.cells (prc q rk) 77))
      clear ek hqi
      go_upto_region 8 with (fail)
      clear k0 k1' k2 k3 k4 k5 k6
      generalize wr.alloc (.cells (prc q rk) 77) = wb at *
      have hwr := HBr.out.size
      have p0 : wb.cell? ⟨wr.heap.size, 0, none⟩ = some (.int .i64 q) := (blk_cell HGB.out 0).trans rfl
      have p1 : wb.cell? ⟨wr.heap.size, 1, none⟩ = some (.int .i64 rk.par) := (blk_cell HGB.out 1).trans rfl
      have p2 : wb.cell? ⟨wr.heap.size, 2, none⟩ = some (.int .i64 rk.status) := (blk_cell HGB.out 2).trans rfl
      have p3 : wb.cell? ⟨wr.heap.size, 3, none⟩ = some (.bool rk.live) := (blk_cell HGB.out 3).trans rfl
      have p4 : wb.cell? ⟨wr.heap.size, 4, none⟩ = some (.int .u32 (rk.ign : Int)) := (blk_cell HGB.out 4).trans rfl
      have p5 : wb.cell? ⟨wr.heap.size, 5, none⟩ = some (.int .u32 (rk.ca : Int)) := (blk_cell HGB.out 5).trans rfl
      have p6 : wb.cell? ⟨wr.heap.size, 6, none⟩ = some (.int .u32 (rk.pen : Int)) := (blk_cell HGB.out 6).trans rfl
      by_cases hq : q = pid
      · subst hq
        have hki : k = i := HQI.out.1 rfl
        have hrk : rk = r := by
          have e1 := HEK.out
          have e2 := HEI.out
          subst hki
          rw [e2] at e1
          exact congrArg prOf e1.symm
        have HL2 := Aside0.mk (show k77.R 77 wb w3.heap.size ok0 (.slice B k1 q1) (stepL (delP q) (L.take (k + 1))) from by
          rw [HTK.out, show delP q q rk = none from if_pos rfl]
          show k77.R 77 wb w3.heap.size ok0 (.slice B k1 q1) (stepL (delP q) (L.take k) ++ [])
          rw [List.append_nil]
          exact Kd.R_below HL.out hal.out)
        have HB2r := Aside0.mk (HBr.out.trans (hal.out.mono hwr))
        have HST := Aside0.mk (show rk.status = statAt i (k + 1) r.status from by rw [hrk]; unfold statAt; rw [if_pos (by omega)])
        clear hki hrk
        go_wp2
        go_roundw
        case measure => simp [intOf]; omega
        case rel => exact ⟨k + 1, B, k1, q1, by omega, by go_num, by rw [HST.out], rfl, HL2, HB2r⟩
      · have hqb : (q == pid) = false := beq_eq_false_iff_ne.2 hq
        have hki : k ≠ i := fun e => hq (HQI.out.2 e)
        have HQN := Aside0.mk hq
        have HLb := Aside0.mk (Kd.R_below HL.out hal.out)
        have hlen : (stepL (delP pid) (L.take k)).length ≤ 1000000 := Nat.le_trans (stepL_len (delP pid) (L.take k)) (Nat.le_trans (by rw [List.length_take]; omega) hfew)
        have HST := Aside0.mk (show sv = statAt i (k + 1) r.status from by
          rw [← HSV.out]
          unfold statAt
          by_cases h1 : i < k
          · rw [if_pos h1, if_pos (by omega)]
          · rw [if_neg h1, if_neg (by omega)])
        clear hq hki
        go_wp2_with ((with_reducible refine gate_dst (N := 41) rfl ?_)
                     go_loud (refine app_S w3.heap.size (N := 41) (w0 := w3) (W := wb.alloc (.cells (prc q rk) 77)) rfl rfl (.tmp 38) (.tmp 40) rfl (.slice B k1 q1) (stepL (delP pid) (L.take k)) [mkS q rk] (some ⟨wb.heap.size, 0, none⟩) 1 1 rfl rfl (Kd.R_below HLb.out (below_alloc (Below.refl _ _) _)) (one_S (blk_new wb _)) ((HBr.out.trans (hal.out.mono hwr)).trans ((below_alloc (Below.refl wb.heap.size wb) _).mono (HBr.out.trans (hal.out.mono hwr)).size)) ((HBr.out.trans (hal.out.mono hwr)).trans ((below_alloc (Below.refl wb.heap.size wb) _).mono (HBr.out.trans (hal.out.mono hwr)).size)).size (by omega) ?_)
                     intro A1 n1 cp1 w9 hR hB hG
                     have HL2 := Aside0.mk (show k77.R 77 w9 w3.heap.size ok0 (.slice A1 n1 cp1) (stepL (delP pid) (L.take (k + 1))) from by
                       rw [HTK.out, show delP pid q rk = some rk from if_neg HQN.out]
                       exact hR)
                     have HB2r := Aside0.mk hB
                     clear hR hB hG)
        go_roundw
        case measure => simp [intOf]; omega
        case rel => exact ⟨k + 1, A1, n1, cp1, by omega, by go_num, by rw [HST.out], rfl, HL2, HB2r⟩
    · have hke : k = n := by omega
      have hst : sv = r.status := by
        rw [← HSV.out]
        unfold statAt
        rw [if_pos (by omega)]
      subst hst
      have HL2 := Aside0.mk (show k77.R 77 wr w3.heap.size ok0 (.slice B k1 q1) (stepL (delP pid) L) from by
        have h0 := HL.out
        rwa [hke, ← hnl, List.take_length] at h0)
      have HG3c := Aside0.mk (blk_below HG3.out HBw.out)
      have HG6c := Aside0.mk (blk_below HG6.out HBw.out)
      have hg6w := blk_lt HG6.out
      have c0 : wr.cell? ⟨w.heap.size, 0, none⟩ = some (.slice A n c) := (blk_cell HG3c.out 0).trans rfl
      have f0 := blk_frozen HG3c.out 0
      clear hke
      go_upto_region 13 with (fail)
      have HL4 := Aside0.mk (Kd.R_set HL2.out HG3c.out (by decide) 0 (.slice B k1 q1))
      have HG3d := Aside0.mk (blk_put HG3c.out 0 (.slice B k1 q1) rfl)
      have HG6d := Aside0.mk (blk_far HG6c.out (show w.heap.size + 1 ≠ (⟨w.heap.size, 0, none⟩ : Addr).block by show w.heap.size + 1 ≠ w.heap.size; omega) (.slice B k1 q1))
      have HB5 := Aside0.mk ((HB.out.trans (HBw.out.mono HB.out.size)).setCell (p := ⟨w.heap.size, 0, none⟩) (Nat.le_refl _) (.slice B k1 q1))
      clear c0 f0
      generalize wr.setCell ⟨w.heap.size, 0, none⟩ (.slice B k1 q1) = w5 at *
      have c0 : w5.cell? ⟨w.heap.size, 0, none⟩ = some (.slice B k1 q1) := (blk_cell HG3d.out 0).trans rfl
      have c1 : w5.cell? ⟨w.heap.size, 1, none⟩ = some (.int .i64 last) := (blk_cell HG3d.out 1).trans rfl
      have c2 : w5.cell? ⟨w.heap.size, 2, none⟩ = some (.slice E m d) := (blk_cell HG3d.out 2).trans rfl
      go_wp2_with ((with_reducible refine gate_st 42 6 45 rfl ?_)
                   go_loud (refine tab_put rfl 6 45 rfl (w.heap.size + 1) _ B k1 q1 last E m d rfl rfl rfl HG6d.out ?_)
                   intro w6 hg hbx hoth
                   have HX := Aside0.mk hg
                   have HB6 := Aside0.mk (HB5.out.trans (hbx w.heap.size (by omega)))
                   have HR6 := Aside0.mk (Kd.R_lower (base' := w.heap.size) (Kd.R_mono (ok' := ok0) (Kd.R_step (Kd.R_bound HL4.out) (fun k ho _ => hoth k (by have := ho.2.1; omega))) (fun _ _ => trivial)) (by omega))
                   clear hg hbx hoth c0 c1 c2)
      ((try simp only [Exit.inBlock, Exit.then]); refine bodyPost_ret (results_ctt rfl _ _ _ 42 _ (0, 0) _ rfl HX.out Tryd.underlying42 rfl (by kernel_rfl)) rfl ?_)
      exact ⟨B, k1, q1, rfl, by rw [if_pos rfl]; exact HR6.out, HB6.out⟩
end
end Go.Proofs.YtbgodajbdbgdfaaDoor.Kern
/- kern: the document's Reap, whatever is asked: its contract. -/
namespace Go.Proofs.YtbgodajbdbgdfaaDoor.Kern
open Go.RowKit Go.Proofs.YtbgodajbdbgdfaaDoorW.PrintWords Go.Proofs.YtbgodajbdbgdfaaDoorW.PrintLast Go.Proofs.YtbgodajbdbgdfaaDoor.Sig Go.Proofs.YtbgodajbdbgdfaaDoor.Base Go.Proofs.YtbgodajbdbgdfaaDoor.Seq Go.Proofs.YtbgodajbdbgdfaaDoor.V Go.Maps
set_option linter.unusedVariables false
set_option linter.unusedSimpArgs false
section
variable {w : World} {A E : Option Addr} {n c m d : Nat} {f : Tb} {L : List S} {es : List SE}
set_option maxHeartbeats 8000000 in
set_option maxRecDepth 100000 in
theorem rreap_nochild (h : Rel f L) (hr : RT w A n c L E m d es) (last par pid : Int) (hch : chB f par pid = false) :
    Calls Tryd.prog 19 #[.agg #[.slice A n c, .int .i64 last, .slice E m d], .int .i64 par, .int .i64 pid] w fun e w' => ReapOut w w' e 0 false A n c L last E m d := by
  have hB1 := below_alloc (below_alloc (Below.refl w.heap.size w) (.cells #[.slice A n c, .int .i64 last, .slice E m d] 42)) (.cells #[.slice none 0 0, .int .i64 0, .slice none 0 0] 42)
  have hG3 := blk_below (blk_new w (.cells #[.slice A n c, .int .i64 last, .slice E m d] 42)) (below_alloc (Below.refl _ _) (.cells #[.slice none 0 0, .int .i64 0, .slice none 0 0] 42))
  have hG6 := blk_new (w.alloc (.cells #[.slice A n c, .int .i64 last, .slice E m d] 42)) (.cells #[.slice none 0 0, .int .i64 0, .slice none 0 0] 42)
  rw [show (w.alloc (.cells #[.slice A n c, .int .i64 last, .slice E m d] 42)).heap.size = w.heap.size + 1 by simp] at hG6
  have HR := Aside0.mk (hr.below hB1)
  have HB := Aside0.mk hB1
  have HG3 := Aside0.mk hG3
  have HG6 := Aside0.mk hG6
  have HR0 := Aside0.mk hr
  have HH := Aside0.mk h
  clear hr hB1 hG3 hG6 h
  have HCH := Aside0.mk hch
  clear hch
  go_enter Tryd.func19, Tryd.ntmps19
  go_upto_region 1 with (fail)
  generalize (w.alloc (.cells #[.slice A n c, .int .i64 last, .slice E m d] 42)).alloc (.cells #[.slice none 0 0, .int .i64 0, .slice none 0 0] 42) = w1 at *
  have b0 : w1.cell? ⟨w.heap.size, 0, none⟩ = some (.slice A n c) := (blk_cell HG3.out 0).trans rfl
  have b1 : w1.cell? ⟨w.heap.size, 1, none⟩ = some (.int .i64 last) := (blk_cell HG3.out 1).trans rfl
  have b2 : w1.cell? ⟨w.heap.size, 2, none⟩ = some (.slice E m d) := (blk_cell HG3.out 2).trans rfl
  go_upto_region 2 with (first | (go_at_call 29; (with_reducible refine (rchild_any HH.out HR.out last par pid).mono ?_); rintro e w2 ⟨rfl, hB⟩; rw [HCH.out]; have HBz := Aside0.mk hB; clear hB b0 b1 b2))
  have HG3b := Aside0.mk (blk_below HG3.out HBz.out)
  have HG6b := Aside0.mk (blk_below HG6.out HBz.out)
  have HBW := Aside0.mk (HB.out.trans (HBz.out.mono HB.out.size))
  have b0 : w2.cell? ⟨w.heap.size, 0, none⟩ = some (.slice A n c) := (blk_cell HG3b.out 0).trans rfl
  have b1 : w2.cell? ⟨w.heap.size, 1, none⟩ = some (.int .i64 last) := (blk_cell HG3b.out 1).trans rfl
  have b2 : w2.cell? ⟨w.heap.size, 2, none⟩ = some (.slice E m d) := (blk_cell HG3b.out 2).trans rfl
  go_wp2_with ((with_reducible refine gate_st 42 6 23 rfl ?_)
               go_loud (refine tab_put rfl 6 23 rfl (w.heap.size + 1) _ A n c last E m d rfl rfl rfl HG6b.out ?_)
               intro w5 hg hbx hoth
               have HX := Aside0.mk hg
               have HB5 := Aside0.mk (HBW.out.trans (hbx w.heap.size (by omega)))
               clear hg hbx hoth b0 b1 b2)
  ((try simp only [Exit.inBlock, Exit.then]); refine bodyPost_ret (results_ctt rfl _ _ _ 42 _ (0, 0) _ rfl HX.out Tryd.underlying42 rfl (by kernel_rfl)) rfl ?_)
  exact ⟨_, _, _, rfl, ⟨rfl, rfl, rfl⟩, HB5.out⟩
set_option maxHeartbeats 8000000 in
set_option maxRecDepth 100000 in
theorem rreap_live (h : Rel f L) (hr : RT w A n c L E m d es) (last par pid : Int) (hch : chB f par pid = true) (hll : liv f pid = true) :
    Calls Tryd.prog 19 #[.agg #[.slice A n c, .int .i64 last, .slice E m d], .int .i64 par, .int .i64 pid] w fun e w' => ReapOut w w' e 0 false A n c L last E m d := by
  have hB1 := below_alloc (below_alloc (Below.refl w.heap.size w) (.cells #[.slice A n c, .int .i64 last, .slice E m d] 42)) (.cells #[.slice none 0 0, .int .i64 0, .slice none 0 0] 42)
  have hG3 := blk_below (blk_new w (.cells #[.slice A n c, .int .i64 last, .slice E m d] 42)) (below_alloc (Below.refl _ _) (.cells #[.slice none 0 0, .int .i64 0, .slice none 0 0] 42))
  have hG6 := blk_new (w.alloc (.cells #[.slice A n c, .int .i64 last, .slice E m d] 42)) (.cells #[.slice none 0 0, .int .i64 0, .slice none 0 0] 42)
  rw [show (w.alloc (.cells #[.slice A n c, .int .i64 last, .slice E m d] 42)).heap.size = w.heap.size + 1 by simp] at hG6
  have HR := Aside0.mk (hr.below hB1)
  have HB := Aside0.mk hB1
  have HG3 := Aside0.mk hG3
  have HG6 := Aside0.mk hG6
  have HR0 := Aside0.mk hr
  have HH := Aside0.mk h
  clear hr hB1 hG3 hG6 h
  have HCH := Aside0.mk hch
  clear hch
  have HLL := Aside0.mk hll
  clear hll
  go_enter Tryd.func19, Tryd.ntmps19
  go_upto_region 1 with (fail)
  generalize (w.alloc (.cells #[.slice A n c, .int .i64 last, .slice E m d] 42)).alloc (.cells #[.slice none 0 0, .int .i64 0, .slice none 0 0] 42) = w1 at *
  have b0 : w1.cell? ⟨w.heap.size, 0, none⟩ = some (.slice A n c) := (blk_cell HG3.out 0).trans rfl
  have b1 : w1.cell? ⟨w.heap.size, 1, none⟩ = some (.int .i64 last) := (blk_cell HG3.out 1).trans rfl
  have b2 : w1.cell? ⟨w.heap.size, 2, none⟩ = some (.slice E m d) := (blk_cell HG3.out 2).trans rfl
  go_upto_region 2 with (first | (go_at_call 29; (with_reducible refine (rchild_any HH.out HR.out last par pid).mono ?_); rintro e w2 ⟨rfl, hB⟩; rw [HCH.out]; have HB2 := Aside0.mk hB; have b0' := pw_cell_below hB b0; have b1' := pw_cell_below hB b1; have b2' := pw_cell_below hB b2; clear hB b0 b1 b2) | (go_at_call 25; (with_reducible refine (rlive_any HH.out (HR.out.below HB2.out) last pid).mono ?_); rintro e w3 ⟨rfl, hB⟩; rw [HLL.out]; have HBz := Aside0.mk (HB2.out.trans (hB.mono HB2.out.size)); clear hB b0' b1' b2'))
  have HG3b := Aside0.mk (blk_below HG3.out HBz.out)
  have HG6b := Aside0.mk (blk_below HG6.out HBz.out)
  have HBW := Aside0.mk (HB.out.trans (HBz.out.mono HB.out.size))
  have b0 : w3.cell? ⟨w.heap.size, 0, none⟩ = some (.slice A n c) := (blk_cell HG3b.out 0).trans rfl
  have b1 : w3.cell? ⟨w.heap.size, 1, none⟩ = some (.int .i64 last) := (blk_cell HG3b.out 1).trans rfl
  have b2 : w3.cell? ⟨w.heap.size, 2, none⟩ = some (.slice E m d) := (blk_cell HG3b.out 2).trans rfl
  go_wp2_with ((with_reducible refine gate_st 42 6 23 rfl ?_)
               go_loud (refine tab_put rfl 6 23 rfl (w.heap.size + 1) _ A n c last E m d rfl rfl rfl HG6b.out ?_)
               intro w5 hg hbx hoth
               have HX := Aside0.mk hg
               have HB5 := Aside0.mk (HBW.out.trans (hbx w.heap.size (by omega)))
               clear hg hbx hoth b0 b1 b2)
  ((try simp only [Exit.inBlock, Exit.then]); refine bodyPost_ret (results_ctt rfl _ _ _ 42 _ (0, 0) _ rfl HX.out Tryd.underlying42 rfl (by kernel_rfl)) rfl ?_)
  exact ⟨_, _, _, rfl, ⟨rfl, rfl, rfl⟩, HB5.out⟩
def reapB (f : Tb) (par pid : Int) : Bool := chB f par pid && !liv f pid
def reapN (f : Tb) (par pid : Int) : Int := match f pid with
  | some r => if reapB f par pid = true then r.status else 0
  | none => 0
def reapT (f : Tb) (par pid : Int) : Tb := if reapB f par pid = true then upd f pid none else f
theorem rreap_any (h : Rel f L) (hr : RT w A n c L E m d es) (last par pid : Int) :
    Calls Tryd.prog 19 #[.agg #[.slice A n c, .int .i64 last, .slice E m d], .int .i64 par, .int .i64 pid] w fun e w' => ∃ L', Rel (reapT f par pid) L' ∧ ReapOut w w' e (reapN f par pid) (reapB f par pid) A n c L' last E m d := by
  have hno : reapB f par pid = false → reapT f par pid = f ∧ reapN f par pid = 0 := by
    intro hb
    unfold reapT reapN
    rw [hb]
    refine ⟨rfl, ?_⟩
    cases f pid <;> rfl
  cases hch : chB f par pid with
  | false =>
    have hb : reapB f par pid = false := by unfold reapB; rw [hch]; rfl
    rw [(hno hb).1, (hno hb).2, hb]
    exact (rreap_nochild h hr last par pid hch).mono fun e w' q => ⟨L, h, q⟩
  | true =>
    cases hll : liv f pid with
    | true =>
      have hb : reapB f par pid = false := by unfold reapB; rw [hch, hll]; rfl
      rw [(hno hb).1, (hno hb).2, hb]
      exact (rreap_live h hr last par pid hch hll).mono fun e w' q => ⟨L, h, q⟩
    | false =>
      have hb : reapB f par pid = true := by unfold reapB; rw [hch, hll]; rfl
      cases hf : f pid with
      | none => unfold chB at hch; rw [hf] at hch; cases hch
      | some r =>
        have hlv : r.live = false := by unfold liv at hll; rw [hf] at hll; exact hll
        have hn : reapN f par pid = r.status := by unfold reapN; rw [hf]; exact if_pos hb
        have ht : reapT f par pid = upd f pid none := if_pos hb
        rw [hn, ht, hb]
        exact (rreap_yes h hr last par pid r hf hlv hch).mono fun e w' q => ⟨_, rel_del h pid, q⟩
end
end Go.Proofs.YtbgodajbdbgdfaaDoor.Kern
/- kern: the document's Fork: its contract. -/
namespace Go.Proofs.YtbgodajbdbgdfaaDoor.Kern
open Go.RowKit Go.Proofs.YtbgodajbdbgdfaaDoorW.PrintWords Go.Proofs.YtbgodajbdbgdfaaDoorW.PrintLast Go.Proofs.YtbgodajbdbgdfaaDoor.Sig Go.Proofs.YtbgodajbdbgdfaaDoor.Base Go.Proofs.YtbgodajbdbgdfaaDoor.Seq Go.Proofs.YtbgodajbdbgdfaaDoor.V Go.Maps
set_option linter.unusedVariables false
set_option linter.unusedSimpArgs false
/-- Fork's answer. -/
def ForkOut (w w' : World) (e : Ending) (p k : Int) (b : Bool) (A0 : Option Addr) (n0 c0 : Nat) (L : List S) (last : Int) (E : Option Addr) (m d : Nat) : Prop := ∃ (A : Option Addr) (n c : Nat), e = .returned (.tuple #[.agg #[.slice A n c, .int .i64 last, .slice E m d], .int .i64 p, .int .i64 k]) ∧ (if b = true then k77.R 77 w' w.heap.size ok0 (.slice A n c) L else A = A0 ∧ n = n0 ∧ c = c0) ∧ Below w.heap.size w w'
section
variable {w : World} {A E : Option Addr} {n c m d : Nat} {f : Tb} {L : List S} {es : List SE}
set_option maxHeartbeats 8000000 in
set_option maxRecDepth 100000 in
theorem rfork_nolive (h : Rel f L) (hr : RT w A n c L E m d es) (last pid : Int) (hll : liv f pid = false) :
    Calls Tryd.prog 15 #[.agg #[.slice A n c, .int .i64 last, .slice E m d], .int .i64 pid] w fun e w' => ForkOut w w' e 0 3 false A n c L last E m d := by
  have hB1 := below_alloc (below_alloc (Below.refl w.heap.size w) (.cells #[.slice A n c, .int .i64 last, .slice E m d] 42)) (.cells #[.slice none 0 0, .int .i64 0, .slice none 0 0] 42)
  have hG3 := blk_below (blk_new w (.cells #[.slice A n c, .int .i64 last, .slice E m d] 42)) (below_alloc (Below.refl _ _) (.cells #[.slice none 0 0, .int .i64 0, .slice none 0 0] 42))
  have hG6 := blk_new (w.alloc (.cells #[.slice A n c, .int .i64 last, .slice E m d] 42)) (.cells #[.slice none 0 0, .int .i64 0, .slice none 0 0] 42)
  rw [show (w.alloc (.cells #[.slice A n c, .int .i64 last, .slice E m d] 42)).heap.size = w.heap.size + 1 by simp] at hG6
  have HR := Aside0.mk (hr.below hB1)
  have HB := Aside0.mk hB1
  have HG3 := Aside0.mk hG3
  have HG6 := Aside0.mk hG6
  have HR0 := Aside0.mk hr
  have HH := Aside0.mk h
  clear hr hB1 hG3 hG6 h
  have HLL := Aside0.mk hll
  clear hll
  go_enter Tryd.func15, Tryd.ntmps15
  go_upto_region 1 with (fail)
  generalize (w.alloc (.cells #[.slice A n c, .int .i64 last, .slice E m d] 42)).alloc (.cells #[.slice none 0 0, .int .i64 0, .slice none 0 0] 42) = w1 at *
  have b0 : w1.cell? ⟨w.heap.size, 0, none⟩ = some (.slice A n c) := (blk_cell HG3.out 0).trans rfl
  have b1 : w1.cell? ⟨w.heap.size, 1, none⟩ = some (.int .i64 last) := (blk_cell HG3.out 1).trans rfl
  have b2 : w1.cell? ⟨w.heap.size, 2, none⟩ = some (.slice E m d) := (blk_cell HG3.out 2).trans rfl
  go_upto_region 2 with (go_at_call 25; (with_reducible refine (rlive_any HH.out HR.out last pid).mono ?_); rintro e w2 ⟨rfl, hB⟩; rw [HLL.out]; have HBz := Aside0.mk hB; clear hB b0 b1 b2)
  have HG3b := Aside0.mk (blk_below HG3.out HBz.out)
  have HG6b := Aside0.mk (blk_below HG6.out HBz.out)
  have HBW := Aside0.mk (HB.out.trans (HBz.out.mono HB.out.size))
  have b0 : w2.cell? ⟨w.heap.size, 0, none⟩ = some (.slice A n c) := (blk_cell HG3b.out 0).trans rfl
  have b1 : w2.cell? ⟨w.heap.size, 1, none⟩ = some (.int .i64 last) := (blk_cell HG3b.out 1).trans rfl
  have b2 : w2.cell? ⟨w.heap.size, 2, none⟩ = some (.slice E m d) := (blk_cell HG3b.out 2).trans rfl
  go_wp2_with ((with_reducible refine gate_st 42 4 11 rfl ?_)
               go_loud (refine tab_put rfl 4 11 rfl (w.heap.size + 1) _ A n c last E m d rfl rfl rfl HG6b.out ?_)
               intro w5 hg hbx hoth
               have HX := Aside0.mk hg
               have HB5 := Aside0.mk (HBW.out.trans (hbx w.heap.size (by omega)))
               clear hg hbx hoth b0 b1 b2)
  ((try simp only [Exit.inBlock, Exit.then]); refine bodyPost_ret (results_ctt rfl _ _ _ 42 _ (0, 0) _ rfl HX.out Tryd.underlying42 rfl (by kernel_rfl)) rfl ?_)
  exact ⟨_, _, _, rfl, ⟨rfl, rfl, rfl⟩, HB5.out⟩
set_option maxHeartbeats 8000000 in
set_option maxRecDepth 100000 in
theorem rfork_full (h : Rel f L) (hr : RT w A n c L E m d es) (last pid : Int) (hll : liv f pid = true) (hn : 64 ≤ n) :
    Calls Tryd.prog 15 #[.agg #[.slice A n c, .int .i64 last, .slice E m d], .int .i64 pid] w fun e w' => ForkOut w w' e 0 4 false A n c L last E m d := by
  have hB1 := below_alloc (below_alloc (Below.refl w.heap.size w) (.cells #[.slice A n c, .int .i64 last, .slice E m d] 42)) (.cells #[.slice none 0 0, .int .i64 0, .slice none 0 0] 42)
  have hG3 := blk_below (blk_new w (.cells #[.slice A n c, .int .i64 last, .slice E m d] 42)) (below_alloc (Below.refl _ _) (.cells #[.slice none 0 0, .int .i64 0, .slice none 0 0] 42))
  have hG6 := blk_new (w.alloc (.cells #[.slice A n c, .int .i64 last, .slice E m d] 42)) (.cells #[.slice none 0 0, .int .i64 0, .slice none 0 0] 42)
  rw [show (w.alloc (.cells #[.slice A n c, .int .i64 last, .slice E m d] 42)).heap.size = w.heap.size + 1 by simp] at hG6
  have HR := Aside0.mk (hr.below hB1)
  have HB := Aside0.mk hB1
  have HG3 := Aside0.mk hG3
  have HG6 := Aside0.mk hG6
  have HR0 := Aside0.mk hr
  have HH := Aside0.mk h
  clear hr hB1 hG3 hG6 h
  have HLL := Aside0.mk hll
  clear hll
  have hd : decide ((64 : Int) ≤ (n : Int)) = true := decide_eq_true (by omega)
  go_enter Tryd.func15, Tryd.ntmps15
  go_upto_region 1 with (fail)
  generalize (w.alloc (.cells #[.slice A n c, .int .i64 last, .slice E m d] 42)).alloc (.cells #[.slice none 0 0, .int .i64 0, .slice none 0 0] 42) = w1 at *
  have b0 : w1.cell? ⟨w.heap.size, 0, none⟩ = some (.slice A n c) := (blk_cell HG3.out 0).trans rfl
  have b1 : w1.cell? ⟨w.heap.size, 1, none⟩ = some (.int .i64 last) := (blk_cell HG3.out 1).trans rfl
  have b2 : w1.cell? ⟨w.heap.size, 2, none⟩ = some (.slice E m d) := (blk_cell HG3.out 2).trans rfl
  go_upto_region 3 with (go_at_call 25; (with_reducible refine (rlive_any HH.out HR.out last pid).mono ?_); rintro e w2 ⟨rfl, hB⟩; rw [HLL.out]; have HBz := Aside0.mk hB; clear hB b0 b1 b2)
  have HG3b := Aside0.mk (blk_below HG3.out HBz.out)
  have HG6b := Aside0.mk (blk_below HG6.out HBz.out)
  have HBW := Aside0.mk (HB.out.trans (HBz.out.mono HB.out.size))
  have b0 : w2.cell? ⟨w.heap.size, 0, none⟩ = some (.slice A n c) := (blk_cell HG3b.out 0).trans rfl
  have b1 : w2.cell? ⟨w.heap.size, 1, none⟩ = some (.int .i64 last) := (blk_cell HG3b.out 1).trans rfl
  have b2 : w2.cell? ⟨w.heap.size, 2, none⟩ = some (.slice E m d) := (blk_cell HG3b.out 2).trans rfl
  go_wp2_with ((with_reducible refine gate_st 42 4 16 rfl ?_)
               go_loud (refine tab_put rfl 4 16 rfl (w.heap.size + 1) _ A n c last E m d rfl rfl rfl HG6b.out ?_)
               intro w5 hg hbx hoth
               have HX := Aside0.mk hg
               have HB5 := Aside0.mk (HBW.out.trans (hbx w.heap.size (by omega)))
               clear hg hbx hoth b0 b1 b2)
  ((try simp only [Exit.inBlock, Exit.then]); refine bodyPost_ret (results_ctt rfl _ _ _ 42 _ (0, 0) _ rfl HX.out Tryd.underlying42 rfl (by kernel_rfl)) rfl ?_)
  exact ⟨_, _, _, rfl, ⟨rfl, rfl, rfl⟩, HB5.out⟩
set_option maxHeartbeats 8000000 in
set_option maxRecDepth 100000 in
theorem rfork_yes (h : Rel f L) (hr : RT w A n c L E m d es) (last pid : Int) (r : Pr) (hf : f pid = some r) (hlv : r.live = true) (hn : n < 64) (h0 : 0 ≤ last) (h1 : last ≤ 1000000) :
    Calls Tryd.prog 15 #[.agg #[.slice A n c, .int .i64 last, .slice E m d], .int .i64 pid] w fun e w' => ForkOut w w' e (last + 1) 0 true A n c (L ++ [mkS (last + 1) ⟨pid, true, 0, r.ign, 0, 0⟩]) (last + 1) E m d := by
  have hll : liv f pid = true := by unfold liv; rw [hf]; exact hlv
  obtain ⟨i, hi, ei, hat⟩ := rat_some h hf
  have hB1 := below_alloc (below_alloc (Below.refl w.heap.size w) (.cells #[.slice A n c, .int .i64 last, .slice E m d] 42)) (.cells #[.slice none 0 0, .int .i64 0, .slice none 0 0] 42)
  have hG3 := blk_below (blk_new w (.cells #[.slice A n c, .int .i64 last, .slice E m d] 42)) (below_alloc (Below.refl _ _) (.cells #[.slice none 0 0, .int .i64 0, .slice none 0 0] 42))
  have hG6 := blk_new (w.alloc (.cells #[.slice A n c, .int .i64 last, .slice E m d] 42)) (.cells #[.slice none 0 0, .int .i64 0, .slice none 0 0] 42)
  rw [show (w.alloc (.cells #[.slice A n c, .int .i64 last, .slice E m d] 42)).heap.size = w.heap.size + 1 by simp] at hG6
  have HR := Aside0.mk (hr.below hB1)
  have HB := Aside0.mk hB1
  have HG3 := Aside0.mk hG3
  have HG6 := Aside0.mk hG6
  have HR0 := Aside0.mk hr
  have HH := Aside0.mk h
  clear hr hB1 hG3 hG6 h
  have HLL := Aside0.mk hll
  have HAT := Aside0.mk hat
  obtain ⟨ad, rfl, k0, k1, k2, k3, k4, k5, k6⟩ := at_S HR0.out.row i hi ei
  have HK := Aside0.mk k4
  have hin : i < n := by have := HR.out.row.1; omega
  have hi0 : (0 : Int) ≤ (i : Int) := by omega
  have hi1 : (i : Int) < (n : Int) := by omega
  have hd : decide ((64 : Int) ≤ (n : Int)) = false := decide_eq_false (by omega)
  have hw : wrap64 (last + 1) = last + 1 := by unfold wrap64; omega
  clear hll hat hf hlv ei k0 k1 k2 k3 k4 k5 k6
  go_enter Tryd.func15, Tryd.ntmps15
  go_upto_region 1 with (fail)
  generalize (w.alloc (.cells #[.slice (some ad) n c, .int .i64 last, .slice E m d] 42)).alloc (.cells #[.slice none 0 0, .int .i64 0, .slice none 0 0] 42) = w1 at *
  have b0 : w1.cell? ⟨w.heap.size, 0, none⟩ = some (.slice (some ad) n c) := (blk_cell HG3.out 0).trans rfl
  have b1 : w1.cell? ⟨w.heap.size, 1, none⟩ = some (.int .i64 last) := (blk_cell HG3.out 1).trans rfl
  have b2 : w1.cell? ⟨w.heap.size, 2, none⟩ = some (.slice E m d) := (blk_cell HG3.out 2).trans rfl
  go_upto_region 3 with (go_at_call 25; (with_reducible refine (rlive_any HH.out HR.out last pid).mono ?_); rintro e w2 ⟨rfl, hB⟩; rw [HLL.out]; have HB2 := Aside0.mk hB; clear hB b0 b1 b2)
  have HG3b := Aside0.mk (blk_below HG3.out HB2.out)
  have HG6b := Aside0.mk (blk_below HG6.out HB2.out)
  have HR0b := Aside0.mk (HR0.out.below (HB.out.trans (HB2.out.mono HB.out.size)))
  have b0 : w2.cell? ⟨w.heap.size, 0, none⟩ = some (.slice (some ad) n c) := (blk_cell HG3b.out 0).trans rfl
  have b1 : w2.cell? ⟨w.heap.size, 1, none⟩ = some (.int .i64 last) := (blk_cell HG3b.out 1).trans rfl
  have f1 := blk_frozen HG3b.out 1
  go_upto_region 6 with (fail)
  clear b0 b1 f1
  have hg6 := blk_lt HG6.out
  have HG3c := Aside0.mk (blk_put HG3b.out 1 (.int .i64 (last + 1)) rfl)
  have HG6c := Aside0.mk (blk_far HG6b.out (show w.heap.size + 1 ≠ (⟨w.heap.size, 1, none⟩ : Addr).block by show w.heap.size + 1 ≠ w.heap.size; omega) (.int .i64 (last + 1)))
  have HB3 := Aside0.mk ((HB.out.trans (HB2.out.mono HB.out.size)).setCell (p := ⟨w.heap.size, 1, none⟩) (Nat.le_refl _) (.int .i64 (last + 1)))
  generalize w2.setCell ⟨w.heap.size, 1, none⟩ (.int .i64 (last + 1)) = w3 at *
  have HR3 := Aside0.mk (HR0.out.below HB3.out)
  have b0 : w3.cell? ⟨w.heap.size, 0, none⟩ = some (.slice (some ad) n c) := (blk_cell HG3c.out 0).trans rfl
  have b1 : w3.cell? ⟨w.heap.size, 1, none⟩ = some (.int .i64 (last + 1)) := (blk_cell HG3c.out 1).trans rfl
  have b2 : w3.cell? ⟨w.heap.size, 2, none⟩ = some (.slice E m d) := (blk_cell HG3c.out 2).trans rfl
  refine region_seq (fun w_ => Below w3.heap.size w3 w_) [19]
    [(1, some 22, .pure), (4, some 25, .pure), (6, some 27, .pure), (7, some 28, .pure), (10, some 31, .pure), (2, some 23, .held), (5, some 26, .held), (8, some 29, .held), (9, some 30, .held), (0, some 21, .one), (3, some 24, .one), (11, some 32, .one), (12, some 33, .pure), (13, some 34, .pure), (14, some 35, .held), (15, some 36, .pure), (16, some 37, .one), (17, some 38, .one), (18, some 39, .pure), (19, none, .last)] (by kernel_rfl) (by kernel_rfl) ?_
  have hS := below_drew (Below.refl w3.heap.size w3)
  repeat (first
    | (refine s_pure (v := ?_) (a' := ?_) rfl (fun _ _ _ h => h) rfl ?hy ?ha ?_; (case hy => (intro w_; go_simp; with_reducible rfl)); (case ha => (simp only [Act.put, List.setIfInBounds_toArray, List.set_cons_zero, List.set_cons_succ, i64_w, i32_w]; rfl)))
    | (refine s_held (v := ?_) (a' := ?_) hS rfl (fun _ _ _ h => h) rfl ?hy ?ha ?_; (case hy => (intro w_ hb_; have s0 := pw_cell_below hb_ b0; have s1 := pw_cell_below hb_ b1; have s2 := pw_cell_below hb_ b2; go_simp; with_reducible rfl)); (case ha => (simp only [Act.put, List.setIfInBounds_toArray, List.set_cons_zero, List.set_cons_succ, i64_w, i32_w]; rfl))))
  clear b0 b1 b2
  (refine s_new (v := ?_) (w1 := ?_) (a' := ?_) rfl rfl rfl ?hy ?ha ?hS ?_; (case hy => (go_simp; first | with_reducible rfl | (refine ⟨?_, ?_⟩ <;> with_reducible rfl))); (case ha => (simp only [Act.put, List.setIfInBounds_toArray, List.set_cons_zero, List.set_cons_succ, i64_w, i32_w]; rfl)); (case hS => (repeat (first | exact hS | exact Below.refl _ _ | refine below_drew ?_ | refine below_alloc ?_ _))))
  have HE := Aside0.mk (show k77.R 77 (w3.alloc (.cells #[] 77)).drew w3.heap.size ok0 (.slice (some ⟨w3.heap.size, 0, none⟩) 0 0) [] from R_empty (blk_new w3 _) (Nat.le_refl _))
  have hS1 := below_drew (below_alloc (Below.refl w3.heap.size w3) (.cells #[] 77))
  clear hS
  have hS := hS1
  clear hS1
  generalize (w3.alloc (.cells #[] 77)).drew = wu at *
  have hnl : L.length = n := HR3.out.row.1
  refine s_oneL rfl (fun K hK => ?_) rfl
  go_wp2_with ((with_reducible refine gate_dst (N := 24) rfl ?_)
               go_loud (refine app_S w3.heap.size (N := 24) (w0 := w3) (W := wu) rfl rfl (.tmp 21) (.tmp 23) rfl (.slice (some ⟨w3.heap.size, 0, none⟩) 0 0) [] L (some ad) n c rfl rfl HE.out (Kd.C_below HR3.out.row hS) hS hS.size (by simp; omega) ?_)
               intro A1 n1 cp1 w9 hR hB hG
               have HR8 := Aside0.mk hR
               have HS8 := Aside0.mk hB
               clear hR hB hG)
  refine hK _ _ HS8.out ?_
  clear hK hS
  have hS := HS8.out
  refine s_oneL rfl (fun K hK => ?_) rfl
  go_wp2_with (go_at_call 47; (with_reducible refine (HAT.out _ (some ad) E n c m d es (last + 1) (HR3.out.below hS)).mono ?_); rintro e w10 ⟨rfl, hB⟩)
  have hS2 : Below w3.heap.size w3 w10 := hS.trans (below_sub hB hS.size)
  have HR10 := Aside0.mk (Kd.R_below HR8.out hB)
  clear hB
  refine hK _ _ hS2 ?_
  clear hK hS
  have hS := hS2
  clear hS2
  have k4 := pw_cell_below HB3.out HK.out
  repeat (first
    | (refine s_pure (v := ?_) (a' := ?_) rfl (fun _ _ _ h => h) rfl ?hy ?ha ?_; (case hy => (intro w_; go_simp; with_reducible rfl)); (case ha => (simp only [Act.put, List.setIfInBounds_toArray, List.set_cons_zero, List.set_cons_succ, i64_w, i32_w]; rfl)))
    | (refine s_held (v := ?_) (a' := ?_) hS rfl (fun _ _ _ h => h) rfl ?hy ?ha ?_; (case hy => (intro w_ hb_; have s0 := pw_cell_below hb_ k4; go_simp; with_reducible rfl)); (case ha => (simp only [Act.put, List.setIfInBounds_toArray, List.set_cons_zero, List.set_cons_succ, i64_w, i32_w]; rfl))))
  clear k4
  (refine s_new (v := ?_) (w1 := ?_) (a' := ?_) rfl rfl rfl ?hy ?ha ?hS ?_; (case hy => (go_simp; first | with_reducible rfl | (refine ⟨?_, ?_⟩ <;> with_reducible rfl))); (case ha => (simp only [Act.put, List.setIfInBounds_toArray, List.set_cons_zero, List.set_cons_succ, i64_w, i32_w]; rfl)); (case hS => (repeat (first | exact hS | exact Below.refl _ _ | refine below_drew ?_ | refine below_alloc ?_ _))))
  have HX16 := Aside0.mk (blk_new w10 (.cells (prc (last + 1) ⟨pid, true, 0, r.ign, 0, 0⟩) 77))
  have hal := below_alloc (Below.refl w10.heap.size w10) (.cells (prc (last + 1) ⟨pid, true, 0, r.ign, 0, 0⟩) 77)
  have HR11 := Aside0.mk (Kd.R_below HR10.out hal)
  have hS1 := hS.trans (below_sub hal hS.size)
  clear hS hal
  have hS := hS1
  clear hS1
  generalize w10.alloc (.cells (prc (last + 1) ⟨pid, true, 0, r.ign, 0, 0⟩) 77) = w11 at *
  generalize w10.heap.size = g16 at *
  refine s_oneL rfl (fun K hK => ?_) rfl
  go_wp2_with ((with_reducible refine gate_dst (N := 38) rfl ?_)
               go_loud (refine app_S w3.heap.size (N := 38) (w0 := w3) (W := w11) rfl rfl (.tmp 24) (.tmp 37) rfl (.slice A1 n1 cp1) ([] ++ L) [mkS (last + 1) ⟨pid, true, 0, r.ign, 0, 0⟩] (some ⟨g16, 0, none⟩) 1 1 rfl rfl HR11.out (one_S HX16.out) hS hS.size (by simp; omega) ?_)
               intro A2 n2 cp2 w12 hR hB hG
               have HR12 := Aside0.mk hR
               have HS12 := Aside0.mk hB
               clear hR hB hG)
  refine hK _ _ HS12.out ?_
  clear hK hS
  have hS := HS12.out
  repeat (first
    | (refine s_pure (v := ?_) (a' := ?_) rfl (fun _ _ _ h => h) rfl ?hy ?ha ?_; (case hy => (intro w_; go_simp; with_reducible rfl)); (case ha => (simp only [Act.put, List.setIfInBounds_toArray, List.set_cons_zero, List.set_cons_succ, i64_w, i32_w]; rfl)))
    | (refine s_held (v := ?_) (a' := ?_) hS rfl (fun _ _ _ h => h) rfl ?hy ?ha ?_; (case hy => (intro w_ hb_; go_simp; with_reducible rfl)); (case ha => (simp only [Act.put, List.setIfInBounds_toArray, List.set_cons_zero, List.set_cons_succ, i64_w, i32_w]; rfl))))
  refine s_tail 19 _ (by kernel_rfl) ?_
  simp only [List.drop_succ_cons, List.drop_zero]
  clear hS
  have HG3d := Aside0.mk (blk_below HG3c.out HS12.out)
  have HG6d := Aside0.mk (blk_below HG6c.out HS12.out)
  have c0 : w12.cell? ⟨w.heap.size, 0, none⟩ = some (.slice (some ad) n c) := (blk_cell HG3d.out 0).trans rfl
  have f0 := blk_frozen HG3d.out 0
  go_upto_region 7 with (fail)
  have HR4 := Aside0.mk (Kd.R_set HR12.out HG3d.out (by decide) 0 (.slice A2 n2 cp2))
  have HG3e := Aside0.mk (blk_put HG3d.out 0 (.slice A2 n2 cp2) rfl)
  have HG6e := Aside0.mk (blk_far HG6d.out (show w.heap.size + 1 ≠ (⟨w.heap.size, 0, none⟩ : Addr).block by show w.heap.size + 1 ≠ w.heap.size; omega) (.slice A2 n2 cp2))
  have HB4 := Aside0.mk ((HB3.out.trans (HS12.out.mono HB3.out.size)).setCell (p := ⟨w.heap.size, 0, none⟩) (Nat.le_refl _) (.slice A2 n2 cp2))
  clear c0 f0
  generalize w12.setCell ⟨w.heap.size, 0, none⟩ (.slice A2 n2 cp2) = w13 at *
  have c0 : w13.cell? ⟨w.heap.size, 0, none⟩ = some (.slice A2 n2 cp2) := (blk_cell HG3e.out 0).trans rfl
  have c1 : w13.cell? ⟨w.heap.size, 1, none⟩ = some (.int .i64 (last + 1)) := (blk_cell HG3e.out 1).trans rfl
  have c2 : w13.cell? ⟨w.heap.size, 2, none⟩ = some (.slice E m d) := (blk_cell HG3e.out 2).trans rfl
  have hlt : w.heap.size < w.heap.size + 1 := by omega
  refine region_seq (fun w_ => Below (w.heap.size + 1) w13 w_) [] [(1, some 41, .pure), (0, some 40, .held), (2, some 42, .held), (3, none, .one), (4, some 5, .pure), (5, some 6, .pure)] (by kernel_rfl) (by kernel_rfl) ?_
  have hS : Below (w.heap.size + 1) w13 w13.drew := (Below.refl _ w13).drew
  repeat (first
    | (refine s_pure (v := ?_) (a' := ?_) rfl (fun _ _ _ h => h) rfl ?hy ?ha ?_; (case hy => (intro w_; go_simp; with_reducible rfl)); (case ha => (simp only [Act.put, List.setIfInBounds_toArray, List.set_cons_zero, List.set_cons_succ, i64_w, i32_w]; rfl)))
    | (refine s_held (v := ?_) (a' := ?_) hS rfl (fun _ _ _ h => h) rfl ?hy ?ha ?_; (case hy => (intro w_ hb_; have s0 := (Below.cell hb_ hlt).trans c0; have s1 := (Below.cell hb_ hlt).trans c1; have s2 := (Below.cell hb_ hlt).trans c2; go_simp; with_reducible rfl)); (case ha => (simp only [Act.put, List.setIfInBounds_toArray, List.set_cons_zero, List.set_cons_succ, i64_w, i32_w]; rfl))))
  clear c0 c1 c2
  have HR5 := Aside0.mk (Kd.R_bound (Kd.R_below HR4.out (below_drew (Below.refl w13.heap.size w13))))
  have HG6f := Aside0.mk (blk_below HG6e.out (below_drew (Below.refl w13.heap.size w13)))
  refine s_oneL rfl (fun K hK => ?_) rfl
  go_wp2_with ((with_reducible refine gate_st 42 4 40 rfl ?_)
               go_loud (refine tab_put rfl 4 40 rfl (w.heap.size + 1) _ A2 n2 cp2 (last + 1) E m d rfl rfl rfl HG6f.out ?_)
               intro w14 hg hbx hoth)
  have HX := Aside0.mk hg
  have hS2 : Below (w.heap.size + 1) w13 w14 := hS.trans (hbx _ (Nat.le_refl _))
  have HR6 := Aside0.mk (Kd.R_lower (base' := w.heap.size) (Kd.R_mono (ok' := ok0) (Kd.R_step HR5.out (fun k ho _ => hoth k (by have := ho.2.1; have := blk_lt HG6c.out; omega))) (fun _ _ => trivial)) HB3.out.size)
  clear hg hbx hoth
  refine hK _ _ hS2 ?_
  clear hK hS
  have HB6 := Aside0.mk (HB4.out.trans (below_sub hS2 (by omega)))
  clear hS2
  repeat (first
    | (refine s_pure (v := ?_) (a' := ?_) rfl (fun _ _ _ h => h) rfl ?hy ?ha ?_; (case hy => (intro w_; go_simp; with_reducible rfl)); (case ha => (simp only [Act.put, List.setIfInBounds_toArray, List.set_cons_zero, List.set_cons_succ, i64_w, i32_w]; rfl)))
    | (refine s_held (v := ?_) (a' := ?_) hS rfl (fun _ _ _ h => h) rfl ?hy ?ha ?_; (case hy => (intro w_ hb_; go_simp; with_reducible rfl)); (case ha => (simp only [Act.put, List.setIfInBounds_toArray, List.set_cons_zero, List.set_cons_succ, i64_w, i32_w]; rfl))))
  refine s_tailL _ (by kernel_rfl) ?_
  simp only [opsAt, List.filterMap_nil]
  go_wp2
  ((try simp only [Exit.inBlock, Exit.then]); refine bodyPost_ret (results_ctt rfl _ _ _ 42 _ (0, 0) _ rfl HX.out Tryd.underlying42 rfl (by kernel_rfl)) rfl ?_)
  exact ⟨A2, n2, cp2, rfl, by rw [if_pos rfl]; exact HR6.out, HB6.out⟩
end
end Go.Proofs.YtbgodajbdbgdfaaDoor.Kern
/- kern: the document's Exit: its contract. -/
namespace Go.Proofs.YtbgodajbdbgdfaaDoor.Kern
open Go.RowKit Go.Proofs.YtbgodajbdbgdfaaDoorW.PrintWords Go.Proofs.YtbgodajbdbgdfaaDoorW.PrintLast Go.Proofs.YtbgodajbdbgdfaaDoor.Sig Go.Proofs.YtbgodajbdbgdfaaDoor.Base Go.Proofs.YtbgodajbdbgdfaaDoor.Seq Go.Proofs.YtbgodajbdbgdfaaDoor.V Go.Maps
set_option linter.unusedVariables false
set_option linter.unusedSimpArgs false
theorem kand255 (n : Int) : bits .and .i64 n 255 = n % 256 := by
  have e : (BitVec.ofInt 64 255).toNat = 255 := by decide
  have h : (BitVec.ofInt 64 n &&& BitVec.ofInt 64 255).toNat = (n % 18446744073709551616).toNat % 256 := by
    rw [BitVec.toNat_and, e, BitVec.toNat_ofInt]
    exact Nat.and_two_pow_sub_one_eq_mod _ 8
  show IntKind.i64.wrap ((BitVec.ofInt 64 n &&& BitVec.ofInt 64 255).toNat : Int) = n % 256
  rw [h, IntKind.wrap_i64]
  omega
theorem tmod256 (st : Int) : (wrap64 (st.tmod 256 + 256)).tmod 256 = bits .and .i64 st 255 := by
  rw [kand255]
  have h : st.tmod 256 + 256 = st % 256 + 256 ∨ st.tmod 256 + 256 = st % 256 := by
    obtain ⟨k, rfl | rfl⟩ := Int.eq_nat_or_neg st
    · left; rw [Int.tmod_eq_emod_of_nonneg (by omega)]
    · rw [Int.neg_tmod, Int.tmod_eq_emod_of_nonneg (by omega)]; omega
  generalize st.tmod 256 + 256 = y at *
  rw [wr64 y (by omega) (by omega), Int.tmod_eq_emod_of_nonneg (by omega)]
  omega
/-- Exit's answer. -/
def ExitOut (w w' : World) (e : Ending) (b : Bool) (A0 : Option Addr) (n0 c0 : Nat) (L : List S) (last : Int) (E0 : Option Addr) (m0 d0 : Nat) (es : List SE) : Prop := ∃ (A : Option Addr) (n c : Nat) (E : Option Addr) (m d : Nat), e = .returned (.tuple #[.agg #[.slice A n c, .int .i64 last, .slice E m d], .bool b]) ∧ (if b = true then k77.R 77 w' w.heap.size ok0 (.slice A n c) L ∧ k73.R 73 w' w.heap.size ok0 (.slice E m d) es else (A = A0 ∧ n = n0 ∧ c = c0) ∧ E = E0 ∧ m = m0 ∧ d = d0) ∧ Below w.heap.size w w'
section
variable {ops : Array Oper} {rest : List Oper} {o : Oper} {a : Act} {Q : Exit → Act → World → Prop}
theorem app_E {w0 W : World} (base : Nat) {N : Tmp} (hd : o.dst = some N) (hgd : o.guard = none) (s x : Operand) (ho : o.op = .call { callee := .builtin .append, args := #[s, x], argTypes := #[34, 34] })
    (v : Value) (xs ys : List SE) (A : Option Addr) (m c : Nat) (hs : a.eval s = v) (hx : a.eval x = .slice A m c)
    (HO : k73.R 73 W base ok0 v xs) (HR : Kd.C k73 W A m ys) (HB : Below base w0 W) (hbase : base ≤ W.heap.size) (hl : xs.length + m ≤ 100000000000)
    (h : ∀ A1 n1 cp1 w1, k73.R 73 w1 base ok0 (.slice A1 n1 cp1) (xs ++ ys) → Below base w0 w1 → W.grownBy w1 v.ownBlock → wpList Tryd.prog ops Q rest (a.put (some N) (.slice A1 n1 cp1)) w1) :
    wpList Tryd.prog ops Q (o :: rest) a W := by
  refine R_app k73 flat_SE base (N := N) (w0 := w0) (W := W) hd hgd s x 34 73 (.agg #[Value.int .i64 0, .int .i64 0]) 16 ho Tryd.underlying34 (by kernel_rfl) rfl (by decide) (by decide) v xs ys A m c hs hx HO HR HB hbase (by omega) ?_
  intro v1 w1 hR hB hG
  obtain ⟨A1, n1, cp1, rfl⟩ := R_slice3 hR
  rw [hd]
  exact h A1 n1 cp1 w1 hR hB hG
end
/-- The round's box: a process. -/
structure Bx (wr W : World) (q : Int) (r : Pr) : Prop where
  g : W.heap[wr.heap.size]? = some (.cells (prc q r) 77 (0, 0))
  bel : Below wr.heap.size wr W
theorem bx_below {wr W W' : World} {q : Int} {r : Pr} (h : Bx wr W q r) (hb : Below W.heap.size W W') : Bx wr W' q r := ⟨blk_below h.g hb, h.bel.trans (hb.mono h.bel.size)⟩
theorem bx_set {wr W : World} {q : Int} {r : Pr} (h : Bx wr W q r) (j : Nat) (u : Value) (r' : Pr) (e : (prc q r).setIfInBounds j u = prc q r') : Bx wr (W.setCell ⟨wr.heap.size, j, none⟩ u) q r' := ⟨by rw [← e]; exact blk_put h.g j u rfl, h.bel.setCell (p := ⟨wr.heap.size, j, none⟩) (Nat.le_refl _) u⟩
theorem bx_new (wr : World) (q : Int) (r : Pr) : Bx wr (wr.alloc (.cells (prc q r) 77)) q r := ⟨blk_new wr _, below_alloc (Below.refl _ _) _⟩
section
variable {w : World} {A E : Option Addr} {n c m d : Nat} {f : Tb} {L : List S} {es : List SE}
theorem one_E {w : World} {g : Nat} {p q : Int} (hg : w.heap[g]? = some (.cells #[.int .i64 p, .int .i64 q] 73 (0, 0))) : Kd.C k73 w (some ⟨g, 0, none⟩) 1 [⟨p, q⟩] := C_one hg ⟨[.int .i64 p], [.int .i64 q], rfl, rfl, rfl⟩
set_option maxHeartbeats 8000000 in
set_option maxRecDepth 100000 in
theorem rexit_nolive (h : Rel f L) (hr : RT w A n c L E m d es) (last pid st : Int) (hll : liv f pid = false) :
    Calls Tryd.prog 18 #[.agg #[.slice A n c, .int .i64 last, .slice E m d], .int .i64 pid, .int .i64 st] w fun e w' => ExitOut w w' e false A n c L last E m d es := by
  have hB1 := below_alloc (below_alloc (Below.refl w.heap.size w) (.cells #[.slice A n c, .int .i64 last, .slice E m d] 42)) (.cells #[.slice none 0 0, .int .i64 0, .slice none 0 0] 42)
  have hG3 := blk_below (blk_new w (.cells #[.slice A n c, .int .i64 last, .slice E m d] 42)) (below_alloc (Below.refl _ _) (.cells #[.slice none 0 0, .int .i64 0, .slice none 0 0] 42))
  have hG6 := blk_new (w.alloc (.cells #[.slice A n c, .int .i64 last, .slice E m d] 42)) (.cells #[.slice none 0 0, .int .i64 0, .slice none 0 0] 42)
  rw [show (w.alloc (.cells #[.slice A n c, .int .i64 last, .slice E m d] 42)).heap.size = w.heap.size + 1 by simp] at hG6
  have HR := Aside0.mk (hr.below hB1)
  have HB := Aside0.mk hB1
  have HG3 := Aside0.mk hG3
  have HG6 := Aside0.mk hG6
  have HR0 := Aside0.mk hr
  have HH := Aside0.mk h
  clear hr hB1 hG3 hG6 h
  have HLL := Aside0.mk hll
  clear hll
  go_enter Tryd.func18, Tryd.ntmps18
  go_upto_region 1 with (fail)
  generalize (w.alloc (.cells #[.slice A n c, .int .i64 last, .slice E m d] 42)).alloc (.cells #[.slice none 0 0, .int .i64 0, .slice none 0 0] 42) = w1 at *
  have b0 : w1.cell? ⟨w.heap.size, 0, none⟩ = some (.slice A n c) := (blk_cell HG3.out 0).trans rfl
  have b1 : w1.cell? ⟨w.heap.size, 1, none⟩ = some (.int .i64 last) := (blk_cell HG3.out 1).trans rfl
  have b2 : w1.cell? ⟨w.heap.size, 2, none⟩ = some (.slice E m d) := (blk_cell HG3.out 2).trans rfl
  go_upto_region 2 with (go_at_call 25; (with_reducible refine (rlive_any HH.out HR.out last pid).mono ?_); rintro e w2 ⟨rfl, hB⟩; rw [HLL.out]; have HBz := Aside0.mk hB; clear hB b0 b1 b2)
  have HG3b := Aside0.mk (blk_below HG3.out HBz.out)
  have HG6b := Aside0.mk (blk_below HG6.out HBz.out)
  have HBW := Aside0.mk (HB.out.trans (HBz.out.mono HB.out.size))
  have b0 : w2.cell? ⟨w.heap.size, 0, none⟩ = some (.slice A n c) := (blk_cell HG3b.out 0).trans rfl
  have b1 : w2.cell? ⟨w.heap.size, 1, none⟩ = some (.int .i64 last) := (blk_cell HG3b.out 1).trans rfl
  have b2 : w2.cell? ⟨w.heap.size, 2, none⟩ = some (.slice E m d) := (blk_cell HG3b.out 2).trans rfl
  go_wp2_with ((with_reducible refine gate_st 42 6 16 rfl ?_)
               go_loud (refine tab_put rfl 6 16 rfl (w.heap.size + 1) _ A n c last E m d rfl rfl rfl HG6b.out ?_)
               intro w5 hg hbx hoth
               have HX := Aside0.mk hg
               have HB5 := Aside0.mk (HBW.out.trans (hbx w.heap.size (by omega)))
               clear hg hbx hoth b0 b1 b2)
  ((try simp only [Exit.inBlock, Exit.then]); refine bodyPost_ret (results_ct rfl _ _ _ 42 _ (0, 0) _ rfl HX.out Tryd.underlying42 rfl (by kernel_rfl)) rfl ?_)
  exact ⟨_, _, _, _, _, _, rfl, ⟨⟨rfl, rfl, rfl⟩, rfl, rfl, rfl⟩, HB5.out⟩
set_option maxHeartbeats 8000000 in
set_option maxRecDepth 100000 in
theorem rexit_yes (h : Rel f L) (hr : RT w A n c L E m d es) (last pid st : Int) (r : Pr) (hf : f pid = some r) (hlv : r.live = true) (hst0 : -9223372036854775808 ≤ st) (hst1 : st ≤ 9223372036854775807) (hel : es.length ≤ 1000000) :
    Calls Tryd.prog 18 #[.agg #[.slice A n c, .int .i64 last, .slice E m d], .int .i64 pid, .int .i64 st] w fun e w' => ExitOut w w' e true A n c (stepL (endP pid (bits .and .i64 st 255) (liv f r.par)) L) last E m d (es ++ [⟨pid, bits .and .i64 st 255⟩]) := by
  have hll : liv f pid = true := by unfold liv; rw [hf]; exact hlv
  obtain ⟨i, hi, ei, hat⟩ := rat_some h hf
  have hfew := h.few
  have hget : ∀ k (hk : k < L.length), ∃ q r, L[k] = mkS q r ∧ (q = pid ↔ k = i) := by
    intro k hk
    obtain ⟨r', _, e'⟩ := rel_get h k hk
    refine ⟨_, r', e', ?_⟩
    constructor
    · intro hq
      rcases Nat.lt_trichotomy k i with hlt | hlt | hlt
      · have := rel_lt h hi hlt
        rw [hq, ei] at this
        exact absurd this (Int.lt_irrefl _)
      · exact hlt
      · have := rel_lt h hk hlt
        rw [hq, ei] at this
        exact absurd this (Int.lt_irrefl _)
    · rintro rfl
      rw [ei]; rfl
  have hB1 := below_alloc (below_alloc (Below.refl w.heap.size w) (.cells #[.slice A n c, .int .i64 last, .slice E m d] 42)) (.cells #[.slice none 0 0, .int .i64 0, .slice none 0 0] 42)
  have hG3 := blk_below (blk_new w (.cells #[.slice A n c, .int .i64 last, .slice E m d] 42)) (below_alloc (Below.refl _ _) (.cells #[.slice none 0 0, .int .i64 0, .slice none 0 0] 42))
  have hG6 := blk_new (w.alloc (.cells #[.slice A n c, .int .i64 last, .slice E m d] 42)) (.cells #[.slice none 0 0, .int .i64 0, .slice none 0 0] 42)
  rw [show (w.alloc (.cells #[.slice A n c, .int .i64 last, .slice E m d] 42)).heap.size = w.heap.size + 1 by simp] at hG6
  have HR := Aside0.mk (hr.below hB1)
  have HB := Aside0.mk hB1
  have HG3 := Aside0.mk hG3
  have HG6 := Aside0.mk hG6
  have HR0 := Aside0.mk hr
  have HH := Aside0.mk h
  clear hr hB1 hG3 hG6 h
  have HLL := Aside0.mk hll
  have HGET := Aside0.mk hget
  have HEI := Aside0.mk ei
  have HAT := Aside0.mk hat
  have HEL := Aside0.mk hel
  have hnl : L.length = n := HR.out.row.1
  obtain ⟨ad, rfl, k0, k1, k2, k3, k4, k5, k6⟩ := at_S HR0.out.row i hi ei
  have HK := Aside0.mk k1
  have hin : i < n := by omega
  have hi0 : (0 : Int) ≤ (i : Int) := by omega
  have hi1 : (i : Int) < (n : Int) := by omega
  obtain ⟨st2, hst2⟩ : ∃ st2, st2 = bits .and .i64 st 255 := ⟨_, rfl⟩
  rw [← hst2]
  have HS2 := Aside0.mk hst2
  obtain ⟨bb, hbb⟩ : ∃ bb, bb = liv f r.par := ⟨_, rfl⟩
  rw [← hbb]
  have HBBL := Aside0.mk hbb.symm
  clear hbb
  clear hll hget hf hlv ei hat hel k0 k1 k2 k3 k4 k5 k6 hst2
  go_enter Tryd.func18, Tryd.ntmps18
  go_upto_region 1 with (fail)
  generalize (w.alloc (.cells #[.slice (some ad) n c, .int .i64 last, .slice E m d] 42)).alloc (.cells #[.slice none 0 0, .int .i64 0, .slice none 0 0] 42) = w1 at *
  have b0 : w1.cell? ⟨w.heap.size, 0, none⟩ = some (.slice (some ad) n c) := (blk_cell HG3.out 0).trans rfl
  have b1 : w1.cell? ⟨w.heap.size, 1, none⟩ = some (.int .i64 last) := (blk_cell HG3.out 1).trans rfl
  have b2 : w1.cell? ⟨w.heap.size, 2, none⟩ = some (.slice E m d) := (blk_cell HG3.out 2).trans rfl
  go_upto_region 4 with (go_at_call 25; (with_reducible refine (rlive_any HH.out HR.out last pid).mono ?_); rintro e w2 ⟨rfl, hB⟩; rw [HLL.out]; have HB2 := Aside0.mk hB; clear hB b0 b1 b2)
  rw [tmod256 st, ← HS2.out]
  have HG3b := Aside0.mk (blk_below HG3.out HB2.out)
  have HG6b := Aside0.mk (blk_below HG6.out HB2.out)
  have HB3 := Aside0.mk (HB.out.trans (HB2.out.mono HB.out.size))
  have HR3 := Aside0.mk (HR0.out.below HB3.out)
  have b0 : w2.cell? ⟨w.heap.size, 0, none⟩ = some (.slice (some ad) n c) := (blk_cell HG3b.out 0).trans rfl
  have b1 : w2.cell? ⟨w.heap.size, 1, none⟩ = some (.int .i64 last) := (blk_cell HG3b.out 1).trans rfl
  have b2 : w2.cell? ⟨w.heap.size, 2, none⟩ = some (.slice E m d) := (blk_cell HG3b.out 2).trans rfl
  have k1 := pw_cell_below HB3.out HK.out
  refine region_seq (fun w_ => Below w2.heap.size w2 w_) []
    [(0, some 21, .pure), (3, some 24, .pure), (1, some 22, .held), (2, some 23, .held), (4, some 25, .one), (5, some 26, .pure), (6, some 27, .pure), (7, some 28, .held), (8, some 8, .pure)] (by kernel_rfl) (by kernel_rfl) ?_
  have hS := below_drew (Below.refl w2.heap.size w2)
  repeat (first
    | (refine s_pure (v := ?_) (a' := ?_) rfl (fun _ _ _ h => h) rfl ?hy ?ha ?_; (case hy => (intro w_; go_simp; with_reducible rfl)); (case ha => (simp only [Act.put, List.setIfInBounds_toArray, List.set_cons_zero, List.set_cons_succ, i64_w, i32_w]; rfl)))
    | (refine s_held (v := ?_) (a' := ?_) hS rfl (fun _ _ _ h => h) rfl ?hy ?ha ?_; (case hy => (intro w_ hb_; have s0 := pw_cell_below hb_ b0; have s1 := pw_cell_below hb_ b1; have s2 := pw_cell_below hb_ b2; go_simp; with_reducible rfl)); (case ha => (simp only [Act.put, List.setIfInBounds_toArray, List.set_cons_zero, List.set_cons_succ, i64_w, i32_w]; rfl))))
  clear b0 b1 b2
  refine s_oneL rfl (fun K hK => ?_) rfl
  go_wp2_with (go_at_call 47; (with_reducible refine (HAT.out _ (some ad) E n c m d es last (HR3.out.below hS)).mono ?_); rintro e w3 ⟨rfl, hB⟩)
  have hS2 : Below w2.heap.size w2 w3 := hS.trans (below_sub hB hS.size)
  clear hB
  refine hK _ _ hS2 ?_
  clear hK hS
  have hS := hS2
  clear hS2
  repeat (first
    | (refine s_pure (v := ?_) (a' := ?_) rfl (fun _ _ _ h => h) rfl ?hy ?ha ?_; (case hy => (intro w_; go_simp; with_reducible rfl)); (case ha => (simp only [Act.put, List.setIfInBounds_toArray, List.set_cons_zero, List.set_cons_succ, i64_w, i32_w]; rfl)))
    | (refine s_held (v := ?_) (a' := ?_) hS rfl (fun _ _ _ h => h) rfl ?hy ?ha ?_; (case hy => (intro w_ hb_; have s0 := pw_cell_below hb_ k1; go_simp; with_reducible rfl)); (case ha => (simp only [Act.put, List.setIfInBounds_toArray, List.set_cons_zero, List.set_cons_succ, i64_w, i32_w]; rfl))))
  refine s_tailL _ (by kernel_rfl) ?_
  simp only [opsAt, List.filterMap_nil]
  have HB4 := Aside0.mk (HB3.out.trans (hS.mono HB3.out.size))
  have HG3c := Aside0.mk (blk_below HG3b.out hS)
  have HG6c := Aside0.mk (blk_below HG6b.out hS)
  clear hS k1 HG3b HG6b HB2 HB3 HR3 HR HB HG3 HG6 HAT HK
  have HE := Aside0.mk (show k77.R 77 (w3.alloc (.cells #[] 77)) w3.heap.size ok0 (.slice (some ⟨w3.heap.size, 0, none⟩) 0 0) [] from R_empty (blk_new w3 _) (Nat.le_refl _))
  have HB5 := Aside0.mk (below_alloc (Below.refl w3.heap.size w3) (.cells #[] 77))
  go_upto_region 6 with (fail)
  generalize w3.alloc (.cells #[] 77) = w4 at *
  have HG3d := Aside0.mk (blk_below HG3c.out HB5.out)
  have b0 : w4.cell? ⟨w.heap.size, 0, none⟩ = some (.slice (some ad) n c) := (blk_cell HG3d.out 0).trans rfl
  go_wp2
  clear b0 HG3d
  go_loopw [33, 9] (fun v33 v9 wr => ∃ (k : Nat) (B : Option Addr) (k1 q1 : Nat), k ≤ n ∧ v33 = .int .i64 (k : Int) ∧ v9 = .slice B k1 q1 ∧ Aside0 (k77.R 77 wr w3.heap.size ok0 (.slice B k1 q1) (stepL (endP pid st2 bb) (L.take k))) ∧ Aside0 (Below w3.heap.size w3 wr)) (fun v33 _ _ => n - (intOf v33).toNat)
  case atStart => exact ⟨0, _, 0, 0, Nat.zero_le _, rfl, rfl, HE, HB5⟩
  case round =>
    clear HE HB5
    obtain ⟨k, B, k1, q1, hk, rfl, rfl, HL, HBr⟩ := hrel
    have HBw := Aside0.mk (HB4.out.trans (HBr.out.mono HB4.out.size))
    have hwr := HBr.out.size
    by_cases hkn : k < n
    · have hkL : k < L.length := by omega
      obtain ⟨q, rk, ek, hqi⟩ := HGET.out k hkL
      obtain ⟨ae, ea, k0, k1', k2, k3, k4, k5, k6⟩ := at_S (HR0.out.below HBw.out).row k hkL ek
      obtain rfl : ae = ad := (Option.some.inj ea).symm
      have HTK := Aside0.mk (stepL_take (endP pid st2 bb) L k hkL ek)
      have HEK := Aside0.mk ek
      have HQI := Aside0.mk hqi
      have HX8 := Aside0.mk (bx_new wr q rk)
      have hlen : (stepL (endP pid st2 bb) (L.take k)).length ≤ 1000000 := Nat.le_trans (stepL_len _ (L.take k)) (Nat.le_trans (by rw [List.length_take]; omega) hfew)
      clear ek hqi ea
      go_upto_region 9 with (fail)
      clear k0 k1' k2 k3 k4 k5 k6
      generalize wr.alloc (.cells (prc q rk) 77) = wb at *
      have p0 : wb.cell? ⟨wr.heap.size, 0, none⟩ = some (.int .i64 q) := (blk_cell HX8.out.g 0).trans rfl
      by_cases hq : pid = q
      · subst hq
        have hrk : rk = r := by
          have hki : k = i := HQI.out.1 rfl
          have e1 := HEK.out
          have e2 := HEI.out
          subst hki
          rw [e2] at e1
          exact congrArg prOf e1.symm
        subst hrk
        have p3 : wb.cell? ⟨wr.heap.size, 3, none⟩ = some (.bool rk.live) := (blk_cell HX8.out.g 3).trans rfl
        have f3 := blk_frozen HX8.out.g 3
        go_upto_region 11 with (fail)
        have HX9 := Aside0.mk (bx_set HX8.out 3 (.bool false) { rk with live := false } rfl)
        clear p0 p3 f3 HX8
        generalize wb.setCell ⟨wr.heap.size, 3, none⟩ (.bool false) = wc at *
        have p2 : wc.cell? ⟨wr.heap.size, 2, none⟩ = some (.int .i64 rk.status) := (blk_cell HX9.out.g 2).trans rfl
        have f2 := blk_frozen HX9.out.g 2
        go_upto_region 12 with (fail)
        have HX10 := Aside0.mk (bx_set HX9.out 2 (.int .i64 st2) { rk with live := false, status := st2 } rfl)
        clear p2 f2 HX9
        generalize wc.setCell ⟨wr.heap.size, 2, none⟩ (.int .i64 st2) = wd at *
        have HB10 := Aside0.mk (HBr.out.trans (HX10.out.bel.mono hwr))
        have HB10w := Aside0.mk (HB4.out.trans (HB10.out.mono HB4.out.size))
        have HG3e := Aside0.mk (blk_below HG3c.out HB10.out)
        have b0 : wd.cell? ⟨w.heap.size, 0, none⟩ = some (.slice (some ae) n c) := (blk_cell HG3e.out 0).trans rfl
        have b1 : wd.cell? ⟨w.heap.size, 1, none⟩ = some (.int .i64 last) := (blk_cell HG3e.out 1).trans rfl
        have b2 : wd.cell? ⟨w.heap.size, 2, none⟩ = some (.slice E m d) := (blk_cell HG3e.out 2).trans rfl
        cases bb with
        | false =>
          go_wp2_with (go_at_call 25; (with_reducible refine (rlive_any HH.out (HR0.out.below HB10w.out) last rk.par).mono ?_); rintro e we ⟨rfl, hB⟩; rw [HBBL.out]; have HX11 := Aside0.mk (bx_below HX10.out hB); clear hB b0 b1 b2)
          have HL2 := Aside0.mk (show k77.R 77 we w3.heap.size ok0 (.slice B k1 q1) (stepL (endP pid st2 false) (L.take (k + 1))) from by
            rw [HTK.out, show endP pid st2 false pid rk = none from by unfold endP; rw [if_pos rfl]; rfl]
            show k77.R 77 we w3.heap.size ok0 (.slice B k1 q1) (stepL (endP pid st2 false) (L.take k) ++ [])
            rw [List.append_nil]
            exact Kd.R_below HL.out HX11.out.bel)
          have HB2r := Aside0.mk (HBr.out.trans (HX11.out.bel.mono hwr))
          go_roundw
          case measure => simp [intOf]; omega
          case rel => exact ⟨k + 1, B, k1, q1, by omega, by go_num, rfl, HL2, HB2r⟩
        | true =>
          go_upto_region 16 with (go_at_call 25; (with_reducible refine (rlive_any HH.out (HR0.out.below HB10w.out) last rk.par).mono ?_); rintro e we ⟨rfl, hB⟩; rw [HBBL.out]; have HX11 := Aside0.mk (bx_below HX10.out hB); clear hB b0 b1 b2)
          obtain ⟨rz, hrz⟩ : ∃ rz : Pr, rz = { rk with live := false, status := st2 } := ⟨_, rfl⟩
          rw [← hrz] at HX11
          have HRZ := Aside0.mk hrz
          clear hrz HX10
          have p0 : we.cell? ⟨wr.heap.size, 0, none⟩ = some (.int .i64 pid) := (blk_cell HX11.out.g 0).trans rfl
          have p1 : we.cell? ⟨wr.heap.size, 1, none⟩ = some (.int .i64 rz.par) := (blk_cell HX11.out.g 1).trans rfl
          have p2 : we.cell? ⟨wr.heap.size, 2, none⟩ = some (.int .i64 rz.status) := (blk_cell HX11.out.g 2).trans rfl
          have p3 : we.cell? ⟨wr.heap.size, 3, none⟩ = some (.bool rz.live) := (blk_cell HX11.out.g 3).trans rfl
          have p4 : we.cell? ⟨wr.heap.size, 4, none⟩ = some (.int .u32 (rz.ign : Int)) := (blk_cell HX11.out.g 4).trans rfl
          have p5 : we.cell? ⟨wr.heap.size, 5, none⟩ = some (.int .u32 (rz.ca : Int)) := (blk_cell HX11.out.g 5).trans rfl
          have p6 : we.cell? ⟨wr.heap.size, 6, none⟩ = some (.int .u32 (rz.pen : Int)) := (blk_cell HX11.out.g 6).trans rfl
          go_wp2_with ((with_reducible refine gate_dst (N := 59) rfl ?_)
                       go_loud (refine app_S w3.heap.size (N := 59) (w0 := w3) (W := we.alloc (.cells (prc pid rz) 77)) rfl rfl (.tmp 56) (.tmp 58) rfl (.slice B k1 q1) (stepL (endP pid st2 true) (L.take k)) [mkS pid rz] (some ⟨we.heap.size, 0, none⟩) 1 1 rfl rfl (Kd.R_below (Kd.R_below HL.out HX11.out.bel) (below_alloc (Below.refl _ _) _)) (one_S (blk_new we _)) ((HBr.out.trans (HX11.out.bel.mono hwr)).trans ((below_alloc (Below.refl we.heap.size we) _).mono (HBr.out.trans (HX11.out.bel.mono hwr)).size)) ((HBr.out.trans (HX11.out.bel.mono hwr)).trans ((below_alloc (Below.refl we.heap.size we) _).mono (HBr.out.trans (HX11.out.bel.mono hwr)).size)).size (by omega) ?_)
                       intro A1 n1 cp1 w9 hR hB hG
                       have HL2 := Aside0.mk (show k77.R 77 w9 w3.heap.size ok0 (.slice A1 n1 cp1) (stepL (endP pid st2 true) (L.take (k + 1))) from by
                         rw [HTK.out, show endP pid st2 true pid rk = some rz from by unfold endP; rw [if_pos rfl, if_pos rfl, HRZ.out]]
                         exact hR)
                       have HB2r := Aside0.mk hB
                       clear hR hB hG)
          go_roundw
          case measure => simp [intOf]; omega
          case rel => exact ⟨k + 1, A1, n1, cp1, by omega, by go_num, rfl, HL2, HB2r⟩
      · have hqb : (q == pid) = false := beq_eq_false_iff_ne.2 (fun e => hq e.symm)
        have p1 : wb.cell? ⟨wr.heap.size, 1, none⟩ = some (.int .i64 rk.par) := (blk_cell HX8.out.g 1).trans rfl
        have HQN := Aside0.mk hq
        by_cases hpp : rk.par = pid
        · have HPP := Aside0.mk hpp
          have p3 : wb.cell? ⟨wr.heap.size, 3, none⟩ = some (.bool rk.live) := (blk_cell HX8.out.g 3).trans rfl
          have hpb : (rk.par == pid) = true := beq_iff_eq.2 hpp
          cases hlr : rk.live with
          | false =>
            rw [hlr] at p3
            have HLR := Aside0.mk hlr
            clear hq hpp hlr
            have HL2 := Aside0.mk (show k77.R 77 wb w3.heap.size ok0 (.slice B k1 q1) (stepL (endP pid st2 bb) (L.take (k + 1))) from by
              rw [HTK.out, show endP pid st2 bb q rk = none from by unfold endP; rw [if_neg (fun e => HQN.out e.symm)]; unfold aft; rw [if_pos HPP.out, HLR.out]; rfl]
              show k77.R 77 wb w3.heap.size ok0 (.slice B k1 q1) (stepL (endP pid st2 bb) (L.take k) ++ [])
              rw [List.append_nil]
              exact Kd.R_below HL.out HX8.out.bel)
            have HB2r := Aside0.mk (HBr.out.trans (HX8.out.bel.mono hwr))
            go_wp2
            go_roundw
            case measure => simp [intOf]; omega
            case rel => exact ⟨k + 1, B, k1, q1, by omega, by go_num, rfl, HL2, HB2r⟩
          | true =>
            rw [hlr] at p3
            have HLR := Aside0.mk hlr
            have f1 := blk_frozen HX8.out.g 1
            clear hq hpp hlr
            go_upto_region 16 with (fail)
            have HX11 := Aside0.mk (bx_set HX8.out 1 (.int .i64 0) { rk with par := 0 } rfl)
            clear p0 p1 p3 f1 HX8
            generalize wb.setCell ⟨wr.heap.size, 1, none⟩ (.int .i64 0) = we at *
            obtain ⟨rz, hrz⟩ : ∃ rz : Pr, rz = { rk with par := 0 } := ⟨_, rfl⟩
            rw [← hrz] at HX11
            have HRZ := Aside0.mk hrz
            clear hrz
            have p0 : we.cell? ⟨wr.heap.size, 0, none⟩ = some (.int .i64 q) := (blk_cell HX11.out.g 0).trans rfl
            have p1 : we.cell? ⟨wr.heap.size, 1, none⟩ = some (.int .i64 rz.par) := (blk_cell HX11.out.g 1).trans rfl
            have p2 : we.cell? ⟨wr.heap.size, 2, none⟩ = some (.int .i64 rz.status) := (blk_cell HX11.out.g 2).trans rfl
            have p3 : we.cell? ⟨wr.heap.size, 3, none⟩ = some (.bool rz.live) := (blk_cell HX11.out.g 3).trans rfl
            have p4 : we.cell? ⟨wr.heap.size, 4, none⟩ = some (.int .u32 (rz.ign : Int)) := (blk_cell HX11.out.g 4).trans rfl
            have p5 : we.cell? ⟨wr.heap.size, 5, none⟩ = some (.int .u32 (rz.ca : Int)) := (blk_cell HX11.out.g 5).trans rfl
            have p6 : we.cell? ⟨wr.heap.size, 6, none⟩ = some (.int .u32 (rz.pen : Int)) := (blk_cell HX11.out.g 6).trans rfl
            go_wp2_with ((with_reducible refine gate_dst (N := 59) rfl ?_)
                         go_loud (refine app_S w3.heap.size (N := 59) (w0 := w3) (W := we.alloc (.cells (prc q rz) 77)) rfl rfl (.tmp 56) (.tmp 58) rfl (.slice B k1 q1) (stepL (endP pid st2 bb) (L.take k)) [mkS q rz] (some ⟨we.heap.size, 0, none⟩) 1 1 rfl rfl (Kd.R_below (Kd.R_below HL.out HX11.out.bel) (below_alloc (Below.refl _ _) _)) (one_S (blk_new we _)) ((HBr.out.trans (HX11.out.bel.mono hwr)).trans ((below_alloc (Below.refl we.heap.size we) _).mono (HBr.out.trans (HX11.out.bel.mono hwr)).size)) ((HBr.out.trans (HX11.out.bel.mono hwr)).trans ((below_alloc (Below.refl we.heap.size we) _).mono (HBr.out.trans (HX11.out.bel.mono hwr)).size)).size (by omega) ?_)
                         intro A1 n1 cp1 w9 hR hB hG
                         have HL2 := Aside0.mk (show k77.R 77 w9 w3.heap.size ok0 (.slice A1 n1 cp1) (stepL (endP pid st2 bb) (L.take (k + 1))) from by
                           rw [HTK.out, show endP pid st2 bb q rk = some rz from by unfold endP; rw [if_neg (fun e => HQN.out e.symm)]; unfold aft; rw [if_pos HPP.out, if_pos HLR.out, HRZ.out]]
                           exact hR)
                         have HB2r := Aside0.mk hB
                         clear hR hB hG)
            go_roundw
            case measure => simp [intOf]; omega
            case rel => exact ⟨k + 1, A1, n1, cp1, by omega, by go_num, rfl, HL2, HB2r⟩
        · have HPP := Aside0.mk hpp
          have hpb : (rk.par == pid) = false := beq_eq_false_iff_ne.2 hpp
          clear hq hpp
          go_upto_region 16 with (fail)
          clear p0 p1
          have p0 : wb.cell? ⟨wr.heap.size, 0, none⟩ = some (.int .i64 q) := (blk_cell HX8.out.g 0).trans rfl
          have p1 : wb.cell? ⟨wr.heap.size, 1, none⟩ = some (.int .i64 rk.par) := (blk_cell HX8.out.g 1).trans rfl
          have p2 : wb.cell? ⟨wr.heap.size, 2, none⟩ = some (.int .i64 rk.status) := (blk_cell HX8.out.g 2).trans rfl
          have p3 : wb.cell? ⟨wr.heap.size, 3, none⟩ = some (.bool rk.live) := (blk_cell HX8.out.g 3).trans rfl
          have p4 : wb.cell? ⟨wr.heap.size, 4, none⟩ = some (.int .u32 (rk.ign : Int)) := (blk_cell HX8.out.g 4).trans rfl
          have p5 : wb.cell? ⟨wr.heap.size, 5, none⟩ = some (.int .u32 (rk.ca : Int)) := (blk_cell HX8.out.g 5).trans rfl
          have p6 : wb.cell? ⟨wr.heap.size, 6, none⟩ = some (.int .u32 (rk.pen : Int)) := (blk_cell HX8.out.g 6).trans rfl
          go_wp2_with ((with_reducible refine gate_dst (N := 59) rfl ?_)
                       go_loud (refine app_S w3.heap.size (N := 59) (w0 := w3) (W := wb.alloc (.cells (prc q rk) 77)) rfl rfl (.tmp 56) (.tmp 58) rfl (.slice B k1 q1) (stepL (endP pid st2 bb) (L.take k)) [mkS q rk] (some ⟨wb.heap.size, 0, none⟩) 1 1 rfl rfl (Kd.R_below (Kd.R_below HL.out HX8.out.bel) (below_alloc (Below.refl _ _) _)) (one_S (blk_new wb _)) ((HBr.out.trans (HX8.out.bel.mono hwr)).trans ((below_alloc (Below.refl wb.heap.size wb) _).mono (HBr.out.trans (HX8.out.bel.mono hwr)).size)) ((HBr.out.trans (HX8.out.bel.mono hwr)).trans ((below_alloc (Below.refl wb.heap.size wb) _).mono (HBr.out.trans (HX8.out.bel.mono hwr)).size)).size (by omega) ?_)
                       intro A1 n1 cp1 w9 hR hB hG
                       have HL2 := Aside0.mk (show k77.R 77 w9 w3.heap.size ok0 (.slice A1 n1 cp1) (stepL (endP pid st2 bb) (L.take (k + 1))) from by
                         rw [HTK.out, show endP pid st2 bb q rk = some rk from by unfold endP; rw [if_neg (fun e => HQN.out e.symm)]; unfold aft; rw [if_neg HPP.out]]
                         exact hR)
                       have HB2r := Aside0.mk hB
                       clear hR hB hG)
          go_roundw
          case measure => simp [intOf]; omega
          case rel => exact ⟨k + 1, A1, n1, cp1, by omega, by go_num, rfl, HL2, HB2r⟩
    · have hke : k = n := by omega
      have HL2 := Aside0.mk (show k77.R 77 wr w3.heap.size ok0 (.slice B k1 q1) (stepL (endP pid st2 bb) L) from by
        have h0 := HL.out
        rwa [hke, ← hnl, List.take_length] at h0)
      have HG3c' := Aside0.mk (blk_below HG3c.out HBr.out)
      have HG6c' := Aside0.mk (blk_below HG6c.out HBr.out)
      have hg6w := blk_lt HG6c.out
      have c0 : wr.cell? ⟨w.heap.size, 0, none⟩ = some (.slice (some ad) n c) := (blk_cell HG3c'.out 0).trans rfl
      have f0 := blk_frozen HG3c'.out 0
      clear hke
      go_upto_region 19 with (fail)
      have HL4 := Aside0.mk (Kd.R_set HL2.out HG3c'.out (by decide) 0 (.slice B k1 q1))
      have HG3d := Aside0.mk (blk_put HG3c'.out 0 (.slice B k1 q1) rfl)
      have HG6d := Aside0.mk (blk_far HG6c'.out (show w.heap.size + 1 ≠ (⟨w.heap.size, 0, none⟩ : Addr).block by show w.heap.size + 1 ≠ w.heap.size; omega) (.slice B k1 q1))
      have HB5 := Aside0.mk (HBw.out.setCell (p := ⟨w.heap.size, 0, none⟩) (Nat.le_refl _) (.slice B k1 q1))
      clear c0 f0
      generalize wr.setCell ⟨w.heap.size, 0, none⟩ (.slice B k1 q1) = w5 at *
      have HE5 := Aside0.mk (HR0.out.below HB5.out).erow
      have hml : es.length = m := HE5.out.1
      have hsz := HB5.out.size
      have c2 : w5.cell? ⟨w.heap.size, 2, none⟩ = some (.slice E m d) := (blk_cell HG3d.out 2).trans rfl
      have c2a := pw_cell_below (below_alloc (Below.refl w5.heap.size w5) (.cells #[] 73)) c2
      have HEL2 := Aside0.mk (show m ≤ 1000000 by have := HEL.out; omega)
      go_upto_region 20 with (first
        | ((with_reducible refine gate_dst (N := 66) rfl ?_)
           go_loud (refine app_E w5.heap.size (N := 66) (w0 := w5) (W := w5.alloc (.cells #[] 73)) rfl rfl (.tmp 63) (.tmp 65) rfl (.slice (some ⟨w5.heap.size, 0, none⟩) 0 0) [] es E m d rfl rfl (R_empty (blk_new w5 _) (Nat.le_refl _)) (Kd.C_below HE5.out (below_alloc (Below.refl _ _) _)) (below_alloc (Below.refl _ _) _) (below_alloc (Below.refl _ _) _).size (by have := HEL2.out; simp; omega) ?_)
           intro A1 n1 cp1 w6 hR hB hG
           have HE6 := Aside0.mk hR
           have HB6 := Aside0.mk hB
           clear hR hB hG c2 c2a)
        | ((with_reducible refine gate_dst (N := 71) rfl ?_)
           go_loud (refine app_E w5.heap.size (N := 71) (w0 := w5) (W := w6.alloc (.cells #[.int .i64 pid, .int .i64 st2] 73)) rfl rfl (.tmp 66) (.tmp 70) rfl (.slice A1 n1 cp1) ([] ++ es) [⟨pid, st2⟩] (some ⟨w6.heap.size, 0, none⟩) 1 1 rfl rfl (Kd.R_below HE6.out (below_alloc (Below.refl _ _) _)) (one_E (blk_new w6 _)) (HB6.out.trans ((below_alloc (Below.refl w6.heap.size w6) _).mono HB6.out.size)) (HB6.out.trans ((below_alloc (Below.refl w6.heap.size w6) _).mono HB6.out.size)).size (by have := HEL.out; simp; omega) ?_)
           intro A2 n2 cp2 w7 hR hB hG
           have HE7 := Aside0.mk hR
           have HB7 := Aside0.mk hB
           have c2 : w7.cell? ⟨w.heap.size, 2, none⟩ = some (.slice E m d) := (blk_cell (blk_below HG3d.out hB) 2).trans rfl
           have f2 := blk_frozen (blk_below HG3d.out hB) 2
           clear hR hB hG))
      have HG3e := Aside0.mk (blk_below HG3d.out HB7.out)
      have HE8 := Aside0.mk (Kd.R_set HE7.out HG3e.out (by decide) 2 (.slice A2 n2 cp2))
      have HL8 := Aside0.mk (Kd.R_set (Kd.R_below HL4.out HB7.out) HG3e.out (by decide) 2 (.slice A2 n2 cp2))
      have HG3f := Aside0.mk (blk_put HG3e.out 2 (.slice A2 n2 cp2) rfl)
      have HG6f := Aside0.mk (blk_far (blk_below HG6d.out HB7.out) (show w.heap.size + 1 ≠ (⟨w.heap.size, 2, none⟩ : Addr).block by show w.heap.size + 1 ≠ w.heap.size; omega) (.slice A2 n2 cp2))
      have HB8 := Aside0.mk ((HB5.out.trans (HB7.out.mono hsz)).setCell (p := ⟨w.heap.size, 2, none⟩) (Nat.le_refl _) (.slice A2 n2 cp2))
      have hg6v := blk_lt HG6d.out
      clear c2 f2
      generalize w7.setCell ⟨w.heap.size, 2, none⟩ (.slice A2 n2 cp2) = w8 at *
      have c0 : w8.cell? ⟨w.heap.size, 0, none⟩ = some (.slice B k1 q1) := (blk_cell HG3f.out 0).trans rfl
      have c1 : w8.cell? ⟨w.heap.size, 1, none⟩ = some (.int .i64 last) := (blk_cell HG3f.out 1).trans rfl
      have c2 : w8.cell? ⟨w.heap.size, 2, none⟩ = some (.slice A2 n2 cp2) := (blk_cell HG3f.out 2).trans rfl
      have hsz4 := HB4.out.size
      go_wp2_with ((with_reducible refine gate_st 42 6 73 rfl ?_)
                   go_loud (refine tab_put rfl 6 73 rfl (w.heap.size + 1) _ B k1 q1 last A2 n2 cp2 rfl rfl rfl HG6f.out ?_)
                   intro w9 hg hbx hoth
                   have HX := Aside0.mk hg
                   have HB9 := Aside0.mk (HB8.out.trans (hbx w.heap.size (by omega)))
                   have HR9 := Aside0.mk (Kd.R_lower (base' := w.heap.size) (Kd.R_mono (ok' := ok0) (Kd.R_step (Kd.R_bound HL8.out) (fun k ho _ => hoth k (by have := ho.2.1; omega))) (fun _ _ => trivial)) hsz4)
                   have HE9 := Aside0.mk (Kd.R_lower (base' := w.heap.size) (Kd.R_mono (ok' := ok0) (Kd.R_step (Kd.R_bound HE8.out) (fun k ho _ => hoth k (by have := ho.2.1; omega))) (fun _ _ => trivial)) hsz)
                   clear hg hbx hoth c0 c1 c2)
      ((try simp only [Exit.inBlock, Exit.then]); refine bodyPost_ret (results_ct rfl _ _ _ 42 _ (0, 0) _ rfl HX.out Tryd.underlying42 rfl (by kernel_rfl)) rfl ?_)
      exact ⟨B, k1, q1, A2, n2, cp2, rfl, by rw [if_pos rfl]; exact ⟨HR9.out, HE9.out⟩, HB9.out⟩
end
end Go.Proofs.YtbgodajbdbgdfaaDoor.Kern
/- kern: the document's Send: its contract. -/
namespace Go.Proofs.YtbgodajbdbgdfaaDoor.Kern
open Go.RowKit Go.Proofs.YtbgodajbdbgdfaaDoorW.PrintWords Go.Proofs.YtbgodajbdbgdfaaDoorW.PrintLast Go.Proofs.YtbgodajbdbgdfaaDoor.Sig Go.Proofs.YtbgodajbdbgdfaaDoor.Base Go.Proofs.YtbgodajbdbgdfaaDoor.Seq Go.Proofs.YtbgodajbdbgdfaaDoor.V Go.Maps
set_option linter.unusedVariables false
set_option linter.unusedSimpArgs false
theorem exit_out {w w' : World} {e : Ending} {A0 E0 : Option Addr} {n0 c0 m0 d0 : Nat} {L : List S} {last : Int} {es : List SE} (h : ExitOut w w' e true A0 n0 c0 L last E0 m0 d0 es) : ∃ (A : Option Addr) (n c : Nat) (E : Option Addr) (m d : Nat), e = .returned (.tuple #[.agg #[.slice A n c, .int .i64 last, .slice E m d], .bool true]) ∧ k77.R 77 w' w.heap.size ok0 (.slice A n c) L ∧ k73.R 73 w' w.heap.size ok0 (.slice E m d) es ∧ Below w.heap.size w w' := by
  obtain ⟨A, n, c, E, m, d, e1, h1, h2⟩ := h
  rw [if_pos rfl] at h1
  exact ⟨A, n, c, E, m, d, e1, h1.1, h1.2, h2⟩
section
variable {w : World} {A E : Option Addr} {n c m d : Nat} {f : Tb} {L : List S} {es : List SE}
set_option maxHeartbeats 8000000 in
set_option maxRecDepth 100000 in
theorem rsend_nolive (h : Rel f L) (hr : RT w A n c L E m d es) (last pid s : Int) (hll : liv f pid = false) :
    Calls Tryd.prog 17 #[.agg #[.slice A n c, .int .i64 last, .slice E m d], .int .i64 pid, .int .i64 s] w fun e w' => ExitOut w w' e false A n c L last E m d es := by
  have hB1 := below_alloc (below_alloc (Below.refl w.heap.size w) (.cells #[.slice A n c, .int .i64 last, .slice E m d] 42)) (.cells #[.slice none 0 0, .int .i64 0, .slice none 0 0] 42)
  have hG3 := blk_below (blk_new w (.cells #[.slice A n c, .int .i64 last, .slice E m d] 42)) (below_alloc (Below.refl _ _) (.cells #[.slice none 0 0, .int .i64 0, .slice none 0 0] 42))
  have hG6 := blk_new (w.alloc (.cells #[.slice A n c, .int .i64 last, .slice E m d] 42)) (.cells #[.slice none 0 0, .int .i64 0, .slice none 0 0] 42)
  rw [show (w.alloc (.cells #[.slice A n c, .int .i64 last, .slice E m d] 42)).heap.size = w.heap.size + 1 by simp] at hG6
  have HR := Aside0.mk (hr.below hB1)
  have HB := Aside0.mk hB1
  have HG3 := Aside0.mk hG3
  have HG6 := Aside0.mk hG6
  have HR0 := Aside0.mk hr
  have HH := Aside0.mk h
  clear hr hB1 hG3 hG6 h
  have HLL := Aside0.mk hll
  clear hll
  go_enter Tryd.func17, Tryd.ntmps17
  go_upto_region 1 with (fail)
  generalize (w.alloc (.cells #[.slice A n c, .int .i64 last, .slice E m d] 42)).alloc (.cells #[.slice none 0 0, .int .i64 0, .slice none 0 0] 42) = w1 at *
  have b0 : w1.cell? ⟨w.heap.size, 0, none⟩ = some (.slice A n c) := (blk_cell HG3.out 0).trans rfl
  have b1 : w1.cell? ⟨w.heap.size, 1, none⟩ = some (.int .i64 last) := (blk_cell HG3.out 1).trans rfl
  have b2 : w1.cell? ⟨w.heap.size, 2, none⟩ = some (.slice E m d) := (blk_cell HG3.out 2).trans rfl
  go_upto_region 2 with ((go_at_call 25; (with_reducible refine (rlive_any HH.out HR.out last pid).mono ?_); rintro e w2 ⟨rfl, hB⟩; rw [HLL.out]; have HB2 := Aside0.mk hB; have HBz := Aside0.mk hB; clear hB))
  clear b0 b1 b2
  have HG3b := Aside0.mk (blk_below HG3.out HBz.out)
  have HG6b := Aside0.mk (blk_below HG6.out HBz.out)
  have HBW := Aside0.mk (HB.out.trans (HBz.out.mono HB.out.size))
  have b0 : w2.cell? ⟨w.heap.size, 0, none⟩ = some (.slice A n c) := (blk_cell HG3b.out 0).trans rfl
  have b1 : w2.cell? ⟨w.heap.size, 1, none⟩ = some (.int .i64 last) := (blk_cell HG3b.out 1).trans rfl
  have b2 : w2.cell? ⟨w.heap.size, 2, none⟩ = some (.slice E m d) := (blk_cell HG3b.out 2).trans rfl
  go_wp2_with ((with_reducible refine gate_st 42 6 19 rfl ?_)
               go_loud (refine tab_put rfl 6 19 rfl (w.heap.size + 1) _ A n c last E m d rfl rfl rfl HG6b.out ?_)
               intro w5 hg hbx hoth
               have HX := Aside0.mk hg
               have HB5 := Aside0.mk (HBW.out.trans (hbx w.heap.size (by omega)))
               clear hg hbx hoth b0 b1 b2)
  ((try simp only [Exit.inBlock, Exit.then]); refine bodyPost_ret (results_ct rfl _ _ _ 42 _ (0, 0) _ rfl HX.out Tryd.underlying42 rfl (by kernel_rfl)) rfl ?_)
  exact ⟨_, _, _, _, _, _, rfl, ⟨⟨rfl, rfl, rfl⟩, rfl, rfl, rfl⟩, HB5.out⟩
set_option maxHeartbeats 8000000 in
set_option maxRecDepth 100000 in
theorem rsend_nosig (h : Rel f L) (hr : RT w A n c L E m d es) (last pid s : Int) (hll : liv f pid = true) (hs1 : isg s = false) :
    Calls Tryd.prog 17 #[.agg #[.slice A n c, .int .i64 last, .slice E m d], .int .i64 pid, .int .i64 s] w fun e w' => ExitOut w w' e false A n c L last E m d es := by
  have hB1 := below_alloc (below_alloc (Below.refl w.heap.size w) (.cells #[.slice A n c, .int .i64 last, .slice E m d] 42)) (.cells #[.slice none 0 0, .int .i64 0, .slice none 0 0] 42)
  have hG3 := blk_below (blk_new w (.cells #[.slice A n c, .int .i64 last, .slice E m d] 42)) (below_alloc (Below.refl _ _) (.cells #[.slice none 0 0, .int .i64 0, .slice none 0 0] 42))
  have hG6 := blk_new (w.alloc (.cells #[.slice A n c, .int .i64 last, .slice E m d] 42)) (.cells #[.slice none 0 0, .int .i64 0, .slice none 0 0] 42)
  rw [show (w.alloc (.cells #[.slice A n c, .int .i64 last, .slice E m d] 42)).heap.size = w.heap.size + 1 by simp] at hG6
  have HR := Aside0.mk (hr.below hB1)
  have HB := Aside0.mk hB1
  have HG3 := Aside0.mk hG3
  have HG6 := Aside0.mk hG6
  have HR0 := Aside0.mk hr
  have HH := Aside0.mk h
  clear hr hB1 hG3 hG6 h
  have HLL := Aside0.mk hll
  have HS1 := Aside0.mk hs1
  clear hll hs1
  go_enter Tryd.func17, Tryd.ntmps17
  go_upto_region 1 with (fail)
  generalize (w.alloc (.cells #[.slice A n c, .int .i64 last, .slice E m d] 42)).alloc (.cells #[.slice none 0 0, .int .i64 0, .slice none 0 0] 42) = w1 at *
  have b0 : w1.cell? ⟨w.heap.size, 0, none⟩ = some (.slice A n c) := (blk_cell HG3.out 0).trans rfl
  have b1 : w1.cell? ⟨w.heap.size, 1, none⟩ = some (.int .i64 last) := (blk_cell HG3.out 1).trans rfl
  have b2 : w1.cell? ⟨w.heap.size, 2, none⟩ = some (.slice E m d) := (blk_cell HG3.out 2).trans rfl
  go_upto_region 2 with (first | (go_at_call 25; (with_reducible refine (rlive_any HH.out HR.out last pid).mono ?_); rintro e w2 ⟨rfl, hB⟩; rw [HLL.out]; have HB2 := Aside0.mk hB; have HBz := Aside0.mk hB; clear hB) | (go_at_call 51; (with_reducible refine (ris2_any s _).mono ?_); rintro e w3 ⟨rfl, hB⟩; rw [HS1.out]; have HB3 := Aside0.mk (HB2.out.trans (hB.mono HB2.out.size)); clear HBz; have HBz := HB3; clear hB))
  clear b0 b1 b2
  have HG3b := Aside0.mk (blk_below HG3.out HBz.out)
  have HG6b := Aside0.mk (blk_below HG6.out HBz.out)
  have HBW := Aside0.mk (HB.out.trans (HBz.out.mono HB.out.size))
  have b0 : w3.cell? ⟨w.heap.size, 0, none⟩ = some (.slice A n c) := (blk_cell HG3b.out 0).trans rfl
  have b1 : w3.cell? ⟨w.heap.size, 1, none⟩ = some (.int .i64 last) := (blk_cell HG3b.out 1).trans rfl
  have b2 : w3.cell? ⟨w.heap.size, 2, none⟩ = some (.slice E m d) := (blk_cell HG3b.out 2).trans rfl
  go_wp2_with ((with_reducible refine gate_st 42 6 19 rfl ?_)
               go_loud (refine tab_put rfl 6 19 rfl (w.heap.size + 1) _ A n c last E m d rfl rfl rfl HG6b.out ?_)
               intro w5 hg hbx hoth
               have HX := Aside0.mk hg
               have HB5 := Aside0.mk (HBW.out.trans (hbx w.heap.size (by omega)))
               clear hg hbx hoth b0 b1 b2)
  ((try simp only [Exit.inBlock, Exit.then]); refine bodyPost_ret (results_ct rfl _ _ _ 42 _ (0, 0) _ rfl HX.out Tryd.underlying42 rfl (by kernel_rfl)) rfl ?_)
  exact ⟨_, _, _, _, _, _, rfl, ⟨⟨rfl, rfl, rfl⟩, rfl, rfl, rfl⟩, HB5.out⟩
set_option maxHeartbeats 8000000 in
set_option maxRecDepth 100000 in
theorem rsend_ca (h : Rel f L) (hr : RT w A n c L E m d es) (last pid s : Int) (r : Pr) (hf : f pid = some r) (hlv : r.live = true) (hI : ∀ q r, f q = some r → r.ign < 4294967296 ∧ r.ca < 4294967296 ∧ r.pen < 4294967296) (hs1 : isg s = true) (hel : es.length ≤ 1000000) (hhow : how f pid s = 2) :
    Calls Tryd.prog 17 #[.agg #[.slice A n c, .int .i64 last, .slice E m d], .int .i64 pid, .int .i64 s] w fun e w' => TabB2 w w' e true A n c (stepL (setP pid { r with pen := wth r.pen s }) L) last E m d := by
  have hll : liv f pid = true := by unfold liv; rw [hf]; exact hlv
  obtain ⟨i, hi, ei, hat⟩ := rat_some h hf
  have hfew := h.few
  have hB1 := below_alloc (below_alloc (Below.refl w.heap.size w) (.cells #[.slice A n c, .int .i64 last, .slice E m d] 42)) (.cells #[.slice none 0 0, .int .i64 0, .slice none 0 0] 42)
  have hG3 := blk_below (blk_new w (.cells #[.slice A n c, .int .i64 last, .slice E m d] 42)) (below_alloc (Below.refl _ _) (.cells #[.slice none 0 0, .int .i64 0, .slice none 0 0] 42))
  have hG6 := blk_new (w.alloc (.cells #[.slice A n c, .int .i64 last, .slice E m d] 42)) (.cells #[.slice none 0 0, .int .i64 0, .slice none 0 0] 42)
  rw [show (w.alloc (.cells #[.slice A n c, .int .i64 last, .slice E m d] 42)).heap.size = w.heap.size + 1 by simp] at hG6
  have HR := Aside0.mk (hr.below hB1)
  have HB := Aside0.mk hB1
  have HG3 := Aside0.mk hG3
  have HG6 := Aside0.mk hG6
  have HR0 := Aside0.mk hr
  have HH := Aside0.mk h
  clear hr hB1 hG3 hG6 h
  have HI := Aside0.mk (hI pid r hf)
  have HII := Aside0.mk (show ∀ q r, f q = some r → r.ign < 4294967296 ∧ r.ca < 4294967296 from fun q r hq => ⟨(hI q r hq).1, (hI q r hq).2.1⟩)
  have HLL := Aside0.mk hll
  have HS1 := Aside0.mk hs1
  have HAT := Aside0.mk hat
  have HF := Aside0.mk hf
  have HLV := Aside0.mk hlv
  have HEL := Aside0.mk hel
  have HHW := Aside0.mk hhow
  have HPI := Aside0.mk (show L[i].f0 = pid by rw [ei]; rfl)
  obtain ⟨ad, rfl, k0, k1, k2, k3, k4, k5, k6⟩ := at_S HR.out.row i hi ei
  have HK := Aside0.mk (And.intro k0 (And.intro k1 (And.intro k2 (And.intro k3 (And.intro k4 (And.intro k5 k6))))))
  have hin : i < n := by have := HR.out.row.1; omega
  have hi0 : (0 : Int) ≤ (i : Int) := by omega
  have hi1 : (i : Int) < (n : Int) := by omega
  clear hI hll hs1 hat k0 k1 k2 k3 k4 k5 k6 ei hf hlv hhow hel
  go_enter Tryd.func17, Tryd.ntmps17
  go_upto_region 1 with (fail)
  generalize (w.alloc (.cells #[.slice (some ad) n c, .int .i64 last, .slice E m d] 42)).alloc (.cells #[.slice none 0 0, .int .i64 0, .slice none 0 0] 42) = w1 at *
  have b0 : w1.cell? ⟨w.heap.size, 0, none⟩ = some (.slice (some ad) n c) := (blk_cell HG3.out 0).trans rfl
  have b1 : w1.cell? ⟨w.heap.size, 1, none⟩ = some (.int .i64 last) := (blk_cell HG3.out 1).trans rfl
  have b2 : w1.cell? ⟨w.heap.size, 2, none⟩ = some (.slice E m d) := (blk_cell HG3.out 2).trans rfl
  go_upto_region 3 with (first
    | (go_at_call 25; (with_reducible refine (rlive_any HH.out HR.out last pid).mono ?_); rintro e w2 ⟨rfl, hB⟩; rw [HLL.out]; have HB2 := Aside0.mk hB; clear hB)
    | (go_at_call 51; (with_reducible refine (ris2_any s _).mono ?_); rintro e w3 ⟨rfl, hB⟩; rw [HS1.out]; have HB3 := Aside0.mk (HB2.out.trans (hB.mono HB2.out.size)); clear hB b0 b1 b2))
  have HG3b := Aside0.mk (blk_below HG3.out HB3.out)
  have HRb := Aside0.mk (HR.out.below HB3.out)
  have b0 : w3.cell? ⟨w.heap.size, 0, none⟩ = some (.slice (some ad) n c) := (blk_cell HG3b.out 0).trans rfl
  have b1 : w3.cell? ⟨w.heap.size, 1, none⟩ = some (.int .i64 last) := (blk_cell HG3b.out 1).trans rfl
  have b2 : w3.cell? ⟨w.heap.size, 2, none⟩ = some (.slice E m d) := (blk_cell HG3b.out 2).trans rfl
  go_upto_region 4 with (go_at_call 47; (with_reducible refine (HAT.out _ (some ad) E n c m d es last HRb.out).mono ?_); rintro e w4 ⟨rfl, hB⟩; have HB4 := Aside0.mk (HB3.out.trans (hB.mono HB3.out.size)); clear hB b0 b1 b2)
  have b0 : w4.cell? ⟨w.heap.size, 0, none⟩ = some (.slice (some ad) n c) := (blk_cell (blk_below HG3.out HB4.out) 0).trans rfl
  obtain ⟨k0, k1, k2, k3, k4, k5, k6⟩ := HK.out
  replace k0 := pw_cell_below HB4.out k0
  replace k1 := pw_cell_below HB4.out k1
  replace k2 := pw_cell_below HB4.out k2
  replace k3 := pw_cell_below HB4.out k3
  replace k4 := pw_cell_below HB4.out k4
  replace k5 := pw_cell_below HB4.out k5
  replace k6 := pw_cell_below HB4.out k6
  have hal := below_alloc (Below.refl w4.heap.size w4) (.cells (prc pid r) 77)
  have HSw5 := Aside0.mk (show BoxSt w (w4.alloc (.cells (prc pid r) 77)) (some ad) n c last E m d w4.heap.size pid r from ⟨blk_below (blk_below HG3.out HB4.out) hal, blk_below (blk_below HG6.out HB4.out) hal, blk_new w4 _, (HB.out.trans (HB4.out.mono HB.out.size)).trans (hal.mono (HB.out.trans (HB4.out.mono HB.out.size)).size), by have := blk_lt (blk_below HG6.out HB4.out); omega⟩)
  clear hal
  go_upto_region 5 with (fail)
  clear b0 k0 k1 k2 k3 k4 k5 k6
  generalize w4.alloc (.cells (prc pid r) 77) = w5 at *
  generalize w4.heap.size = g9 at *
  have b0 : w5.cell? ⟨w.heap.size, 0, none⟩ = some (.slice (some ad) n c) := (blk_cell HSw5.out.g3 0).trans rfl
  have b1 : w5.cell? ⟨w.heap.size, 1, none⟩ = some (.int .i64 last) := (blk_cell HSw5.out.g3 1).trans rfl
  have b2 : w5.cell? ⟨w.heap.size, 2, none⟩ = some (.slice E m d) := (blk_cell HSw5.out.g3 2).trans rfl
  go_upto_region 6 with (go_at_call 27; (with_reducible refine (rhow_any HH.out (HR0.out.below HSw5.out.bel) last pid s HII.out).mono ?_); rintro e w6 ⟨rfl, hB⟩; rw [HHW.out]; have HSw6 := Aside0.mk (box_below HSw5.out hB); clear hB b0 b1 b2)
  have p6 : w6.cell? ⟨g9, 6, none⟩ = some (.int .u32 (r.pen : Int)) := (blk_cell HSw6.out.g9 6).trans rfl
  go_upto_region 7 with (go_at_call 41; (with_reducible refine (rwith_any r.pen HI.out.2.2 s _).mono ?_); rintro e w7a ⟨rfl, hB⟩; have HSw7a := Aside0.mk (box_below HSw6.out hB); have q6 : w7a.cell? ⟨g9, 6, none⟩ = some (.int .u32 (r.pen : Int)) := (blk_cell HSw7a.out.g9 6).trans rfl; have f6 := blk_frozen HSw7a.out.g9 6; clear hB p6)
  have HSw9 := Aside0.mk (box_set HSw7a.out 6 (.int .u32 ((wth r.pen s : Nat) : Int)) { r with pen := wth r.pen s } rfl)
  clear q6 f6
  generalize w7a.setCell ⟨g9, 6, none⟩ (.int .u32 ((wth r.pen s : Nat) : Int)) = w9 at *
  have b0 : w9.cell? ⟨w.heap.size, 0, none⟩ = some (.slice (some ad) n c) := (blk_cell HSw9.out.g3 0).trans rfl
  have b1 : w9.cell? ⟨w.heap.size, 1, none⟩ = some (.int .i64 last) := (blk_cell HSw9.out.g3 1).trans rfl
  have b2 : w9.cell? ⟨w.heap.size, 2, none⟩ = some (.slice E m d) := (blk_cell HSw9.out.g3 2).trans rfl
  have p0 : w9.cell? ⟨g9, 0, none⟩ = some (.int .i64 pid) := (blk_cell HSw9.out.g9 0).trans rfl
  have p1 : w9.cell? ⟨g9, 1, none⟩ = some (.int .i64 r.par) := (blk_cell HSw9.out.g9 1).trans rfl
  have p2 : w9.cell? ⟨g9, 2, none⟩ = some (.int .i64 r.status) := (blk_cell HSw9.out.g9 2).trans rfl
  have p3 : w9.cell? ⟨g9, 3, none⟩ = some (.bool r.live) := (blk_cell HSw9.out.g9 3).trans rfl
  have p4 : w9.cell? ⟨g9, 4, none⟩ = some (.int .u32 (r.ign : Int)) := (blk_cell HSw9.out.g9 4).trans rfl
  have p5 : w9.cell? ⟨g9, 5, none⟩ = some (.int .u32 (r.ca : Int)) := (blk_cell HSw9.out.g9 5).trans rfl
  have p6 : w9.cell? ⟨g9, 6, none⟩ = some (.int .u32 ((wth r.pen s : Nat) : Int)) := (blk_cell HSw9.out.g9 6).trans rfl
  have hg6w := blk_lt HSw9.out.g6
  go_wp2_with (first
    | (go_at_call 52; go_loud (refine (rset_any (HR0.out.below HSw9.out.bel) last i hi hfew pid { r with pen := wth r.pen s }).mono ?_); rintro e wa ⟨A8, n8, c8, rfl, hR, hB⟩; have HR8 := Aside0.mk hR; have HB8 := Aside0.mk (HSw9.out.bel.trans (hB.mono HSw9.out.bel.size)); have HG6e := Aside0.mk (blk_below HSw9.out.g6 hB); clear hR hB b0 b1 b2 p0 p1 p2 p3 p4 p5 p6)
    | ((with_reducible refine gate_st 42 6 41 rfl ?_)
       go_loud (refine tab_put rfl 6 41 rfl (w.heap.size + 1) _ A8 n8 c8 last E m d rfl rfl rfl HG6e.out ?_)
       intro wb hg hbx hoth
       have HX := Aside0.mk hg
       have HB9 := Aside0.mk (HB8.out.trans (hbx w.heap.size (by omega)))
       have HR9 := Aside0.mk (Kd.R_lower (base' := w.heap.size) (Kd.R_mono (ok' := ok0) (Kd.R_step (Kd.R_bound HR8.out) (fun k ho _ => hoth k (by have := ho.2.1; omega))) (fun _ _ => trivial)) HSw9.out.bel.size)
       clear hg hbx hoth))
  ((try simp only [Exit.inBlock, Exit.then]); refine bodyPost_ret (results_ct rfl _ _ _ 42 _ (0, 0) _ rfl HX.out Tryd.underlying42 rfl (by kernel_rfl)) rfl ?_)
  exact ⟨A8, n8, c8, rfl, by rw [if_pos rfl, set_eq HH.out hi HPI.out { r with pen := wth r.pen s }]; exact HR9.out, HB9.out⟩
set_option maxHeartbeats 8000000 in
set_option maxRecDepth 100000 in
theorem rsend_ign (h : Rel f L) (hr : RT w A n c L E m d es) (last pid s : Int) (r : Pr) (hf : f pid = some r) (hlv : r.live = true) (hI : ∀ q r, f q = some r → r.ign < 4294967296 ∧ r.ca < 4294967296 ∧ r.pen < 4294967296) (hs1 : isg s = true) (hel : es.length ≤ 1000000) (hhow : how f pid s = 1) :
    Calls Tryd.prog 17 #[.agg #[.slice A n c, .int .i64 last, .slice E m d], .int .i64 pid, .int .i64 s] w fun e w' => ∃ A' : Option Addr, e = .returned (.tuple #[.agg #[.slice A' n c, .int .i64 last, .slice E m d], .bool true]) ∧ A' = A ∧ Below w.heap.size w w' := by
  have hll : liv f pid = true := by unfold liv; rw [hf]; exact hlv
  obtain ⟨i, hi, ei, hat⟩ := rat_some h hf
  have hfew := h.few
  have hB1 := below_alloc (below_alloc (Below.refl w.heap.size w) (.cells #[.slice A n c, .int .i64 last, .slice E m d] 42)) (.cells #[.slice none 0 0, .int .i64 0, .slice none 0 0] 42)
  have hG3 := blk_below (blk_new w (.cells #[.slice A n c, .int .i64 last, .slice E m d] 42)) (below_alloc (Below.refl _ _) (.cells #[.slice none 0 0, .int .i64 0, .slice none 0 0] 42))
  have hG6 := blk_new (w.alloc (.cells #[.slice A n c, .int .i64 last, .slice E m d] 42)) (.cells #[.slice none 0 0, .int .i64 0, .slice none 0 0] 42)
  rw [show (w.alloc (.cells #[.slice A n c, .int .i64 last, .slice E m d] 42)).heap.size = w.heap.size + 1 by simp] at hG6
  have HR := Aside0.mk (hr.below hB1)
  have HB := Aside0.mk hB1
  have HG3 := Aside0.mk hG3
  have HG6 := Aside0.mk hG6
  have HR0 := Aside0.mk hr
  have HH := Aside0.mk h
  clear hr hB1 hG3 hG6 h
  have HI := Aside0.mk (hI pid r hf)
  have HII := Aside0.mk (show ∀ q r, f q = some r → r.ign < 4294967296 ∧ r.ca < 4294967296 from fun q r hq => ⟨(hI q r hq).1, (hI q r hq).2.1⟩)
  have HLL := Aside0.mk hll
  have HS1 := Aside0.mk hs1
  have HAT := Aside0.mk hat
  have HF := Aside0.mk hf
  have HLV := Aside0.mk hlv
  have HEL := Aside0.mk hel
  have HHW := Aside0.mk hhow
  have HPI := Aside0.mk (show L[i].f0 = pid by rw [ei]; rfl)
  obtain ⟨ad, rfl, k0, k1, k2, k3, k4, k5, k6⟩ := at_S HR.out.row i hi ei
  have HK := Aside0.mk (And.intro k0 (And.intro k1 (And.intro k2 (And.intro k3 (And.intro k4 (And.intro k5 k6))))))
  have hin : i < n := by have := HR.out.row.1; omega
  have hi0 : (0 : Int) ≤ (i : Int) := by omega
  have hi1 : (i : Int) < (n : Int) := by omega
  clear hI hll hs1 hat k0 k1 k2 k3 k4 k5 k6 ei hf hlv hhow hel
  go_enter Tryd.func17, Tryd.ntmps17
  go_upto_region 1 with (fail)
  generalize (w.alloc (.cells #[.slice (some ad) n c, .int .i64 last, .slice E m d] 42)).alloc (.cells #[.slice none 0 0, .int .i64 0, .slice none 0 0] 42) = w1 at *
  have b0 : w1.cell? ⟨w.heap.size, 0, none⟩ = some (.slice (some ad) n c) := (blk_cell HG3.out 0).trans rfl
  have b1 : w1.cell? ⟨w.heap.size, 1, none⟩ = some (.int .i64 last) := (blk_cell HG3.out 1).trans rfl
  have b2 : w1.cell? ⟨w.heap.size, 2, none⟩ = some (.slice E m d) := (blk_cell HG3.out 2).trans rfl
  go_upto_region 3 with (first
    | (go_at_call 25; (with_reducible refine (rlive_any HH.out HR.out last pid).mono ?_); rintro e w2 ⟨rfl, hB⟩; rw [HLL.out]; have HB2 := Aside0.mk hB; clear hB)
    | (go_at_call 51; (with_reducible refine (ris2_any s _).mono ?_); rintro e w3 ⟨rfl, hB⟩; rw [HS1.out]; have HB3 := Aside0.mk (HB2.out.trans (hB.mono HB2.out.size)); clear hB b0 b1 b2))
  have HG3b := Aside0.mk (blk_below HG3.out HB3.out)
  have HRb := Aside0.mk (HR.out.below HB3.out)
  have b0 : w3.cell? ⟨w.heap.size, 0, none⟩ = some (.slice (some ad) n c) := (blk_cell HG3b.out 0).trans rfl
  have b1 : w3.cell? ⟨w.heap.size, 1, none⟩ = some (.int .i64 last) := (blk_cell HG3b.out 1).trans rfl
  have b2 : w3.cell? ⟨w.heap.size, 2, none⟩ = some (.slice E m d) := (blk_cell HG3b.out 2).trans rfl
  go_upto_region 4 with (go_at_call 47; (with_reducible refine (HAT.out _ (some ad) E n c m d es last HRb.out).mono ?_); rintro e w4 ⟨rfl, hB⟩; have HB4 := Aside0.mk (HB3.out.trans (hB.mono HB3.out.size)); clear hB b0 b1 b2)
  have b0 : w4.cell? ⟨w.heap.size, 0, none⟩ = some (.slice (some ad) n c) := (blk_cell (blk_below HG3.out HB4.out) 0).trans rfl
  obtain ⟨k0, k1, k2, k3, k4, k5, k6⟩ := HK.out
  replace k0 := pw_cell_below HB4.out k0
  replace k1 := pw_cell_below HB4.out k1
  replace k2 := pw_cell_below HB4.out k2
  replace k3 := pw_cell_below HB4.out k3
  replace k4 := pw_cell_below HB4.out k4
  replace k5 := pw_cell_below HB4.out k5
  replace k6 := pw_cell_below HB4.out k6
  have hal := below_alloc (Below.refl w4.heap.size w4) (.cells (prc pid r) 77)
  have HSw5 := Aside0.mk (show BoxSt w (w4.alloc (.cells (prc pid r) 77)) (some ad) n c last E m d w4.heap.size pid r from ⟨blk_below (blk_below HG3.out HB4.out) hal, blk_below (blk_below HG6.out HB4.out) hal, blk_new w4 _, (HB.out.trans (HB4.out.mono HB.out.size)).trans (hal.mono (HB.out.trans (HB4.out.mono HB.out.size)).size), by have := blk_lt (blk_below HG6.out HB4.out); omega⟩)
  clear hal
  go_upto_region 5 with (fail)
  clear b0 k0 k1 k2 k3 k4 k5 k6
  generalize w4.alloc (.cells (prc pid r) 77) = w5 at *
  generalize w4.heap.size = g9 at *
  have b0 : w5.cell? ⟨w.heap.size, 0, none⟩ = some (.slice (some ad) n c) := (blk_cell HSw5.out.g3 0).trans rfl
  have b1 : w5.cell? ⟨w.heap.size, 1, none⟩ = some (.int .i64 last) := (blk_cell HSw5.out.g3 1).trans rfl
  have b2 : w5.cell? ⟨w.heap.size, 2, none⟩ = some (.slice E m d) := (blk_cell HSw5.out.g3 2).trans rfl
  go_upto_region 8 with (go_at_call 27; (with_reducible refine (rhow_any HH.out (HR0.out.below HSw5.out.bel) last pid s HII.out).mono ?_); rintro e w6 ⟨rfl, hB⟩; rw [HHW.out]; have HSw6 := Aside0.mk (box_below HSw5.out hB); clear hB b0 b1 b2)
  have b0 : w6.cell? ⟨w.heap.size, 0, none⟩ = some (.slice (some ad) n c) := (blk_cell HSw6.out.g3 0).trans rfl
  have b1 : w6.cell? ⟨w.heap.size, 1, none⟩ = some (.int .i64 last) := (blk_cell HSw6.out.g3 1).trans rfl
  have b2 : w6.cell? ⟨w.heap.size, 2, none⟩ = some (.slice E m d) := (blk_cell HSw6.out.g3 2).trans rfl
  go_upto_region 10 with ((go_at_call 27; (with_reducible refine (rhow_any HH.out (HR0.out.below HSw6.out.bel) last pid s HII.out).mono ?_); rintro e w7 ⟨rfl, hB⟩; rw [HHW.out]; have HSw7 := Aside0.mk (box_below HSw6.out hB); clear hB b0 b1 b2))
  have b0 : w7.cell? ⟨w.heap.size, 0, none⟩ = some (.slice (some ad) n c) := (blk_cell HSw7.out.g3 0).trans rfl
  have b1 : w7.cell? ⟨w.heap.size, 1, none⟩ = some (.int .i64 last) := (blk_cell HSw7.out.g3 1).trans rfl
  have b2 : w7.cell? ⟨w.heap.size, 2, none⟩ = some (.slice E m d) := (blk_cell HSw7.out.g3 2).trans rfl
  go_wp2_with ((with_reducible refine gate_st 42 6 59 rfl ?_)
               go_loud (refine tab_put rfl 6 59 rfl (w.heap.size + 1) _ (some ad) n c last E m d rfl rfl rfl HSw7.out.g6 ?_)
               intro wb hg hbx hoth
               have HX := Aside0.mk hg
               have HB9 := Aside0.mk (HSw7.out.bel.trans (hbx w.heap.size (by omega)))
               clear hg hbx hoth b0 b1 b2)
  ((try simp only [Exit.inBlock, Exit.then]); refine bodyPost_ret (results_ct rfl _ _ _ 42 _ (0, 0) _ rfl HX.out Tryd.underlying42 rfl (by kernel_rfl)) rfl ?_)
  exact ⟨_, rfl, rfl, HB9.out⟩
set_option maxHeartbeats 8000000 in
set_option maxRecDepth 100000 in
theorem rsend_mild (h : Rel f L) (hr : RT w A n c L E m d es) (last pid s : Int) (r : Pr) (hf : f pid = some r) (hlv : r.live = true) (hI : ∀ q r, f q = some r → r.ign < 4294967296 ∧ r.ca < 4294967296 ∧ r.pen < 4294967296) (hs1 : isg s = true) (hel : es.length ≤ 1000000) (hhow : how f pid s = 0) (hmd : md s = true) :
    Calls Tryd.prog 17 #[.agg #[.slice A n c, .int .i64 last, .slice E m d], .int .i64 pid, .int .i64 s] w fun e w' => ∃ A' : Option Addr, e = .returned (.tuple #[.agg #[.slice A' n c, .int .i64 last, .slice E m d], .bool true]) ∧ A' = A ∧ Below w.heap.size w w' := by
  have hll : liv f pid = true := by unfold liv; rw [hf]; exact hlv
  obtain ⟨i, hi, ei, hat⟩ := rat_some h hf
  have hfew := h.few
  have hB1 := below_alloc (below_alloc (Below.refl w.heap.size w) (.cells #[.slice A n c, .int .i64 last, .slice E m d] 42)) (.cells #[.slice none 0 0, .int .i64 0, .slice none 0 0] 42)
  have hG3 := blk_below (blk_new w (.cells #[.slice A n c, .int .i64 last, .slice E m d] 42)) (below_alloc (Below.refl _ _) (.cells #[.slice none 0 0, .int .i64 0, .slice none 0 0] 42))
  have hG6 := blk_new (w.alloc (.cells #[.slice A n c, .int .i64 last, .slice E m d] 42)) (.cells #[.slice none 0 0, .int .i64 0, .slice none 0 0] 42)
  rw [show (w.alloc (.cells #[.slice A n c, .int .i64 last, .slice E m d] 42)).heap.size = w.heap.size + 1 by simp] at hG6
  have HR := Aside0.mk (hr.below hB1)
  have HB := Aside0.mk hB1
  have HG3 := Aside0.mk hG3
  have HG6 := Aside0.mk hG6
  have HR0 := Aside0.mk hr
  have HH := Aside0.mk h
  clear hr hB1 hG3 hG6 h
  have HI := Aside0.mk (hI pid r hf)
  have HII := Aside0.mk (show ∀ q r, f q = some r → r.ign < 4294967296 ∧ r.ca < 4294967296 from fun q r hq => ⟨(hI q r hq).1, (hI q r hq).2.1⟩)
  have HLL := Aside0.mk hll
  have HS1 := Aside0.mk hs1
  have HAT := Aside0.mk hat
  have HF := Aside0.mk hf
  have HLV := Aside0.mk hlv
  have HEL := Aside0.mk hel
  have HHW := Aside0.mk hhow
  have HPI := Aside0.mk (show L[i].f0 = pid by rw [ei]; rfl)
  obtain ⟨ad, rfl, k0, k1, k2, k3, k4, k5, k6⟩ := at_S HR.out.row i hi ei
  have HK := Aside0.mk (And.intro k0 (And.intro k1 (And.intro k2 (And.intro k3 (And.intro k4 (And.intro k5 k6))))))
  have hin : i < n := by have := HR.out.row.1; omega
  have hi0 : (0 : Int) ≤ (i : Int) := by omega
  have hi1 : (i : Int) < (n : Int) := by omega
  clear hI hll hs1 hat k0 k1 k2 k3 k4 k5 k6 ei hf hlv hhow hel
  go_enter Tryd.func17, Tryd.ntmps17
  go_upto_region 1 with (fail)
  generalize (w.alloc (.cells #[.slice (some ad) n c, .int .i64 last, .slice E m d] 42)).alloc (.cells #[.slice none 0 0, .int .i64 0, .slice none 0 0] 42) = w1 at *
  have b0 : w1.cell? ⟨w.heap.size, 0, none⟩ = some (.slice (some ad) n c) := (blk_cell HG3.out 0).trans rfl
  have b1 : w1.cell? ⟨w.heap.size, 1, none⟩ = some (.int .i64 last) := (blk_cell HG3.out 1).trans rfl
  have b2 : w1.cell? ⟨w.heap.size, 2, none⟩ = some (.slice E m d) := (blk_cell HG3.out 2).trans rfl
  go_upto_region 3 with (first
    | (go_at_call 25; (with_reducible refine (rlive_any HH.out HR.out last pid).mono ?_); rintro e w2 ⟨rfl, hB⟩; rw [HLL.out]; have HB2 := Aside0.mk hB; clear hB)
    | (go_at_call 51; (with_reducible refine (ris2_any s _).mono ?_); rintro e w3 ⟨rfl, hB⟩; rw [HS1.out]; have HB3 := Aside0.mk (HB2.out.trans (hB.mono HB2.out.size)); clear hB b0 b1 b2))
  have HG3b := Aside0.mk (blk_below HG3.out HB3.out)
  have HRb := Aside0.mk (HR.out.below HB3.out)
  have b0 : w3.cell? ⟨w.heap.size, 0, none⟩ = some (.slice (some ad) n c) := (blk_cell HG3b.out 0).trans rfl
  have b1 : w3.cell? ⟨w.heap.size, 1, none⟩ = some (.int .i64 last) := (blk_cell HG3b.out 1).trans rfl
  have b2 : w3.cell? ⟨w.heap.size, 2, none⟩ = some (.slice E m d) := (blk_cell HG3b.out 2).trans rfl
  go_upto_region 4 with (go_at_call 47; (with_reducible refine (HAT.out _ (some ad) E n c m d es last HRb.out).mono ?_); rintro e w4 ⟨rfl, hB⟩; have HB4 := Aside0.mk (HB3.out.trans (hB.mono HB3.out.size)); clear hB b0 b1 b2)
  have b0 : w4.cell? ⟨w.heap.size, 0, none⟩ = some (.slice (some ad) n c) := (blk_cell (blk_below HG3.out HB4.out) 0).trans rfl
  obtain ⟨k0, k1, k2, k3, k4, k5, k6⟩ := HK.out
  replace k0 := pw_cell_below HB4.out k0
  replace k1 := pw_cell_below HB4.out k1
  replace k2 := pw_cell_below HB4.out k2
  replace k3 := pw_cell_below HB4.out k3
  replace k4 := pw_cell_below HB4.out k4
  replace k5 := pw_cell_below HB4.out k5
  replace k6 := pw_cell_below HB4.out k6
  have hal := below_alloc (Below.refl w4.heap.size w4) (.cells (prc pid r) 77)
  have HSw5 := Aside0.mk (show BoxSt w (w4.alloc (.cells (prc pid r) 77)) (some ad) n c last E m d w4.heap.size pid r from ⟨blk_below (blk_below HG3.out HB4.out) hal, blk_below (blk_below HG6.out HB4.out) hal, blk_new w4 _, (HB.out.trans (HB4.out.mono HB.out.size)).trans (hal.mono (HB.out.trans (HB4.out.mono HB.out.size)).size), by have := blk_lt (blk_below HG6.out HB4.out); omega⟩)
  clear hal
  go_upto_region 5 with (fail)
  clear b0 k0 k1 k2 k3 k4 k5 k6
  generalize w4.alloc (.cells (prc pid r) 77) = w5 at *
  generalize w4.heap.size = g9 at *
  have b0 : w5.cell? ⟨w.heap.size, 0, none⟩ = some (.slice (some ad) n c) := (blk_cell HSw5.out.g3 0).trans rfl
  have b1 : w5.cell? ⟨w.heap.size, 1, none⟩ = some (.int .i64 last) := (blk_cell HSw5.out.g3 1).trans rfl
  have b2 : w5.cell? ⟨w.heap.size, 2, none⟩ = some (.slice E m d) := (blk_cell HSw5.out.g3 2).trans rfl
  have HMD := Aside0.mk hmd
  clear hmd
  go_upto_region 8 with (go_at_call 27; (with_reducible refine (rhow_any HH.out (HR0.out.below HSw5.out.bel) last pid s HII.out).mono ?_); rintro e w6 ⟨rfl, hB⟩; rw [HHW.out]; have HSw6 := Aside0.mk (box_below HSw5.out hB); clear hB b0 b1 b2)
  have b0 : w6.cell? ⟨w.heap.size, 0, none⟩ = some (.slice (some ad) n c) := (blk_cell HSw6.out.g3 0).trans rfl
  have b1 : w6.cell? ⟨w.heap.size, 1, none⟩ = some (.int .i64 last) := (blk_cell HSw6.out.g3 1).trans rfl
  have b2 : w6.cell? ⟨w.heap.size, 2, none⟩ = some (.slice E m d) := (blk_cell HSw6.out.g3 2).trans rfl
  go_upto_region 10 with (first | (go_at_call 27; (with_reducible refine (rhow_any HH.out (HR0.out.below HSw6.out.bel) last pid s HII.out).mono ?_); rintro e w7 ⟨rfl, hB⟩; rw [HHW.out]; have HSw7 := Aside0.mk (box_below HSw6.out hB); clear hB b0 b1 b2) | (go_at_call 53; (with_reducible refine (rmild_any s _).mono ?_); rintro e w8 ⟨rfl, hB⟩; rw [HMD.out]; have HSw8 := Aside0.mk (box_below HSw7.out hB); clear hB))
  have b0 : w8.cell? ⟨w.heap.size, 0, none⟩ = some (.slice (some ad) n c) := (blk_cell HSw8.out.g3 0).trans rfl
  have b1 : w8.cell? ⟨w.heap.size, 1, none⟩ = some (.int .i64 last) := (blk_cell HSw8.out.g3 1).trans rfl
  have b2 : w8.cell? ⟨w.heap.size, 2, none⟩ = some (.slice E m d) := (blk_cell HSw8.out.g3 2).trans rfl
  go_wp2_with ((with_reducible refine gate_st 42 6 59 rfl ?_)
               go_loud (refine tab_put rfl 6 59 rfl (w.heap.size + 1) _ (some ad) n c last E m d rfl rfl rfl HSw8.out.g6 ?_)
               intro wb hg hbx hoth
               have HX := Aside0.mk hg
               have HB9 := Aside0.mk (HSw8.out.bel.trans (hbx w.heap.size (by omega)))
               clear hg hbx hoth b0 b1 b2)
  ((try simp only [Exit.inBlock, Exit.then]); refine bodyPost_ret (results_ct rfl _ _ _ 42 _ (0, 0) _ rfl HX.out Tryd.underlying42 rfl (by kernel_rfl)) rfl ?_)
  exact ⟨_, rfl, rfl, HB9.out⟩
set_option maxHeartbeats 8000000 in
set_option maxRecDepth 100000 in
theorem rsend_end (h : Rel f L) (hr : RT w A n c L E m d es) (last pid s : Int) (r : Pr) (hf : f pid = some r) (hlv : r.live = true) (hI : ∀ q r, f q = some r → r.ign < 4294967296 ∧ r.ca < 4294967296 ∧ r.pen < 4294967296) (hs1 : isg s = true) (hel : es.length ≤ 1000000) (hhow : how f pid s = 0) (hmd : md s = false) :
    Calls Tryd.prog 17 #[.agg #[.slice A n c, .int .i64 last, .slice E m d], .int .i64 pid, .int .i64 s] w fun e w' => ExitOut w w' e true A n c (stepL (endP pid (128 + s) (liv f r.par)) L) last E m d (es ++ [⟨pid, 128 + s⟩]) := by
  have h255 := and_255 s hs1
  have hsg := isg_iff.1 hs1
  have hw : wrap64 (128 + s) = 128 + s := by unfold wrap64; omega
  have hll : liv f pid = true := by unfold liv; rw [hf]; exact hlv
  obtain ⟨i, hi, ei, hat⟩ := rat_some h hf
  have hfew := h.few
  have hB1 := below_alloc (below_alloc (Below.refl w.heap.size w) (.cells #[.slice A n c, .int .i64 last, .slice E m d] 42)) (.cells #[.slice none 0 0, .int .i64 0, .slice none 0 0] 42)
  have hG3 := blk_below (blk_new w (.cells #[.slice A n c, .int .i64 last, .slice E m d] 42)) (below_alloc (Below.refl _ _) (.cells #[.slice none 0 0, .int .i64 0, .slice none 0 0] 42))
  have hG6 := blk_new (w.alloc (.cells #[.slice A n c, .int .i64 last, .slice E m d] 42)) (.cells #[.slice none 0 0, .int .i64 0, .slice none 0 0] 42)
  rw [show (w.alloc (.cells #[.slice A n c, .int .i64 last, .slice E m d] 42)).heap.size = w.heap.size + 1 by simp] at hG6
  have HR := Aside0.mk (hr.below hB1)
  have HB := Aside0.mk hB1
  have HG3 := Aside0.mk hG3
  have HG6 := Aside0.mk hG6
  have HR0 := Aside0.mk hr
  have HH := Aside0.mk h
  clear hr hB1 hG3 hG6 h
  have HI := Aside0.mk (hI pid r hf)
  have HII := Aside0.mk (show ∀ q r, f q = some r → r.ign < 4294967296 ∧ r.ca < 4294967296 from fun q r hq => ⟨(hI q r hq).1, (hI q r hq).2.1⟩)
  have HLL := Aside0.mk hll
  have HS1 := Aside0.mk hs1
  have HAT := Aside0.mk hat
  have HF := Aside0.mk hf
  have HLV := Aside0.mk hlv
  have HEL := Aside0.mk hel
  have HHW := Aside0.mk hhow
  have HPI := Aside0.mk (show L[i].f0 = pid by rw [ei]; rfl)
  obtain ⟨ad, rfl, k0, k1, k2, k3, k4, k5, k6⟩ := at_S HR.out.row i hi ei
  have HK := Aside0.mk (And.intro k0 (And.intro k1 (And.intro k2 (And.intro k3 (And.intro k4 (And.intro k5 k6))))))
  have hin : i < n := by have := HR.out.row.1; omega
  have hi0 : (0 : Int) ≤ (i : Int) := by omega
  have hi1 : (i : Int) < (n : Int) := by omega
  clear hI hll hs1 hat k0 k1 k2 k3 k4 k5 k6 ei hf hlv hhow hel
  go_enter Tryd.func17, Tryd.ntmps17
  go_upto_region 1 with (fail)
  generalize (w.alloc (.cells #[.slice (some ad) n c, .int .i64 last, .slice E m d] 42)).alloc (.cells #[.slice none 0 0, .int .i64 0, .slice none 0 0] 42) = w1 at *
  have b0 : w1.cell? ⟨w.heap.size, 0, none⟩ = some (.slice (some ad) n c) := (blk_cell HG3.out 0).trans rfl
  have b1 : w1.cell? ⟨w.heap.size, 1, none⟩ = some (.int .i64 last) := (blk_cell HG3.out 1).trans rfl
  have b2 : w1.cell? ⟨w.heap.size, 2, none⟩ = some (.slice E m d) := (blk_cell HG3.out 2).trans rfl
  go_upto_region 3 with (first
    | (go_at_call 25; (with_reducible refine (rlive_any HH.out HR.out last pid).mono ?_); rintro e w2 ⟨rfl, hB⟩; rw [HLL.out]; have HB2 := Aside0.mk hB; clear hB)
    | (go_at_call 51; (with_reducible refine (ris2_any s _).mono ?_); rintro e w3 ⟨rfl, hB⟩; rw [HS1.out]; have HB3 := Aside0.mk (HB2.out.trans (hB.mono HB2.out.size)); clear hB b0 b1 b2))
  have HG3b := Aside0.mk (blk_below HG3.out HB3.out)
  have HRb := Aside0.mk (HR.out.below HB3.out)
  have b0 : w3.cell? ⟨w.heap.size, 0, none⟩ = some (.slice (some ad) n c) := (blk_cell HG3b.out 0).trans rfl
  have b1 : w3.cell? ⟨w.heap.size, 1, none⟩ = some (.int .i64 last) := (blk_cell HG3b.out 1).trans rfl
  have b2 : w3.cell? ⟨w.heap.size, 2, none⟩ = some (.slice E m d) := (blk_cell HG3b.out 2).trans rfl
  go_upto_region 4 with (go_at_call 47; (with_reducible refine (HAT.out _ (some ad) E n c m d es last HRb.out).mono ?_); rintro e w4 ⟨rfl, hB⟩; have HB4 := Aside0.mk (HB3.out.trans (hB.mono HB3.out.size)); clear hB b0 b1 b2)
  have b0 : w4.cell? ⟨w.heap.size, 0, none⟩ = some (.slice (some ad) n c) := (blk_cell (blk_below HG3.out HB4.out) 0).trans rfl
  obtain ⟨k0, k1, k2, k3, k4, k5, k6⟩ := HK.out
  replace k0 := pw_cell_below HB4.out k0
  replace k1 := pw_cell_below HB4.out k1
  replace k2 := pw_cell_below HB4.out k2
  replace k3 := pw_cell_below HB4.out k3
  replace k4 := pw_cell_below HB4.out k4
  replace k5 := pw_cell_below HB4.out k5
  replace k6 := pw_cell_below HB4.out k6
  have hal := below_alloc (Below.refl w4.heap.size w4) (.cells (prc pid r) 77)
  have HSw5 := Aside0.mk (show BoxSt w (w4.alloc (.cells (prc pid r) 77)) (some ad) n c last E m d w4.heap.size pid r from ⟨blk_below (blk_below HG3.out HB4.out) hal, blk_below (blk_below HG6.out HB4.out) hal, blk_new w4 _, (HB.out.trans (HB4.out.mono HB.out.size)).trans (hal.mono (HB.out.trans (HB4.out.mono HB.out.size)).size), by have := blk_lt (blk_below HG6.out HB4.out); omega⟩)
  clear hal
  go_upto_region 5 with (fail)
  clear b0 k0 k1 k2 k3 k4 k5 k6
  generalize w4.alloc (.cells (prc pid r) 77) = w5 at *
  generalize w4.heap.size = g9 at *
  have b0 : w5.cell? ⟨w.heap.size, 0, none⟩ = some (.slice (some ad) n c) := (blk_cell HSw5.out.g3 0).trans rfl
  have b1 : w5.cell? ⟨w.heap.size, 1, none⟩ = some (.int .i64 last) := (blk_cell HSw5.out.g3 1).trans rfl
  have b2 : w5.cell? ⟨w.heap.size, 2, none⟩ = some (.slice E m d) := (blk_cell HSw5.out.g3 2).trans rfl
  have HMD := Aside0.mk hmd
  have H255 := Aside0.mk h255
  clear hmd h255
  go_upto_region 8 with (go_at_call 27; (with_reducible refine (rhow_any HH.out (HR0.out.below HSw5.out.bel) last pid s HII.out).mono ?_); rintro e w6 ⟨rfl, hB⟩; rw [HHW.out]; have HSw6 := Aside0.mk (box_below HSw5.out hB); clear hB b0 b1 b2)
  have b0 : w6.cell? ⟨w.heap.size, 0, none⟩ = some (.slice (some ad) n c) := (blk_cell HSw6.out.g3 0).trans rfl
  have b1 : w6.cell? ⟨w.heap.size, 1, none⟩ = some (.int .i64 last) := (blk_cell HSw6.out.g3 1).trans rfl
  have b2 : w6.cell? ⟨w.heap.size, 2, none⟩ = some (.slice E m d) := (blk_cell HSw6.out.g3 2).trans rfl
  go_upto_region 9 with (first | (go_at_call 27; (with_reducible refine (rhow_any HH.out (HR0.out.below HSw6.out.bel) last pid s HII.out).mono ?_); rintro e w7 ⟨rfl, hB⟩; rw [HHW.out]; have HSw7 := Aside0.mk (box_below HSw6.out hB); clear hB b0 b1 b2) | (go_at_call 53; (with_reducible refine (rmild_any s _).mono ?_); rintro e w8 ⟨rfl, hB⟩; rw [HMD.out]; have HSw8 := Aside0.mk (box_below HSw7.out hB); clear hB))
  have b0 : w8.cell? ⟨w.heap.size, 0, none⟩ = some (.slice (some ad) n c) := (blk_cell HSw8.out.g3 0).trans rfl
  have b1 : w8.cell? ⟨w.heap.size, 1, none⟩ = some (.int .i64 last) := (blk_cell HSw8.out.g3 1).trans rfl
  have b2 : w8.cell? ⟨w.heap.size, 2, none⟩ = some (.slice E m d) := (blk_cell HSw8.out.g3 2).trans rfl
  have hg6w := blk_lt HSw8.out.g6
  go_wp2_with (first
    | (go_at_call 18; go_loud (refine (((rexit_yes HH.out (HR0.out.below HSw8.out.bel) last pid (128 + s) r HF.out HLV.out (by omega) (by omega) HEL.out)).mono fun _ _ q => exit_out q).mono ?_); rintro e wa ⟨A8, n8, c8, E8, m8, d8, rfl, hR, hE, hB⟩; rw [H255.out] at hR hE; have HR8 := Aside0.mk hR; have HE8 := Aside0.mk hE; have HB8 := Aside0.mk (HSw8.out.bel.trans (hB.mono HSw8.out.bel.size)); have HG6e := Aside0.mk (blk_below HSw8.out.g6 hB); clear hR hE hB b0 b1 b2)
    | ((with_reducible refine gate_st 42 6 57 rfl ?_)
       go_loud (refine tab_put rfl 6 57 rfl (w.heap.size + 1) _ A8 n8 c8 last E8 m8 d8 rfl rfl rfl HG6e.out ?_)
       intro wb hg hbx hoth
       have HX := Aside0.mk hg
       have HB9 := Aside0.mk (HB8.out.trans (hbx w.heap.size (by omega)))
       have HR9 := Aside0.mk (Kd.R_lower (base' := w.heap.size) (Kd.R_mono (ok' := ok0) (Kd.R_step (Kd.R_bound HR8.out) (fun k ho _ => hoth k (by have := ho.2.1; omega))) (fun _ _ => trivial)) HSw8.out.bel.size)
       have HE9 := Aside0.mk (Kd.R_lower (base' := w.heap.size) (Kd.R_mono (ok' := ok0) (Kd.R_step (Kd.R_bound HE8.out) (fun k ho _ => hoth k (by have := ho.2.1; omega))) (fun _ _ => trivial)) HSw8.out.bel.size)
       clear hg hbx hoth))
  ((try simp only [Exit.inBlock, Exit.then]); refine bodyPost_ret (results_ct rfl _ _ _ 42 _ (0, 0) _ rfl HX.out Tryd.underlying42 rfl (by kernel_rfl)) rfl ?_)
  exact ⟨A8, n8, c8, E8, m8, d8, rfl, by rw [if_pos rfl]; exact ⟨HR9.out, HE9.out⟩, HB9.out⟩
end
end Go.Proofs.YtbgodajbdbgdfaaDoor.Kern
/- kern: the tables of KernMany, round by round: plain laws. -/
namespace Go.Proofs.YtbgodajbdbgdfaaDoor.Kern
open Go.RowKit
set_option linter.unusedVariables false
set_option linter.unusedSimpArgs false
/-- The first process, and n that have ended. -/
def manyT (n : Nat) : Tb := fun q => if q = 1 then some (p0 0) else if 2 ≤ q ∧ q ≤ (n : Int) + 1 then some ⟨1, false, q - 2, 0, 0, 0⟩ else none
theorem many_zero : manyT 0 = one 0 := by
  funext q
  unfold manyT one
  by_cases h : q = 1
  · rw [if_pos h, if_pos h]
  · rw [if_neg h, if_neg h, if_neg (by omega)]
theorem many_first (n : Nat) : manyT n 1 = some (p0 0) := if_pos rfl
theorem many_at {n : Nat} {q : Int} (h0 : 2 ≤ q) (h1 : q ≤ (n : Int) + 1) : manyT n q = some ⟨1, false, q - 2, 0, 0, 0⟩ := by
  unfold manyT
  rw [if_neg (by omega), if_pos ⟨h0, h1⟩]
theorem many_off {n : Nat} {q : Int} (h : q ≠ 1) (h1 : ¬ (2 ≤ q ∧ q ≤ (n : Int) + 1)) : manyT n q = none := by
  unfold manyT
  rw [if_neg h, if_neg h1]
/-- .. and one more, that is live. -/
def forkT (n : Nat) : Tb := upd (manyT n) ((n : Int) + 2) (some ⟨1, true, 0, 0, 0, 0⟩)
theorem fork_at (n : Nat) : forkT n ((n : Int) + 2) = some ⟨1, true, 0, 0, 0, 0⟩ := upd_same _ _ _
theorem fork_first (n : Nat) : forkT n 1 = some (p0 0) := (upd_other (by omega)).trans (many_first n)
theorem fork_exit (n : Nat) : endd (forkT n) ((n : Int) + 2) (n : Int) = manyT (n + 1) := by
  funext q
  by_cases h : q = (n : Int) + 2
  · subst h
    rw [endd_at (fork_at n) (by unfold liv; rw [fork_first]), many_at (by omega) (by omega)]
    simp
  · rw [endd_other (fork_at n) h]
    unfold forkT
    rw [upd_other h]
    by_cases h1 : q = 1
    · subst h1
      rw [many_first, many_first]
      show aft ((n : Int) + 2) 1 (p0 0) = _
      unfold aft
      rw [if_neg (by show ¬ (0 : Int) = (n : Int) + 2; omega)]
    · by_cases h2 : 2 ≤ q ∧ q ≤ (n : Int) + 1
      · rw [many_at h2.1 h2.2, many_at h2.1 (by omega)]
        show aft ((n : Int) + 2) q ⟨1, false, q - 2, 0, 0, 0⟩ = _
        unfold aft
        rw [if_neg (by show ¬ (1 : Int) = (n : Int) + 2; omega)]
      · rw [many_off h1 h2, many_off h1 (by omega)]
        rfl
/-- All that there are. -/
def manyL (n : Nat) : List Int := 1 :: (List.range n).map fun i : Nat => (i : Int) + 2
theorem manyL_len (n : Nat) : (manyL n).length = n + 1 := by simp [manyL]
theorem manyL_nodup (n : Nat) : (manyL n).Nodup := by
  unfold manyL
  rw [List.nodup_cons]
  constructor
  · intro h
    obtain ⟨i, _, e⟩ := List.mem_map.1 h
    omega
  · rw [List.nodup_iff_pairwise_ne, List.pairwise_map]
    refine (List.nodup_iff_pairwise_ne.1 List.nodup_range).imp ?_
    intro a b h e
    apply h
    omega
theorem manyL_mem (n : Nat) : ∀ q, q ∈ manyL n ↔ manyT n q ≠ none := by
  intro q
  unfold manyL
  rw [List.mem_cons, List.mem_map]
  by_cases h1 : q = 1
  · subst h1
    rw [many_first]
    simp
  · by_cases h2 : 2 ≤ q ∧ q ≤ (n : Int) + 1
    · rw [many_at h2.1 h2.2]
      constructor
      · intro _; simp
      · intro _
        exact .inr ⟨(q - 2).toNat, by rw [List.mem_range]; omega, by omega⟩
    · rw [many_off h1 h2]
      constructor
      · rintro (h | ⟨i, hi, e⟩)
        · exact absurd h h1
        · rw [List.mem_range] at hi
          omega
      · intro h; exact absurd rfl h
theorem many_ch (n : Nat) (q : Int) : chB (manyT n) 1 q = (decide (2 ≤ q) && decide (q ≤ (n : Int) + 1)) := by
  unfold chB
  by_cases h1 : q = 1
  · subst h1
    rw [many_first]
    rfl
  · by_cases h2 : 2 ≤ q ∧ q ≤ (n : Int) + 1
    · rw [many_at h2.1 h2.2, decide_eq_true h2.1, decide_eq_true h2.2]
      show ((1 : Int) == 1 && liv (manyT n) 1) = _
      unfold liv
      rw [many_first]
      rfl
    · rw [many_off h1 h2]
      by_cases h3 : 2 ≤ q
      · rw [decide_eq_true h3, decide_eq_false (show ¬ q ≤ (n : Int) + 1 by omega)]; rfl
      · rw [decide_eq_false h3]; rfl
theorem many_count (n : Nat) : ((manyL n).filter (chB (manyT n) 1)).length = n := by
  unfold manyL
  rw [List.filter_cons, if_neg (by rw [many_ch]; simp), List.filter_map, List.length_map, List.filter_eq_self.2, List.length_range]
  intro i hi
  rw [List.mem_range] at hi
  show chB (manyT n) 1 ((i : Int) + 2) = true
  rw [many_ch, decide_eq_true (by omega), decide_eq_true (by omega)]
  rfl
/-- Who is reaped leaves nothing. -/
def oneF (i : Int) : Tb := upd (one 0) (i + 2) (some ⟨1, true, 0, 0, 0, 0⟩)
theorem oneF_at (i : Int) : oneF i (i + 2) = some ⟨1, true, 0, 0, 0, 0⟩ := upd_same _ _ _
theorem oneF_first {i : Int} (h : 0 ≤ i) : oneF i 1 = some (p0 0) := (upd_other (by omega)).trans (if_pos rfl)
theorem oneF_exit {i : Int} (h : 0 ≤ i) : endd (oneF i) (i + 2) i (i + 2) = some ⟨1, false, i, 0, 0, 0⟩ := endd_at (oneF_at i) (by unfold liv; show (match oneF i 1 with | some r => r.live | none => false) = true; rw [oneF_first h])
theorem oneF_ch {i : Int} (h : 0 ≤ i) : chB (endd (oneF i) (i + 2) i) 1 (i + 2) = true := by
  unfold chB
  rw [oneF_exit h]
  show ((1 : Int) == 1 && liv (endd (oneF i) (i + 2) i) 1) = true
  unfold liv
  rw [endd_other (oneF_at i) (show (1 : Int) ≠ i + 2 by omega), oneF_first h]
  show ((1 : Int) == 1 && (match aft (i + 2) 1 (p0 0) with | some r => r.live | none => false)) = true
  unfold aft
  rw [if_neg (by show ¬ (0 : Int) = i + 2; omega)]
  rfl
theorem oneF_reap {i : Int} (h : 0 ≤ i) : upd (endd (oneF i) (i + 2) i) (i + 2) none = one 0 := by
  funext q
  by_cases e : q = i + 2
  · subst e
    rw [upd_same]
    unfold one
    rw [if_neg (show ¬ i + 2 = 1 by omega)]
  · rw [upd_other e, endd_other (oneF_at i) e]
    unfold oneF
    rw [upd_other e]
    unfold one
    by_cases h1 : q = 1
    · rw [if_pos h1]
      show aft (i + 2) q (p0 0) = _
      unfold aft
      rw [if_neg (by show ¬ (0 : Int) = i + 2; omega)]
    · rw [if_neg h1]; rfl
end Go.Proofs.YtbgodajbdbgdfaaDoor.Kern
/- kern: Ends, Children, and a fork that finds no room: their contracts. -/
namespace Go.Proofs.YtbgodajbdbgdfaaDoor.Kern
open Go.RowKit Go.Proofs.YtbgodajbdbgdfaaDoorW.PrintWords Go.Proofs.YtbgodajbdbgdfaaDoorW.PrintLast Go.Proofs.YtbgodajbdbgdfaaDoor.Sig Go.Proofs.YtbgodajbdbgdfaaDoor.Base Go.Proofs.YtbgodajbdbgdfaaDoor.Seq Go.Maps Go.Sort Go.Lib
set_option linter.unusedVariables false
set_option linter.unusedSimpArgs false
/-- A row of ends that is handed back. -/
def EndsOut (w w' : World) (e : Ending) (k : Nat) (xs : List (Int × Int)) : Prop := ∃ A1 c1, e = .returned (.slice A1 k c1) ∧ kEnd.C w' A1 k xs ∧ k ≤ c1 ∧ Below w.heap.size w w'
theorem flat_end : Flat kEnd := fun _ _ _ _ _ _ h => h
section
variable {w : World} {base g m n : Nat} {X : Gh} {D : Dm} {B : Int → Nat} {v : Value} {f : Tb} {last : Int} {ends : List (Int × Int)}
set_option maxHeartbeats 2000000 in
set_option maxRecDepth 100000 in
theorem clone_any (A : Option Addr) (k c : Nat) (xs : List (Int × Int)) (w : World) (hr : kEnd.C w A k xs) (hz : A = none → k = 0) (hl : k ≤ 1000000) :
    Calls Tryd.prog 36 #[.slice A k c] w fun e w' => EndsOut w w' e k xs := by
  cases A with
  | none =>
    obtain rfl := hz rfl
    have HC := Aside0.mk hr
    have q0 := fun w a n c n' c' => Lib.run_eql_slice_nil w _ _ a n c n' c' Tryd.underlying34
    clear hr
    go_enter Tryd.func36, Tryd.ntmps36
    go_wp2
    go_ret
    exact ⟨none, 0, rfl, HC.out, Nat.le_refl _, Below.refl _ _⟩
  | some ad =>
    have HC := Aside0.mk hr
    have q0 := fun w a n c n' c' => Lib.run_eql_slice_nil w _ _ a n c n' c' Tryd.underlying34
    have HL := Aside0.mk hr.1
    clear hr hz
    go_enter Tryd.func36, Tryd.ntmps36
    go_wp2_with (first | (
      (with_reducible refine gate_dst (N := 7) rfl ?_)
      go_loud (refine R_app kEnd flat_end w.heap.size (N := 7) (w0 := w) (W := w.alloc (.cells #[] 73)) rfl rfl (.tmp 5) (.tmp 6) 34 73 (.agg #[.int .i64 0, .int .i64 0]) 16 rfl Tryd.underlying34 (by kernel_rfl) rfl (by decide) (by decide) (.slice (some ⟨w.heap.size, 0, none⟩) 0 0) [] xs (some ad) k c rfl rfl (R_empty (blk_new w _) (Nat.le_refl _)) (Kd.C_below HC.out (below_alloc (Below.refl _ _) _)) (below_alloc (Below.refl _ _) _) (below_alloc (Below.refl _ _) _).size (by simp; omega) ?_)
      intro v1 w1 hR hB hG
      obtain ⟨A1, n1, c1, rfl⟩ := R_slice3 hR
      have HR1 := Aside0.mk hR
      have HB1 := Aside0.mk hB
      clear hR hB hG))
    go_ret
    obtain ⟨e1, e2, e3⟩ := Kd.R_reads' HR1.out
    have e4 : ([] ++ xs).length = k := HL.out
    rw [e4] at e1 e3
    subst e1
    exact ⟨A1, c1, rfl, e3, e2, HB1.out⟩
set_option maxHeartbeats 2000000 in
set_option maxRecDepth 100000 in
theorem ends_any (h : TV w base X g m n D B v f last ends) (hl : ends.length ≤ 1000000) :
    Calls Tryd.prog 11 #[.pointer (some ⟨g, 0, none⟩)] w fun e w' => EndsOut w w' e ends.length ends := by
  obtain ⟨A, c, rfl⟩ := Kd.R_slice h.row
  obtain ⟨_, _, hC⟩ := Kd.R_reads' h.row
  have hz : A = none → ends.length = 0 := by
    rintro rfl
    rcases Nat.eq_zero_or_pos ends.length with h0 | h0
    · exact h0
    · obtain ⟨_, e, _⟩ := hC.2.2 h0
      cases e
  have c2 : w.cell? ⟨g, 2, none⟩ = some (.slice A ends.length c) := (blk_cell h.hg 2).trans rfl
  have HC := Aside0.mk hC
  have HZ := Aside0.mk hz
  clear h hC hz
  generalize ends.length = k at *
  go_enter Tryd.func11, Tryd.ntmps11
  go_wp2_with (go_at_call 36; (with_reducible refine (clone_any A k c ends w HC.out HZ.out hl).mono ?_); rintro e w1 ⟨A1, c1, rfl, hC, hc, hB⟩; have H1 := Aside0.mk hC; have H2 := Aside0.mk hc; have H3 := Aside0.mk hB; clear hC hc hB)
  go_ret
  exact ⟨A1, c1, rfl, H1.out, H2.out, H3.out⟩
set_option maxHeartbeats 2000000 in
set_option maxRecDepth 100000 in
theorem forkfull_any (h : TV w base X g m n D B v f last ends) (pid : Int) (hp : (Lit.int .i64 pid).wf = true) (hl : liv f pid = true) (hsz : 64 ≤ Maps.size D) :
    Calls Tryd.prog 7 #[.pointer (some ⟨g, 0, none⟩), .int .i64 pid] w fun e w' => e = .returned (.tuple #[.int .i64 0, .int .i64 4]) ∧ w = w' := by
  have H := Aside0.mk h
  have HP := Aside0.mk hp
  have c0 : w.cell? ⟨g, 0, none⟩ = some (.map (some m)) := (blk_cell h.hg 0).trans rfl
  have hge : decide ((64 : Int) ≤ (Maps.size D : Int)) = true := decide_eq_true (by omega)
  have HO := Aside0.mk h.own
  clear h hp
  go_enter Tryd.func7, Tryd.ntmps7
  go_wp2_with (first
    | (go_at_call 35; (with_reducible refine (liv_ptr H.out pid HP.out).mono ?_); rintro e w1 ⟨rfl, rfl⟩; rw [hl]; simp only [ptr, if_true])
    | (at_len; refine wpList_len_own _ rfl _ 68 rfl 3 63 Tryd.underlying68 Rp m n D rfl HO.out ?_))
  go_ret2
  exact ⟨rfl, rfl⟩
set_option maxHeartbeats 2000000 in
set_option maxRecDepth 100000 in
theorem chi_any (h : TV w base X g m n D B v f last ends) (par x : Int) (hq : (Lit.int .i64 par).wf = true) (hp : (Lit.int .i64 x).wf = true) (b2 b3 : Nat) (c2 : w.cell? ⟨b2, 0, none⟩ = some (.pointer (some ⟨g, 0, none⟩))) (c3 : w.cell? ⟨b3, 0, none⟩ = some (.int .i64 par)) :
    Calls Tryd.prog 38 #[.int .i64 x, .pointer (some ⟨b2, 0, none⟩), .pointer (some ⟨b3, 0, none⟩)] w fun e w' => e = .returned (.bool (chB f par x)) ∧ w = w' := by
  have H := Aside0.mk h
  have HP := Aside0.mk hp
  have HQ := Aside0.mk hq
  clear h hp hq
  go_enter Tryd.func38, Tryd.ntmps38
  go_wp2_with (go_at_call 28; (with_reducible refine (child_any H.out par x HP.out HQ.out).mono ?_); rintro e w1 ⟨rfl, rfl⟩)
  go_ret
  exact ⟨rfl, rfl⟩
set_option maxHeartbeats 2000000 in
set_option maxRecDepth 100000 in
theorem som_any (h : TV w base X g m n D B v f last ends) (par x : Int) (hq : (Lit.int .i64 par).wf = true) (hp : (Lit.int .i64 x).wf = true) (b1 b2 b3 : Nat) (c1 : w.cell? ⟨b1, 0, none⟩ = some (.func (.func 38) #[] #[.pointer (some ⟨b2, 0, none⟩), .pointer (some ⟨b3, 0, none⟩)])) (c2 : w.cell? ⟨b2, 0, none⟩ = some (.pointer (some ⟨g, 0, none⟩))) (c3 : w.cell? ⟨b3, 0, none⟩ = some (.int .i64 par)) :
    Calls Tryd.prog 61 #[.int .i64 x, .pointer (some ⟨b1, 0, none⟩)] w fun e w' => e = .returned (.bool (!chB f par x)) ∧ w = w' := by
  have H := Aside0.mk h
  have HP := Aside0.mk hp
  have HQ := Aside0.mk hq
  have C2 := Aside0.mk c2
  have C3 := Aside0.mk c3
  clear h hp hq c2 c3
  go_enter Tryd.func61, Tryd.ntmps61
  go_wp2_with ((with_reducible refine (chi_any H.out par x HQ.out HP.out b2 b3 C2.out C3.out).mono ?_); rintro e w1 ⟨rfl, rfl⟩)
  go_ret
  exact ⟨rfl, rfl⟩
/-- The numbers of the kind. -/
abbrev Wf := { x : Int // (Lit.int .i64 x).wf = true }
instance : Inhabited Wf := ⟨⟨0, by decide⟩⟩
def encW (x : Wf) : Value := .int .i64 x.1
theorem below_sorted {W W' : World} {d : Array Wf} {blk k : Nat} {os : Array Obj} (h : Below W.heap.size W W') (hb : W.heap.size ≤ blk) : Below W.heap.size W (sortWorld encW W' blk 0 k d os) :=
  (below_putRow (q := k) (d := d) (enc := encW) h hb).trans ((_root_.Go.Proofs.below_grown (putRow encW (Sort.ahead W' k) blk 0 d) 0 os).mono (by rw [size_putRow]; exact h.size))
theorem delnil_any (fv : Value) (W : World) : Calls Tryd.prog 58 #[.slice none 0 0, fv] W fun e w' => e = .returned (.slice none 0 0) ∧ W = w' := by
  go_enter Tryd.func58, Tryd.ntmps58
  go_wp2_with (go_at_call 65; (with_reducible refine (Tryd.slices_IndexFunc_empty (α := Int) none 0 fv W).mono ?_); rintro e w1 ⟨rfl, rfl⟩)
  go_ret
  exact ⟨rfl, rfl⟩
theorem pmap_val {p : Int → Prop} : ∀ (L : List Int) (h : ∀ x ∈ L, p x), (L.pmap (fun x hx => (⟨x, hx⟩ : { x : Int // p x })) h).map (·.1) = L := by
  intro L h
  rw [List.map_pmap]
  simp
theorem del_any (h : TV w base X g m n D B v f last ends) (par : Int) (hq : (Lit.int .i64 par).wf = true) (b1 b2 b3 : Nat) (c1 : w.cell? ⟨b1, 0, none⟩ = some (.func (.func 38) #[] #[.pointer (some ⟨b2, 0, none⟩), .pointer (some ⟨b3, 0, none⟩)])) (c2 : w.cell? ⟨b2, 0, none⟩ = some (.pointer (some ⟨g, 0, none⟩))) (c3 : w.cell? ⟨b3, 0, none⟩ = some (.int .i64 par))
    (W : World) (hB : Below w.heap.size w W) (blk cap : Nat) (L : List Int) (hL : ∀ x ∈ L, (Lit.int .i64 x).wf = true) (hblk : w.heap.size ≤ blk) (hH : Holds encZ W blk 0 L.toArray) (hcap : L.length ≤ cap) (hlen : L.length ≤ 1000000) :
    Calls Tryd.prog 58 #[.slice (some ⟨blk, 0, none⟩) L.length cap, .func (.func 61) #[] #[.pointer (some ⟨b1, 0, none⟩)]] W fun e w' =>
      ∃ A n1 q1, e = .returned (.slice A n1 q1) ∧ (Kd.int .i64).C w' A n1 (L.filter (chB f par)) ∧ n1 ≤ q1 ∧ Below w.heap.size w w' := by
  obtain ⟨d, hd⟩ : ∃ d : Array Wf, d.toList.map (·.1) = L := ⟨(L.pmap (fun x hx => (⟨x, hx⟩ : Wf)) hL).toArray, by rw [List.toList_toArray]; exact pmap_val L hL⟩
  have hds : d.size = L.length := by rw [← hd, List.length_map, Array.length_toList]
  have hget : ∀ j, (hj : j < d.size) → (d[j]!).1 = L.toArray[j]! := by
    intro j hj
    have hj2 : j < L.length := by omega
    rw [getElem!_pos d j hj, getElem!_pos L.toArray j (by simpa using hj2)]
    simp only [List.getElem_toArray]
    have : (d.toList.map (·.1))[j]'(by simpa using hj) = L[j] := by simp only [hd]
    rw [← this]
    simp
  have hp : PredAt Tryd.prog 61 #[.pointer (some ⟨b1, 0, none⟩)] encW (fun x => !chB f par x.1) W := fun W' x hb' => by
    have hbb := hB.trans (hb'.mono hB.size)
    refine (som_any (h.below hbb) par x.1 hq x.2 b1 b2 b3 (pw_cell_below hbb c1) (pw_cell_below hbb c2) (pw_cell_below hbb c3)).mono ?_
    rintro e w' ⟨rfl, rfl⟩
    exact ⟨rfl, 0, rfl⟩
  have hpo : PredOver Tryd.prog 61 #[.pointer (some ⟨b1, 0, none⟩)] encW (fun x => !chB f par x.1) blk 0 d.size W := fun k os dk x _ => by
    have hbb : Below w.heap.size w (sortWorld encW W blk 0 k dk os) := below_sorted hB hblk
    refine (som_any (h.below hbb) par x.1 hq x.2 b1 b2 b3 (pw_cell_below hbb c1) (pw_cell_below hbb c2) (pw_cell_below hbb c3)).mono ?_
    rintro e w' ⟨rfl, rfl⟩
    exact ⟨rfl, 0, rfl⟩
  have hH' : Holds encW W blk 0 d := fun j hj => by
    have := hH j (by simpa using (show j < L.length by omega))
    rw [← hget j hj] at this
    exact this
  have hcon := Tryd.slices_DeleteFunc encW (fun _ => rfl) (fun x => !chB f par x.1) 61 #[.pointer (some ⟨b1, 0, none⟩)] (enters_of Tryd.func61 (by kernel_rfl) rfl) ⟨0, by decide⟩ Tryd.zeroValue3 blk 0 cap d W hp hpo hH' (by omega) (by omega)
  rw [hds] at hcon
  refine hcon.mono ?_
  rintro e w' ⟨rfl, q, rfl⟩
  have hfl : (d.toList.filter fun x : Wf => !(!chB f par x.1)).map (·.1) = L.filter (chB f par) := by
    rw [← hd, List.filter_map]
    congr 2
    funext x
    simp
  have hle : (d.toList.filter fun x : Wf => !(!chB f par x.1)).length ≤ d.size := by
    have := List.length_filter_le (fun x : Wf => !(!chB f par x.1)) d.toList
    rwa [Array.length_toList] at this
  rw [hds] at hle
  generalize (d.toList.filter fun x : Wf => !(!chB f par x.1)) = F at *
  refine ⟨some ⟨blk, 0, none⟩, F.length, cap, rfl, ⟨by rw [← hfl, List.length_map], by omega, fun hpos => ⟨_, rfl, fun j p hj => ⟨[.int .i64 p], rfl, rfl, ?_⟩⟩⟩, by omega, below_putRow hB hblk⟩
  intro i u hu
  obtain ⟨rfl, rfl⟩ : i = 0 ∧ Value.int .i64 p = u := by
    cases i with
    | zero => simpa using hu
    | succ i => simp at hu
  rw [← hfl, List.getElem?_map] at hj
  obtain ⟨x, hx, rfl⟩ := Option.map_eq_some_iff.1 hj
  have hjl : j < F.length := (List.getElem?_eq_some_iff.1 hx).1
  have key := cell?_putRow encW (Sort.ahead W q) blk 0 d ((F ++ List.replicate (L.length - F.length) (⟨0, by decide⟩ : Wf)).toArray) hH' (by simp; omega) j (by simp; omega)
  rw [show j * (Kd.int .i64).sz + 0 = j by show j * 1 + 0 = j; omega, show (⟨blk, 0, none⟩ : Addr).add j = ⟨blk, 0 + j, none⟩ by unfold Addr.add; by_cases h0 : j = 0 <;> simp [h0]]
  refine key.trans ?_
  rw [getElem!_pos _ j (by simp; omega), List.getElem_toArray, List.getElem_append_left hjl]
  rw [List.getElem?_eq_getElem hjl] at hx
  rw [Option.some.inj hx]
  rfl
/-- A row of numbers that is handed back. -/
def FilOut (w w' : World) (e : Ending) (l : List Int) : Prop := ∃ A n q, e = .returned (.slice A n q) ∧ (Kd.int .i64).C w' A n l ∧ n ≤ q ∧ Below w.heap.size w w'
theorem del_row (h : TV w base X g m n D B v f last ends) (par : Int) (hq : (Lit.int .i64 par).wf = true) (b1 b2 b3 : Nat) (c1 : w.cell? ⟨b1, 0, none⟩ = some (.func (.func 38) #[] #[.pointer (some ⟨b2, 0, none⟩), .pointer (some ⟨b3, 0, none⟩)])) (c2 : w.cell? ⟨b2, 0, none⟩ = some (.pointer (some ⟨g, 0, none⟩))) (c3 : w.cell? ⟨b3, 0, none⟩ = some (.int .i64 par))
    (W : World) (hB : Below w.heap.size w W) (u : Value) (L : List Int) (hL : ∀ x ∈ L, (Lit.int .i64 x).wf = true) (hrow : W.ownsRow w.heap.size 3 1 u L.length (L.map encZ)) (hlen : L.length ≤ 1000000) :
    Calls Tryd.prog 58 #[u, .func (.func 61) #[] #[.pointer (some ⟨b1, 0, none⟩)]] W fun e w' => FilOut w w' e (L.filter (chB f par)) := by
  rcases hrow.2 with ⟨rfl, hz⟩ | ⟨gb, cap, cur, rfl, hbase, hgb, r1, r2, r3, r4⟩
  · obtain rfl : L = [] := List.eq_nil_of_length_eq_zero hz
    refine (delnil_any _ W).mono ?_
    rintro e w' ⟨rfl, rfl⟩
    exact ⟨none, 0, 0, rfl, ⟨rfl, by omega, fun h => absurd h (Nat.lt_irrefl 0)⟩, Nat.le_refl _, hB⟩
  · refine (del_any h par hq b1 b2 b3 c1 c2 c3 W hB gb cap L hL hbase (holds_of_block_i hgb (by simpa using r4)) r1 hlen).mono ?_
    rintro e w' ⟨A, n1, q1, rfl, h1, h2, h3⟩
    exact ⟨A, n1, q1, rfl, h1, h2, h3⟩
theorem sortsA (k : Nat) : AnyZI.SortsIn Tryd.prog Tryd.sortedA_ren Fence.wide k :=
  ⟨fun blk off cap ss W hH hblk hsz => callsIn_wide.2 (Tryd.slices_Sort_int blk off cap ss W hH hblk hsz), fun p cap W => callsIn_wide.2 (Tryd.slices_Sort_int_none p cap W)⟩
theorem keys_call (mb : Option Nat) (W : World) : Calls Tryd.prog 60 #[.map mb] W fun e w' => e = .returned (.func (.func 68) #[] #[.pointer (some ⟨W.heap.size, 0, none⟩)]) ∧ w' = W.alloc (.cells #[.map mb] 68) :=
  callsIn_wide.1 (AnyZI.keys_in Tryd.keysA Fence.wide 5 trivial rfl mb W)
/-- A row that is the keys, sorted. -/
def SortOut (w w' : World) (e : Ending) (D : Dm) : Prop := ∃ (u : Value) (L : List Int), e = .returned u ∧ L.Perm (intKeys D) ∧ L.Pairwise (fun x y => x ≤ y) ∧ w'.ownsRow w.heap.size 3 1 u L.length (L.map encZ) ∧ Below w.heap.size w w'
set_option maxHeartbeats 1000000 in
theorem sorted_call (h : TV w base X g m n D B v f last ends) : Calls Tryd.prog 59 #[.func (.func 68) #[] #[.pointer (some ⟨w.heap.size, 0, none⟩)]] (w.alloc (.cells #[.map (some m)] 68)) fun e w' => SortOut (w.alloc (.cells #[.map (some m)] 68)) w' e D := by
  have hbl := h.own.lt
  have hsz : Maps.size D ≤ 1000000 := Nat.le_trans h.own.size_le (by have := h.cnt; have := h.lmt; omega)
  have hown2 : (w.alloc (.cells #[.map (some m)] 68)).ownsMap Tryd.prog 3 Rp m n D := own_below h.own (below_alloc (Below.refl _ _) _)
  have hseq : SeqGives Fence.wide 2 Tryd.prog 68 #[.pointer (some ⟨w.heap.size, 0, none⟩)] encZ (fun ss => ss.Perm (intKeys D)) (Maps.size D) (w.alloc (.cells #[.map (some m)] 68)) :=
    AnyZI.keys_gives (ρ := Tryd.keysA_ren) { Tryd.keysA with } Fence.wide _ trivial rfl (by omega) w.heap.size m n D _ (by simp) (by simp) hown2
  have cS := AnyZI.sorted_in Tryd.sortedA Fence.wide 5 trivial trivial trivial trivial rfl (by omega) (sortsA _) (enters_of Tryd.func67 (by kernel_rfl) rfl) 68 #[.pointer (some ⟨w.heap.size, 0, none⟩)] trivial (enters_of Tryd.func68 (by kernel_rfl) rfl) _ _ (by unfold maxLen; omega) (by omega) _ hseq
  change CallsIn _ _ Tryd.prog 59 _ _ _ at cS
  refine (callsIn_wide.1 cS).mono ?_
  rintro e w' ⟨u, ss, rfl, hS, hrow, _, hb⟩
  have hlen : ss.length = (ss.mergeSort fun x y => decide (x ≤ y)).length := (List.length_mergeSort _).symm
  refine ⟨u, ss.mergeSort (fun x y => decide (x ≤ y)), rfl, (List.mergeSort_perm _ _).trans hS, ?_, by rw [← hlen]; exact hrow, hb⟩
  refine (List.pairwise_mergeSort (le := fun x y => decide (x ≤ y)) ?_ ?_ ss).imp ?_
  · intro a b c h1 h2
    simp only [decide_eq_true_eq] at *
    exact Int.le_trans h1 h2
  · intro a b
    simp only [Bool.or_eq_true, decide_eq_true_eq]
    exact Int.le_total a b
  · intro a b h1
    exact of_decide_eq_true h1
theorem keys_len (D : Dm) : (intKeys D).length = Maps.size D := by
  cases D <;> simp [intKeys, Maps.size]
/-- The keys that are such, sorted. -/
def KeysOut (w w' : World) (e : Ending) (p : Int → Bool) (D : Dm) : Prop := ∃ (A : Option Addr) (n q : Nat) (L : List Int), e = .returned (.slice A n q) ∧ (Kd.int .i64).C w' A n (L.filter p) ∧ n ≤ q ∧ L.Perm (intKeys D) ∧ L.Pairwise (fun x y => x ≤ y) ∧ Below w.heap.size w w'
set_option maxHeartbeats 2000000 in
set_option maxRecDepth 100000 in
theorem some_ch (h : TV w base X g m n D B v f last ends) (par : Int) (hq : (Lit.int .i64 par).wf = true) (b2 b3 : Nat) (c2 : w.cell? ⟨b2, 0, none⟩ = some (.pointer (some ⟨g, 0, none⟩))) (c3 : w.cell? ⟨b3, 0, none⟩ = some (.int .i64 par)) :
    Calls Tryd.prog 37 #[.pointer (some ⟨g, 0, none⟩), .func (.func 38) #[] #[.pointer (some ⟨b2, 0, none⟩), .pointer (some ⟨b3, 0, none⟩)]] w fun e w' => KeysOut w w' e (chB f par) D := by
  have HQ := Aside0.mk hq
  have hB1 := below_alloc (Below.refl w.heap.size w) (.cells #[.func (.func 38) #[] #[.pointer (some ⟨b2, 0, none⟩), .pointer (some ⟨b3, 0, none⟩)]] 55)
  have HG1 := Aside0.mk (blk_new w (.cells #[.func (.func 38) #[] #[.pointer (some ⟨b2, 0, none⟩), .pointer (some ⟨b3, 0, none⟩)]] 55))
  have HT1 := Aside0.mk (h.below hB1)
  have C2 := Aside0.mk (pw_cell_below hB1 c2)
  have C3 := Aside0.mk (pw_cell_below hB1 c3)
  have HB1 := Aside0.mk hB1
  clear h hq c2 c3 hB1
  go_enter Tryd.func37, Tryd.ntmps37
  go_upto_region 1 with (fail)
  generalize w.alloc (.cells #[.func (.func 38) #[] #[.pointer (some ⟨b2, 0, none⟩), .pointer (some ⟨b3, 0, none⟩)]] 55) = w1 at *
  have c0 : w1.cell? ⟨g, 0, none⟩ = some (.map (some m)) := (blk_cell HT1.out.hg 0).trans rfl
  have HB2 := Aside0.mk (below_alloc (Below.refl w1.heap.size w1) (.cells #[.map (some m)] 68))
  have C1 := Aside0.mk ((blk_cell HG1.out 0).trans rfl : w1.cell? ⟨w.heap.size, 0, none⟩ = some (.func (.func 38) #[] #[.pointer (some ⟨b2, 0, none⟩), .pointer (some ⟨b3, 0, none⟩)]))
  go_wp2_with (first
    | (go_at_call 60; (with_reducible refine (keys_call (some m) w1).mono ?_); rintro e w2 ⟨rfl, rfl⟩)
    | (go_at_call 59; (with_reducible refine (sorted_call HT1.out).mono ?_); rintro e w3 ⟨u, L, rfl, hP, hW, hrow, hb⟩; have H1 := Aside0.mk hP; have H2 := Aside0.mk hW; have H3 := Aside0.mk hrow; have H4 := Aside0.mk hb; clear hP hW hrow hb)
    | (go_at_call 58; (with_reducible refine (del_row (HT1.out.below HB2.out) par HQ.out w.heap.size b2 b3 (pw_cell_below HB2.out C1.out) (pw_cell_below HB2.out C2.out) (pw_cell_below HB2.out C3.out) w3 H4.out u L (fun x hx => intKeys_wf HT1.out.own Tryd.underlying3 x (H1.out.mem_iff.1 hx)) H3.out (by rw [H1.out.length_eq, keys_len]; exact Nat.le_trans HT1.out.own.size_le (by have := HT1.out.cnt; have := HT1.out.lmt; omega))).mono ?_); rintro e w4 ⟨A, n1, q1, rfl, hC, hq, hb⟩; have H5 := Aside0.mk hC; have H6 := Aside0.mk hq; have H7 := Aside0.mk hb; clear hC hq hb))
  go_ret
  exact ⟨A, n1, q1, L, rfl, H5.out, H6.out, H1.out, H2.out, HB1.out.trans ((HB2.out.trans (H7.out.mono HB2.out.size)).mono HB1.out.size)⟩
set_option maxHeartbeats 2000000 in
set_option maxRecDepth 100000 in
theorem children_any (h : TV w base X g m n D B v f last ends) (par : Int) (hq : (Lit.int .i64 par).wf = true) :
    Calls Tryd.prog 12 #[.pointer (some ⟨g, 0, none⟩), .int .i64 par] w fun e w' => KeysOut w w' e (chB f par) D := by
  have hB := below_alloc (below_alloc (Below.refl w.heap.size w) (.cells #[.pointer (some ⟨g, 0, none⟩)] 23)) (.cells #[.int .i64 par] 3)
  have HT1 := Aside0.mk (h.below hB)
  have hG2 := blk_below (blk_new w (.cells #[.pointer (some ⟨g, 0, none⟩)] 23)) (below_alloc (Below.refl _ _) (.cells #[.int .i64 par] 3))
  have hG3 := blk_new (w.alloc (.cells #[.pointer (some ⟨g, 0, none⟩)] 23)) (.cells #[.int .i64 par] 3)
  rw [show (w.alloc (.cells #[.pointer (some ⟨g, 0, none⟩)] 23)).heap.size = w.heap.size + 1 by simp] at hG3
  have HQ := Aside0.mk hq
  have HB := Aside0.mk hB
  clear h hq hB
  go_enter Tryd.func12, Tryd.ntmps12
  go_upto_region 1 with (fail)
  generalize (w.alloc (.cells #[.pointer (some ⟨g, 0, none⟩)] 23)).alloc (.cells #[.int .i64 par] 3) = w1 at *
  have c2 : w1.cell? ⟨w.heap.size, 0, none⟩ = some (.pointer (some ⟨g, 0, none⟩)) := (blk_cell hG2 0).trans rfl
  have c3 : w1.cell? ⟨w.heap.size + 1, 0, none⟩ = some (.int .i64 par) := (blk_cell hG3 0).trans rfl
  clear hG2 hG3
  generalize w.heap.size + 1 = b3 at *
  go_wp2_with (go_at_call 37; (with_reducible refine (some_ch HT1.out par HQ.out w.heap.size b3 c2 c3).mono ?_); rintro e w2 ⟨A, n1, q1, L, rfl, hC, hq, hP, hW, hb⟩; have H1 := Aside0.mk hC; have H2 := Aside0.mk hq; have H3 := Aside0.mk hP; have H4 := Aside0.mk hW; have H5 := Aside0.mk hb; clear hC hq hP hW hb)
  go_ret
  exact ⟨A, n1, q1, L, rfl, H1.out, H2.out, H3.out, H4.out, HB.out.trans (H5.out.mono HB.out.size)⟩
end
end Go.Proofs.YtbgodajbdbgdfaaDoor.Kern
/- kern: what is refused; Put of 1; Take; Procs: their contracts. -/
namespace Go.Proofs.YtbgodajbdbgdfaaDoor.Kern
open Go.RowKit Go.Proofs.YtbgodajbdbgdfaaDoorW.PrintWords Go.Proofs.YtbgodajbdbgdfaaDoorW.PrintLast Go.Proofs.YtbgodajbdbgdfaaDoor.Sig Go.Proofs.YtbgodajbdbgdfaaDoor.Base Go.Proofs.YtbgodajbdbgdfaaDoor.Seq Go.Maps
set_option linter.unusedVariables false
set_option linter.unusedSimpArgs false
section
variable {w : World} {base g m n : Nat} {X : Gh} {D : Dm} {B : Int → Nat} {v : Value} {f : Tb} {last : Int} {ends : List (Int × Int)}
set_option maxHeartbeats 4000000 in
set_option maxRecDepth 100000 in
theorem forkno_any (h : TV w base X g m n D B v f last ends) (pid : Int) (hp : (Lit.int .i64 pid).wf = true) (hl : liv f pid = false) :
    Calls Tryd.prog 7 #[.pointer (some ⟨g, 0, none⟩), .int .i64 pid] w fun e w' => e = .returned (.tuple #[.int .i64 0, .int .i64 3]) ∧ w = w' := by
  have HT := Aside0.mk h
  have HP := Aside0.mk hp
  have HB := Aside0.mk (Below.refl w.heap.size w)
  clear h hp
  go_enter Tryd.func7, Tryd.ntmps7
  go_wp2_with (first
    | (go_at_call 35; (with_reducible refine (liv_ptr HT.out pid HP.out).mono ?_); rintro e w1 ⟨rfl, rfl⟩; rw [hl]; simp only [ptr, Bool.false_eq_true, if_false]))
  go_ret2
  exact ⟨rfl, rfl⟩
set_option maxHeartbeats 4000000 in
set_option maxRecDepth 100000 in
theorem sendnosig_any (h : TV w base X g m n D B v f last ends) (pid s : Int) (hp : (Lit.int .i64 pid).wf = true) (hl : liv f pid = true) (hs1 : isg s = false) :
    Calls Tryd.prog 16 #[.pointer (some ⟨g, 0, none⟩), .int .i64 pid, .int .i64 s] w fun e w' => e = .returned (.bool false) ∧ Below w.heap.size w w' := by
  have HT := Aside0.mk h
  have HP := Aside0.mk hp
  have HB := Aside0.mk (Below.refl w.heap.size w)
  have HS := Aside0.mk hs1
  clear h hp hs1
  go_enter Tryd.func16, Tryd.ntmps16
  go_wp2_with (first
    | (go_at_call 35; (with_reducible refine (liv_ptr HT.out pid HP.out).mono ?_); rintro e w1 ⟨rfl, rfl⟩; rw [hl]; simp only [ptr, if_true])
    | (go_at_call 48; (with_reducible refine (is_sg s _).mono ?_); rintro e w2 ⟨rfl, hB⟩; rw [HS.out]; have n1 := Aside0.mk (below_trans HB.out (below_sub hB HB.out.size)); clear hB HB; have HB := n1; clear n1))
  go_ret
  exact ⟨rfl, HB.out⟩
set_option maxHeartbeats 4000000 in
set_option maxRecDepth 100000 in
theorem putnolive_any (h : TV w base X g m n D B v f last ends) (pid s k : Int) (hp : (Lit.int .i64 pid).wf = true) (hl : liv f pid = false) :
    Calls Tryd.prog 20 #[.pointer (some ⟨g, 0, none⟩), .int .i64 pid, .int .i64 s, .int .i64 k] w fun e w' => e = .returned (.bool false) ∧ Below w.heap.size w w' := by
  have HT := Aside0.mk h
  have HP := Aside0.mk hp
  have HB := Aside0.mk (Below.refl w.heap.size w)
  clear h hp
  go_enter Tryd.func20, Tryd.ntmps20
  go_wp2_with (first
    | (go_at_call 35; (with_reducible refine (liv_ptr HT.out pid HP.out).mono ?_); rintro e w1 ⟨rfl, rfl⟩; rw [hl]; simp only [ptr, Bool.false_eq_true, if_false]))
  go_ret
  exact ⟨rfl, HB.out⟩
set_option maxHeartbeats 4000000 in
set_option maxRecDepth 100000 in
theorem putnosig_any (h : TV w base X g m n D B v f last ends) (pid s k : Int) (hp : (Lit.int .i64 pid).wf = true) (hl : liv f pid = true) (hs1 : isg s = false) :
    Calls Tryd.prog 20 #[.pointer (some ⟨g, 0, none⟩), .int .i64 pid, .int .i64 s, .int .i64 k] w fun e w' => e = .returned (.bool false) ∧ Below w.heap.size w w' := by
  have HT := Aside0.mk h
  have HP := Aside0.mk hp
  have HB := Aside0.mk (Below.refl w.heap.size w)
  have HS := Aside0.mk hs1
  clear h hp hs1
  go_enter Tryd.func20, Tryd.ntmps20
  go_wp2_with (first
    | (go_at_call 35; (with_reducible refine (liv_ptr HT.out pid HP.out).mono ?_); rintro e w1 ⟨rfl, rfl⟩; rw [hl]; simp only [ptr, if_true])
    | (go_at_call 48; (with_reducible refine (is_sg s _).mono ?_); rintro e w2 ⟨rfl, hB⟩; rw [HS.out]; have n1 := Aside0.mk (below_trans HB.out (below_sub hB HB.out.size)); clear hB HB; have HB := n1; clear n1))
  go_ret
  exact ⟨rfl, HB.out⟩
set_option maxHeartbeats 4000000 in
set_option maxRecDepth 100000 in
theorem putlow_any (h : TV w base X g m n D B v f last ends) (pid s k : Int) (hp : (Lit.int .i64 pid).wf = true) (hl : liv f pid = true) (hs1 : isg s = true) (hfx : fx s = false) (hk : k < 0) :
    Calls Tryd.prog 20 #[.pointer (some ⟨g, 0, none⟩), .int .i64 pid, .int .i64 s, .int .i64 k] w fun e w' => e = .returned (.bool false) ∧ Below w.heap.size w w' := by
  have HT := Aside0.mk h
  have HP := Aside0.mk hp
  have HB := Aside0.mk (Below.refl w.heap.size w)
  have HS := Aside0.mk hs1
  have HFX := Aside0.mk (show fixed s = false from hfx)
  have hd : decide (k < 0) = true := decide_eq_true hk
  clear h hp hs1 hfx hk
  go_enter Tryd.func20, Tryd.ntmps20
  go_wp2_with (first
    | (go_at_call 35; (with_reducible refine (liv_ptr HT.out pid HP.out).mono ?_); rintro e w1 ⟨rfl, rfl⟩; rw [hl]; simp only [ptr, if_true])
    | (go_at_call 48; (with_reducible refine (is_sg s _).mono ?_); rintro e w2 ⟨rfl, hB⟩; rw [HS.out]; have n1 := Aside0.mk (below_trans HB.out (below_sub hB HB.out.size)); clear hB HB; have HB := n1; clear n1)
    | (go_at_call 33; (with_reducible refine (sfixed_any s _).mono ?_); rintro e w3 ⟨rfl, hB⟩; rw [HFX.out]; have n1 := Aside0.mk (below_trans HB.out (below_sub hB HB.out.size)); clear hB HB; have HB := n1; clear n1))
  go_ret
  exact ⟨rfl, HB.out⟩
set_option maxHeartbeats 4000000 in
set_option maxRecDepth 100000 in
theorem puthigh_any (h : TV w base X g m n D B v f last ends) (pid s k : Int) (hp : (Lit.int .i64 pid).wf = true) (hl : liv f pid = true) (hs1 : isg s = true) (hfx : fx s = false) (hk : 2 < k) :
    Calls Tryd.prog 20 #[.pointer (some ⟨g, 0, none⟩), .int .i64 pid, .int .i64 s, .int .i64 k] w fun e w' => e = .returned (.bool false) ∧ Below w.heap.size w w' := by
  have HT := Aside0.mk h
  have HP := Aside0.mk hp
  have HB := Aside0.mk (Below.refl w.heap.size w)
  have HS := Aside0.mk hs1
  have HFX := Aside0.mk (show fixed s = false from hfx)
  have hd : decide (k < 0) = false := decide_eq_false (by omega)
  have hd2 : decide (2 < k) = true := decide_eq_true hk
  clear h hp hs1 hfx hk
  go_enter Tryd.func20, Tryd.ntmps20
  go_wp2_with (first
    | (go_at_call 35; (with_reducible refine (liv_ptr HT.out pid HP.out).mono ?_); rintro e w1 ⟨rfl, rfl⟩; rw [hl]; simp only [ptr, if_true])
    | (go_at_call 48; (with_reducible refine (is_sg s _).mono ?_); rintro e w2 ⟨rfl, hB⟩; rw [HS.out]; have n1 := Aside0.mk (below_trans HB.out (below_sub hB HB.out.size)); clear hB HB; have HB := n1; clear n1)
    | (go_at_call 33; (with_reducible refine (sfixed_any s _).mono ?_); rintro e w3 ⟨rfl, hB⟩; rw [HFX.out]; have n1 := Aside0.mk (below_trans HB.out (below_sub hB HB.out.size)); clear hB HB; have HB := n1; clear n1))
  go_ret
  exact ⟨rfl, HB.out⟩
set_option maxHeartbeats 4000000 in
set_option maxRecDepth 100000 in
theorem put1_any (h : TV w base X g m n D B v f last ends) (pid s : Int) (r : Pr) (hp : (Lit.int .i64 pid).wf = true) (hf : f pid = some r) (hlv : r.live = true) (hs1 : isg s = true) (hfx : fx s = false) :
    Calls Tryd.prog 20 #[.pointer (some ⟨g, 0, none⟩), .int .i64 pid, .int .i64 s, .int .i64 1] w fun e w' => e = .returned (.bool true) ∧ TW w' base X g (upd f pid (some (putR r s 1))) last ends ∧ Below base w w' := by
  have H := Aside0.mk h
  have HP := Aside0.mk hp
  have HB := Aside0.mk (Below.refl w.heap.size w)
  have hl : liv f pid = true := by unfold liv; rw [hf]; exact hlv
  have HS := Aside0.mk hs1
  have HFX := Aside0.mk (show fixed s = false from hfx)
  have hbs : base ≤ w.heap.size := Nat.le_trans h.bg (Nat.le_of_lt (blk_lt h.hg))
  have HBS := Aside0.mk hbs
  have HF := Aside0.mk hf
  clear h hp hs1 hfx hbs
  go_enter Tryd.func20, Tryd.ntmps20
  go_upto_region 4 with (first
    | (go_at_call 35; (with_reducible refine (liv_ptr H.out pid HP.out).mono ?_); rintro e w1 ⟨rfl, rfl⟩; rw [hl]; simp only [ptr, if_true])
    | (go_at_call 48; (with_reducible refine (is_sg s _).mono ?_); rintro e w2 ⟨rfl, hB⟩; rw [HS.out]; have n1 := Aside0.mk (below_trans HB.out (below_sub hB HB.out.size)); clear hB HB; have HB := n1; clear n1)
    | (go_at_call 33; (with_reducible refine (sfixed_any s _).mono ?_); rintro e w3 ⟨rfl, hB⟩; rw [HFX.out]; have n1 := Aside0.mk (below_trans HB.out (below_sub hB HB.out.size)); clear hB HB; have HB := n1; clear n1))
  have H3 := Aside0.mk (H.out.below HB.out)
  have pv := H3.out.yes pid r HF.out
  have HI := Aside0.mk pv.ign
  have HC := Aside0.mk pv.ca
  have HPN := Aside0.mk pv.pen
  have c3 : w3.cell? ⟨B pid, 3, none⟩ = some (.int .u32 (r.ign : Int)) := (blk_cell pv.blk 3).trans rfl
  have c4 : w3.cell? ⟨B pid, 4, none⟩ = some (.int .u32 (r.ca : Int)) := (blk_cell pv.blk 4).trans rfl
  clear pv
  refine region_seq (fun w_ => Below w3.heap.size w3 w_) [16, 17, 18, 19]
    [(0, some 32, .pure), (1, some 33, .pure), (2, some 34, .pure), (3, some 35, .pure), (4, some 36, .pure), (6, some 38, .pure), (8, some 40, .pure), (9, some 41, .pure), (10, some 42, .pure), (12, some 44, .pure), (5, some 37, .held), (11, some 43, .held), (7, some 39, .one), (13, some 45, .one), (14, some 46, .pure), (15, some 47, .pure), (16, none, .last), (17, some 48, .last), (18, some 49, .last), (19, none, .last)] (by kernel_rfl) (by kernel_rfl) ?_
  have hS := below_drew (Below.refl w3.heap.size w3)
  repeat (first
    | (refine s_pure (v := ?_) (a' := ?_) rfl (fun _ _ _ h => h) rfl ?hy ?ha ?_; (case hy => (intro w_; go_simp; with_reducible rfl)); (case ha => (simp only [Act.put, List.setIfInBounds_toArray, List.set_cons_zero, List.set_cons_succ, i64_w, i32_w]; rfl)))
    | (refine s_held (v := ?_) (a' := ?_) hS rfl (fun _ _ _ h => h) rfl ?hy ?ha ?_; (case hy => (intro w_ hb_; have s0 := pw_cell_below hb_ c3; have s1 := pw_cell_below hb_ c4; go_simp; with_reducible rfl)); (case ha => (simp only [Act.put, List.setIfInBounds_toArray, List.set_cons_zero, List.set_cons_succ, i64_w, i32_w]; rfl))))
  refine s_oneL rfl (fun K hK => ?_) rfl
  go_wp2_with (go_at_call 54; (with_reducible refine (wto_any r.ign s _ HI.out).mono ?_); rintro e w4 ⟨rfl, hB⟩)
  have hS2 : Below w3.heap.size w3 w4 := hS.trans (below_sub hB hS.size)
  clear hB hS
  refine hK _ _ hS2 ?_
  clear hK
  repeat (first
    | (refine s_pure (v := ?_) (a' := ?_) rfl (fun _ _ _ h => h) rfl ?hy ?ha ?_; (case hy => (intro w_; go_simp; with_reducible rfl)); (case ha => (simp only [Act.put, List.setIfInBounds_toArray, List.set_cons_zero, List.set_cons_succ, i64_w, i32_w]; rfl)))
    | (refine s_held (v := ?_) (a' := ?_) hS rfl (fun _ _ _ h => h) rfl ?hy ?ha ?_; (case hy => (intro w_ hb_; go_simp; with_reducible rfl)); (case ha => (simp only [Act.put, List.setIfInBounds_toArray, List.set_cons_zero, List.set_cons_succ, i64_w, i32_w]; rfl))))
  refine s_oneL rfl (fun K hK => ?_) rfl
  go_wp2_with (go_at_call 54; (with_reducible refine (wto_any r.ca s _ HC.out).mono ?_); rintro e w5 ⟨rfl, hB⟩)
  have hS3 : Below w3.heap.size w3 w5 := hS2.trans (below_sub hB hS2.size)
  clear hB hS2
  refine hK _ _ hS3 ?_
  clear hK
  repeat (first
    | (refine s_pure (v := ?_) (a' := ?_) rfl (fun _ _ _ h => h) rfl ?hy ?ha ?_; (case hy => (intro w_; go_simp; with_reducible rfl)); (case ha => (simp only [Act.put, List.setIfInBounds_toArray, List.set_cons_zero, List.set_cons_succ, i64_w, i32_w]; rfl)))
    | (refine s_held (v := ?_) (a' := ?_) hS rfl (fun _ _ _ h => h) rfl ?hy ?ha ?_; (case hy => (intro w_ hb_; go_simp; with_reducible rfl)); (case ha => (simp only [Act.put, List.setIfInBounds_toArray, List.set_cons_zero, List.set_cons_succ, i64_w, i32_w]; rfl))))
  refine s_tail 16 _ (by kernel_rfl) ?_
  simp only [List.drop_succ_cons, List.drop_zero]
  have H5 := Aside0.mk (H3.out.below hS3)
  have HB5 := Aside0.mk (HB.out.trans (below_sub hS3 HB.out.size))
  clear c3 c4 hS3 H3 HB H
  have pv := H5.out.yes pid r HF.out
  have c3 : w5.cell? ⟨B pid, 3, none⟩ = some (.int .u32 (r.ign : Int)) := (blk_cell pv.blk 3).trans rfl
  have c4 : w5.cell? ⟨B pid, 4, none⟩ = some (.int .u32 (r.ca : Int)) := (blk_cell pv.blk 4).trans rfl
  have f3 := blk_frozen pv.blk 3
  have f4 := blk_frozen pv.blk 4
  have HLW := Aside0.mk pv.low
  have HPR := Aside0.mk pv.par
  clear pv
  have HI1 := Aside0.mk (wto_lt s HI.out)
  have HC1 := Aside0.mk (wto_lt s HC.out)
  have H6 := Aside0.mk (H5.out.put (r' := { r with ign := wto r.ign s }) (j := 3) (u := .int .u32 ((wto r.ign s : Nat) : Int)) HF.out rfl HPR.out HI1.out HC.out HPN.out)
  have H7 := Aside0.mk (H6.out.put (q := pid) (r' := { r with ign := wto r.ign s, ca := wto r.ca s }) (j := 4) (u := .int .u32 ((wto r.ca s : Nat) : Int)) (upd_same _ _ _) rfl HPR.out HI1.out HC1.out HPN.out)
  have HB7 := Aside0.mk (((below_sub HB5.out HBS.out).setCell (p := ⟨B pid, 3, none⟩) HLW.out (.int .u32 ((wto r.ign s : Nat) : Int))).setCell (p := ⟨B pid, 4, none⟩) HLW.out (.int .u32 ((wto r.ca s : Nat) : Int)))
  clear H5 HB5 H6
  go_upto_region 5 with (fail)
  generalize (w5.setCell ⟨B pid, 3, none⟩ (.int .u32 ((wto r.ign s : Nat) : Int))).setCell ⟨B pid, 4, none⟩ (.int .u32 ((wto r.ca s : Nat) : Int)) = w7 at *
  clear c3 c4 f3 f4
  rw [upd_upd] at H7
  have HF7 := Aside0.mk (upd_same f pid (some { r with ign := wto r.ign s, ca := wto r.ca s }))
  generalize hr1 : ({ r with ign := wto r.ign s, ca := wto r.ca s } : Pr) = r1 at *
  have pv := H7.out.yes pid r1 HF7.out
  have b3 : w7.cell? ⟨B pid, 3, none⟩ = some (.int .u32 (r1.ign : Int)) := (blk_cell pv.blk 3).trans rfl
  have b4 : w7.cell? ⟨B pid, 4, none⟩ = some (.int .u32 (r1.ca : Int)) := (blk_cell pv.blk 4).trans rfl
  have b5 : w7.cell? ⟨B pid, 5, none⟩ = some (.int .u32 (r1.pen : Int)) := (blk_cell pv.blk 5).trans rfl
  have HK7 := Aside0.mk pv.blk
  have HI7 := Aside0.mk pv.ign
  have HC7 := Aside0.mk pv.ca
  have HN7 := Aside0.mk pv.pen
  have HP7 := Aside0.mk pv.par
  have HL7 := Aside0.mk pv.low
  have HR1 := Aside0.mk hr1
  clear pv hr1
  clear b4 b5
  go_upto_region 11 with (go_at_call 34; (with_reducible refine (with_any r1.ign s _ HI7.out).mono ?_); rintro e w8 ⟨rfl, hB⟩; have H8 := Aside0.mk (H7.out.below hB); have HK8 := Aside0.mk (blk_below HK7.out hB); have c3 := (blk_cell HK8.out 3).trans rfl; have f3 := blk_frozen HK8.out 3; have HB8 := Aside0.mk (HB7.out.trans (below_sub hB (Nat.le_trans HBS.out HB7.out.size))); clear hB b3)
  obtain ⟨r2, hr2⟩ : ∃ r2 : Pr, r2 = { r1 with ign := wth r1.ign s } := ⟨_, rfl⟩
  have HI9 := Aside0.mk (wth_lt s HI7.out)
  have T9 := H8.out.put (q := pid) (r' := r2) (j := 3) (u := .int .u32 ((wth r1.ign s : Nat) : Int)) HF7.out (by rw [hr2]; rfl) (by rw [hr2]; exact HP7.out) (by rw [hr2]; exact HI9.out) (by rw [hr2]; exact HC7.out) (by rw [hr2]; exact HN7.out)
  rw [upd_upd] at T9
  have H9 := Aside0.mk T9
  have HB9 := Aside0.mk (HB8.out.setCell (p := ⟨B pid, 3, none⟩) HL7.out (.int .u32 ((wth r1.ign s : Nat) : Int)))
  clear T9 c3 f3
  generalize w8.setCell ⟨B pid, 3, none⟩ (.int .u32 ((wth r1.ign s : Nat) : Int)) = w9 at *
  have HF9 := Aside0.mk (upd_same f pid (some r2))
  have pv := H9.out.yes pid r2 HF9.out
  have hpen : r2.pen = r1.pen := by rw [hr2]
  have b5 : w9.cell? ⟨B pid, 5, none⟩ = some (.int .u32 (r1.pen : Int)) := by rw [← hpen]; exact (blk_cell pv.blk 5).trans rfl
  have HK9 := Aside0.mk pv.blk
  have HR2 := Aside0.mk hr2
  have HPV := Aside0.mk pv
  clear pv hr2 hpen
  go_wp2_with (go_at_call 54; (with_reducible refine (wto_any r1.pen s _ HN7.out).mono ?_); rintro e w10 ⟨rfl, hB⟩; have H10 := Aside0.mk (H9.out.below hB); have c5 := (blk_cell (blk_below HK9.out hB) 5).trans rfl; have f5 := blk_frozen (blk_below HK9.out hB) 5; have HB10 := Aside0.mk (HB9.out.trans (below_sub hB (Nat.le_trans HBS.out HB9.out.size))); clear hB b5)
  go_ret
  have e : ({ r2 with pen := wto r1.pen s } : Pr) = putR r s 1 := by unfold putR; rw [if_pos rfl, HR2.out, ← HR1.out]
  have T := H10.out.put (q := pid) (r' := { r2 with pen := wto r1.pen s }) (j := 5) (u := .int .u32 ((wto r1.pen s : Nat) : Int)) HF9.out rfl HPV.out.par HPV.out.ign HPV.out.ca (wto_lt s HN7.out)
  rw [upd_upd, e] at T
  exact ⟨rfl, ⟨_, _, _, _, _, T⟩, HB10.out.setCell (p := ⟨B pid, 5, none⟩) HL7.out _⟩
set_option maxHeartbeats 4000000 in
set_option maxRecDepth 100000 in
theorem reapno_any (h : TV w base X g m n D B v f last ends) (parent pid : Int) (hp : (Lit.int .i64 pid).wf = true) (hq : (Lit.int .i64 parent).wf = true) (hc : chB f parent pid = false) :
    Calls Tryd.prog 10 #[.pointer (some ⟨g, 0, none⟩), .int .i64 parent, .int .i64 pid] w fun e w' => e = .returned (.tuple #[.int .i64 0, .bool false]) ∧ w = w' := by
  have HT := Aside0.mk h
  have HQ := Aside0.mk hq
  have HP := Aside0.mk hp
  have HC := Aside0.mk hc
  clear h hp hq hc
  go_enter Tryd.func10, Tryd.ntmps10
  go_wp2_with (first
    | (go_at_call 28; (with_reducible refine (child_any HT.out parent pid HP.out HQ.out).mono ?_); rintro e w1 ⟨rfl, rfl⟩; rw [HC.out])
    | go_in)
  go_ret2
  exact ⟨rfl, rfl⟩
set_option maxHeartbeats 4000000 in
set_option maxRecDepth 100000 in
theorem reaplive_any (h : TV w base X g m n D B v f last ends) (parent pid : Int) (hp : (Lit.int .i64 pid).wf = true) (hq : (Lit.int .i64 parent).wf = true) (r : Pr) (hf : f pid = some r) (hd : r.live = true) (hc : chB f parent pid = true) :
    Calls Tryd.prog 10 #[.pointer (some ⟨g, 0, none⟩), .int .i64 parent, .int .i64 pid] w fun e w' => e = .returned (.tuple #[.int .i64 0, .bool false]) ∧ w = w' := by
  have HT := Aside0.mk h
  have HQ := Aside0.mk hq
  have HP := Aside0.mk hp
  have HC := Aside0.mk hc
  have hrun := look h pid hp
  rw [hf] at hrun
  simp only [Option.isSome_some, if_true] at hrun
  have c0 : w.cell? ⟨g, 0, none⟩ = some (.map (some m)) := (blk_cell h.hg 0).trans rfl
  have b1 : w.cell? ⟨B pid, 1, none⟩ = some (.bool true) := by rw [← hd]; exact (blk_cell (h.yes pid r hf).blk 1).trans rfl
  clear h hp hq hc hd
  go_enter Tryd.func10, Tryd.ntmps10
  go_wp2_with (first
    | (go_at_call 28; (with_reducible refine (child_any HT.out parent pid HP.out HQ.out).mono ?_); rintro e w1 ⟨rfl, rfl⟩; rw [HC.out])
    | go_in)
  go_ret2
  exact ⟨rfl, rfl⟩
theorem pend_lt2 (h : TV w base X g m n D B v f last ends) (pid : Int) : pend f pid < 4294967296 := by
  unfold pend
  cases hf : f pid with
  | none => show (0 : Nat) < _; decide
  | some r =>
    show (if r.live = true then r.pen else 0) < _
    split
    · exact (h.yes pid r hf).pen
    · decide
set_option maxHeartbeats 4000000 in
set_option maxRecDepth 100000 in
theorem takeno_any (h : TV w base X g m n D B v f last ends) (pid s : Int) (hp : (Lit.int .i64 pid).wf = true) (hh : hs (pend f pid) s = false) :
    Calls Tryd.prog 22 #[.pointer (some ⟨g, 0, none⟩), .int .i64 pid, .int .i64 s] w fun e w' => e = .returned (.bool false) ∧ Below w.heap.size w w' := by
  have HT := Aside0.mk h
  have HP := Aside0.mk hp
  have HB := Aside0.mk (Below.refl w.heap.size w)
  have HH := Aside0.mk hh
  have HPL := Aside0.mk (pend_lt2 h pid)
  clear h hp hh
  go_enter Tryd.func22, Tryd.ntmps22
  go_wp2_with (first
    | (go_at_call 30; (with_reducible refine (pend_any HT.out pid HP.out).mono ?_); rintro e w1 ⟨rfl, rfl⟩)
    | (go_at_call 49; (with_reducible refine (has_any (pend f pid) s _ HPL.out).mono ?_); rintro e w2 ⟨rfl, hB⟩; rw [HH.out]; have n1 := Aside0.mk (below_trans HB.out (below_sub hB HB.out.size)); clear hB HB; have HB := n1; clear n1))
  go_ret
  exact ⟨rfl, HB.out⟩
set_option maxHeartbeats 4000000 in
set_option maxRecDepth 100000 in
theorem take_any (h : TV w base X g m n D B v f last ends) (pid s : Int) (r : Pr) (hp : (Lit.int .i64 pid).wf = true) (hf : f pid = some r) (hlv : r.live = true) (hh : hs r.pen s = true) :
    Calls Tryd.prog 22 #[.pointer (some ⟨g, 0, none⟩), .int .i64 pid, .int .i64 s] w fun e w' => e = .returned (.bool true) ∧ TW w' base X g (upd f pid (some { r with pen := wto r.pen s })) last ends ∧ Below base w w' := by
  have HT := Aside0.mk h
  have HP := Aside0.mk hp
  have HB := Aside0.mk (Below.refl w.heap.size w)
  have hpd : pend f pid = r.pen := by unfold pend; rw [hf]; exact if_pos hlv
  have HH := Aside0.mk (show hs (pend f pid) s = true by rw [hpd]; exact hh)
  have HPL := Aside0.mk (pend_lt2 h pid)
  have HBS := Aside0.mk (show base ≤ w.heap.size from Nat.le_trans h.bg (Nat.le_of_lt (blk_lt h.hg)))
  have HF := Aside0.mk hf
  have HPN := Aside0.mk (h.yes pid r hf).pen
  clear h hp hf hlv hh hpd
  go_enter Tryd.func22, Tryd.ntmps22
  go_upto_region 3 with (first
    | (go_at_call 30; (with_reducible refine (pend_any HT.out pid HP.out).mono ?_); rintro e w1 ⟨rfl, rfl⟩)
    | (go_at_call 49; (with_reducible refine (has_any (pend f pid) s _ HPL.out).mono ?_); rintro e w2 ⟨rfl, hB⟩; rw [HH.out]; have n1 := Aside0.mk (below_trans HB.out (below_sub hB HB.out.size)); clear hB HB; have HB := n1; clear n1))
  have H2 := Aside0.mk (HT.out.below HB.out)
  have c0 : w2.cell? ⟨g, 0, none⟩ = some (.map (some m)) := (blk_cell H2.out.hg 0).trans rfl
  have c5 : w2.cell? ⟨B pid, 5, none⟩ = some (.int .u32 (r.pen : Int)) := (blk_cell (H2.out.yes pid r HF.out).blk 5).trans rfl
  have hlk : ∀ w_, Below w2.heap.size w2 w_ → (Instr.lookup 68 (.map (some m)) (.int .i64 pid) false).run Tryd.prog w_ = .ok (.pointer (some ⟨B pid, 0, none⟩)) w_ := fun w_ hb => by
    have h0 := look (H2.out.below hb) pid HP.out
    rw [HF.out] at h0
    exact h0
  refine region_seq (fun w_ => Below w2.heap.size w2 w_) [19]
    [(0, some 13, .pure), (1, some 14, .pure), (2, some 15, .pure), (4, some 17, .pure), (6, some 19, .pure), (7, some 20, .pure), (8, some 21, .pure), (10, some 23, .pure), (15, some 28, .pure), (3, some 16, .held), (5, some 18, .held), (9, some 22, .held), (11, some 24, .held), (12, some 25, .pure), (13, some 26, .pure), (14, some 27, .held), (16, some 29, .one), (17, some 30, .pure), (18, some 31, .pure), (19, none, .last)] (by kernel_rfl) (by kernel_rfl) ?_
  have hS := below_drew (Below.refl w2.heap.size w2)
  repeat (first
    | (refine s_pure (v := ?_) (a' := ?_) rfl (fun _ _ _ h => h) rfl ?hy ?ha ?_; (case hy => (intro w_; go_simp; with_reducible rfl)); (case ha => (simp only [Act.put, List.setIfInBounds_toArray, List.set_cons_zero, List.set_cons_succ, i64_w, i32_w]; rfl)))
    | (refine s_held (v := ?_) (a' := ?_) hS rfl (fun _ _ _ h => h) rfl ?hy ?ha ?_; (case hy => (intro w_ hb_; have s0 := pw_cell_below hb_ c0; have s1 := pw_cell_below hb_ c5; have t0 := hlk w_ hb_; go_simp; with_reducible rfl)); (case ha => (simp only [Act.put, List.setIfInBounds_toArray, List.set_cons_zero, List.set_cons_succ, i64_w, i32_w]; rfl))))
  clear c0 c5
  refine s_oneL rfl (fun K hK => ?_) rfl
  go_wp2_with (go_at_call 54; (with_reducible refine (wto_any r.pen s _ HPN.out).mono ?_); rintro e w4 ⟨rfl, hB⟩)
  have hS2 : Below w2.heap.size w2 w4 := hS.trans (below_sub hB hS.size)
  clear hB hS
  refine hK _ _ hS2 ?_
  clear hK
  repeat (first
    | (refine s_pure (v := ?_) (a' := ?_) rfl (fun _ _ _ h => h) rfl ?hy ?ha ?_; (case hy => (intro w_; go_simp; with_reducible rfl)); (case ha => (simp only [Act.put, List.setIfInBounds_toArray, List.set_cons_zero, List.set_cons_succ, i64_w, i32_w]; rfl)))
    | (refine s_held (v := ?_) (a' := ?_) hS rfl (fun _ _ _ h => h) rfl ?hy ?ha ?_; (case hy => (intro w_ hb_; go_simp; with_reducible rfl)); (case ha => (simp only [Act.put, List.setIfInBounds_toArray, List.set_cons_zero, List.set_cons_succ, i64_w, i32_w]; rfl))))
  refine s_tail 19 _ (by kernel_rfl) ?_
  simp only [List.drop_succ_cons, List.drop_zero]
  have H4 := Aside0.mk (H2.out.below hS2)
  have HB4 := Aside0.mk ((below_sub HB.out HBS.out).trans (below_sub hS2 (Nat.le_trans HBS.out HB.out.size)))
  have pv := H4.out.yes pid r HF.out
  have c5 : w4.cell? ⟨B pid, 5, none⟩ = some (.int .u32 (r.pen : Int)) := (blk_cell pv.blk 5).trans rfl
  have f5 := blk_frozen pv.blk 5
  have T := H4.out.put (q := pid) (r' := { r with pen := wto r.pen s }) (j := 5) (u := .int .u32 ((wto r.pen s : Nat) : Int)) HF.out rfl pv.par pv.ign pv.ca (wto_lt s HPN.out)
  have HT5 := Aside0.mk T
  have HB5 := Aside0.mk (HB4.out.setCell (p := ⟨B pid, 5, none⟩) pv.low (.int .u32 ((wto r.pen s : Nat) : Int)))
  clear pv T hS2 hlk
  go_wp2
  go_ret
  exact ⟨rfl, ⟨_, _, _, _, _, HT5.out⟩, HB5.out⟩
end
end Go.Proofs.YtbgodajbdbgdfaaDoor.Kern
