/- tell: Count: its contract. -/
import Derived.Test.YtkepmbkghmkodaaTellWalk
namespace Go.Proofs.Ytkepmbkghmkodaa.Tell
open Go.RowKit Go.Proofs.YtkepmbkghmkodaaW.PrintWords Go.Proofs.YtkepmbkghmkodaaW.PrintLast Go.Proofs.Ytkepmbkghmkodaa.Base Go.Proofs.Ytkepmbkghmkodaa.Seq Go.Proofs.Ytkepmbkghmkodaa.MapSum Go.Maps
set_option linter.unusedVariables false
set_option linter.unusedSimpArgs false
/-- An account's cells. -/
abbrev acell (x1 x2 x3 x4 x5 x6 : Int) : Array Value := #[Value.int .i64 x1, .int .i64 x2, .int .i64 x3, .int .i64 x4, .int .i64 x5, .int .i64 x6]
abbrev ptrs (b : Nat) : Array Value := #[Value.pointer none, .pointer (some ⟨b + 1, 0, none⟩), .pointer (some ⟨b + 1, 1, none⟩), .pointer (some ⟨b + 1, 2, none⟩), .pointer (some ⟨b + 1, 3, none⟩), .pointer (some ⟨b + 1, 4, none⟩)]
/-- The first loop's state: what has been counted, and the map. -/
structure CL (w wr : World) (k : Nat) (x1 x2 x3 x4 x5 : Int) (D : Dm) : Prop where
  h0 : wr.heap[w.heap.size]? = some (.cells (acell 0 0 0 0 0 0) 39 (0, 0))
  h1 : wr.heap[w.heap.size + 1]? = some (.cells (acell x1 x2 x3 x4 x5 0) 39 (0, 0))
  h2 : wr.heap[w.heap.size + 2]? = some (.cells (ptrs w.heap.size) 94 (0, 0))
  hm : wr.ownsMap Try.prog 100 (plainElem Try.prog 4) (w.heap.size + 3) k D
  hb : Below w.heap.size w wr
theorem CL.below {w wr wx : World} {k : Nat} {x1 x2 x3 x4 x5 : Int} {D : Dm} (h : CL w wr k x1 x2 x3 x4 x5 D) (hb : Below wr.heap.size wr wx) : CL w wx k x1 x2 x3 x4 x5 D :=
  ⟨blk_below h.h0 hb, blk_below h.h1 hb, blk_below h.h2 hb, h.hm.kept (grown_of hb) (by simp), h.hb.trans (below_sub hb h.hb.size)⟩
theorem CL.put {w wr wx : World} {k : Nat} {x1 x2 x3 x4 x5 : Int} {D D' : Dm} (h : CL w wr k x1 x2 x3 x4 x5 D) (hown : wx.ownsMap Try.prog 100 (plainElem Try.prog 4) (w.heap.size + 3) (k + 1) D') (hgr : wr.grownBy wx (some (w.heap.size + 3))) : CL w wx (k + 1) x1 x2 x3 x4 x5 D' :=
  ⟨blk_grown h.h0 hgr (by simp), blk_grown h.h1 hgr (by simp), blk_grown h.h2 hgr (by simp), hown, h.hb.trans (below_of hgr (by omega) h.hb.size)⟩
theorem CL.skip {w wr : World} {k : Nat} {x1 x2 x3 x4 x5 : Int} {D : Dm} (h : CL w wr k x1 x2 x3 x4 x5 D) : CL w wr (k + 1) x1 x2 x3 x4 x5 D := ⟨h.h0, h.h1, h.h2, h.hm.mono (Nat.le_succ _), h.hb⟩
theorem CL.cnt {w wr : World} {k : Nat} {x1 x2 x3 x4 x5 : Int} {D : Dm} (h : CL w wr k x1 x2 x3 x4 x5 D) (j : Nat) (u : Int) {y1 y2 y3 y4 y5 : Int} (e : (acell x1 x2 x3 x4 x5 0).setIfInBounds j (.int .i64 u) = acell y1 y2 y3 y4 y5 0) : CL w (wr.setCell ⟨w.heap.size + 1, j, none⟩ (.int .i64 u)) k y1 y2 y3 y4 y5 D :=
  ⟨blk_far h.h0 (show w.heap.size ≠ w.heap.size + 1 by omega) _, blk_put h.h1 j _ e, blk_far h.h2 (show w.heap.size + 2 ≠ w.heap.size + 1 by omega) _, h.hm.setCell (a := ⟨w.heap.size + 1, j, none⟩) (show w.heap.size + 3 ≠ w.heap.size + 1 by omega) _, h.hb.setCell (p := ⟨w.heap.size + 1, j, none⟩) (show w.heap.size ≤ w.heap.size + 1 by omega) _⟩
theorem add_yes {g : Evt → List Evt → Int} {e : Evt} {R : List Evt} {pid : Int} (h : sel pid e = true) : add g (e :: R) pid = add g R pid + g e R := by
  show add g R pid + (if sel pid e = true then g e R else 0) = _
  rw [if_pos h]
theorem add_no {g : Evt → List Evt → Int} {e : Evt} {R : List Evt} {pid : Int} (h : sel pid e = false) : add g (e :: R) pid = add g R pid := by
  show add g R pid + (if sel pid e = true then g e R else 0) = _
  rw [if_neg (by rw [h]; decide)]; omega
theorem DD_yes {e : Evt} {R : List Evt} {pid : Int} (h : sel pid e = true) : DD ky (e :: R) pid = (DD ky R pid).put (ky e.p e.s) (.lit (.bool (opn e))) := if_pos h
theorem DD_no {e : Evt} {R : List Evt} {pid : Int} (h : sel pid e = false) : DD ky (e :: R) pid = DD ky R pid := if_neg (by rw [h]; decide)
/-- .. as the counts of so many events. -/
abbrev CK (w wr : World) (l : List Evt) (pid : Int) (k : Nat) : Prop := CL w wr k (add (gk 1) (l.take k).reverse pid) (add (gk 2) (l.take k).reverse pid) (add (gk 3) (l.take k).reverse pid) (add (gk 4) (l.take k).reverse pid) (add (gk 5) (l.take k).reverse pid) (DD ky (l.take k).reverse pid)
theorem rev_succ (l : List Evt) (k : Nat) (h : k < l.length) : (l.take (k + 1)).reverse = l[k] :: (l.take k).reverse := by
  rw [List.take_succ_eq_append_getElem h, List.reverse_append]; rfl
theorem gk_hit (k : Int) (a p s : Int) (R : List Evt) : gk k ⟨k, a, p, s⟩ R = 1 := if_pos rfl
theorem gk_miss {j k : Int} (h : k ≠ j) (a p s : Int) (R : List Evt) : gk j ⟨k, a, p, s⟩ R = 0 := if_neg h
theorem sel_nz {pid q : Int} {e : Evt} (h0 : pid ≠ 0) : sel pid e = (e.p == pid) := by
  unfold sel
  rw [beq_eq_false_iff_ne.2 h0, Bool.false_or]
theorem grown_set (w : World) (p : Addr) (u : Value) : w.grownBy (w.setCell p u) (some p.block) :=
  ⟨rfl, rfl, rfl, by simp [World.setCell], fun i hi hne => Below.heap_setCell w p u i (fun e => hne (by rw [e]))⟩
theorem bool_inv0 {P : Program} {e : TypeId} (he : P.underlying e = some .bool) {v : Value} {z : Dm × List MemPlace} (h : plainElem P e v = some z) : ∃ x : Bool, v = .bool x ∧ z = (.lit (.bool x), []) := by
  unfold plainElem at h
  rw [he] at h
  cases v <;> simp at h
  exact ⟨_, rfl, h.symm⟩
theorem bool_inv {v : Value} {z : Dm × List MemPlace} (h : plainElem Try.prog 4 v = some z) : ∃ x : Bool, v = .bool x ∧ z = (.lit (.bool x), []) := bool_inv0 Try.underlying4 h
/-- A bool that the walk doesn't split. -/
structure BB where
  b : Bool
section
variable {ops : Array Oper} {rest : List Oper} {o : Oper} {a : Act} {Q : Exit → Act → World → Prop}
theorem next_bools (kT : Nat) (K : Keyed Try.prog kT) (w : World) (hg : o.guard = none) (it : Operand) (hop : o.op = Op.next it false) (b r n : Nat) (D : Dm) (left : Lit → Bool) (cnt : Nat)
    (hit : a.eval it = .pointer (some ⟨r, 0, none⟩)) (h : w.ranges Try.prog kT (plainElem Try.prog 4) b r n D left cnt)
    (hDone : cnt = 0 → (∀ kl, left kl = false) → wpList Try.prog ops Q rest (a.put o.dst (.tuple #[.bool false])) w)
    (hMore : ∀ (x : Value) (c : BB) (kl : Lit) (w' : World) (cnt' : Nat), keyOf Try.prog kT x = some kl → left kl = true → (∀ zd, D.atKey kl zd = .lit (.bool c.b)) → w'.ranges Try.prog kT (plainElem Try.prog 4) b r n D (fun z => left z && !z.sameKey kl) cnt' → cnt' < cnt →
      w.grownBy w' (some r) → w'.heap.size = w.heap.size → (Instr.entry (.pointer (some ⟨r, 0, none⟩))).run Try.prog w' = .ok (.tuple #[x, .bool c.b]) w' → wpList Try.prog ops Q rest (a.put o.dst (.tuple #[.bool true, x, .bool c.b])) w') :
    wpList Try.prog ops Q (o :: rest) a w :=
  wpList_next_ranges (α := Value) (β := Bool) w hg it hop kT K (plainElem Try.prog 4) (fun v => v) Value.bool (fun key kl _ => ⟨key, rfl⟩) (fun v y hv => by obtain ⟨x, rfl, _⟩ := bool_inv hv; exact ⟨x, rfl⟩)
    b r n D left cnt hit h hDone (fun x c kl y w' cnt' hkey hlk hv hat hrg hlt hgr hsz hen => by
      obtain ⟨x', e, rfl⟩ := bool_inv hv
      cases e
      exact hMore x ⟨c⟩ kl w' cnt' hkey hlk hat hrg hlt hgr hsz hen)
end
/-- The second loop's state. -/
structure RL (w wr : World) (n rI : Nat) (x1 x2 x3 x4 x5 : Int) (es : Es) (left : Lit → Bool) (cnt : Nat) : Prop where
  h0 : wr.heap[w.heap.size]? = some (.cells (acell 0 0 0 0 0 0) 39 (0, 0))
  h1 : wr.heap[w.heap.size + 1]? = some (.cells (acell x1 x2 x3 x4 x5 (tl isT es left)) 39 (0, 0))
  rg : wr.ranges Try.prog 100 (plainElem Try.prog 4) (w.heap.size + 3) rI n (.map es) left cnt
  hb : Below w.heap.size w wr
set_option maxHeartbeats 8000000 in
set_option maxRecDepth 100000 in
theorem count_first (A : Option Addr) (n c : Nat) (l : List Evt) (pid : Int) (w : World) (hr : kEv.C w A n l) (hW : ∀ e ∈ l, W64 e.p ∧ W64 e.s) (hl : l.length ≤ 1000) :
    Calls Try.prog 20 #[.slice A n c, .int .i64 pid, .int .i64 0] w fun r w' => r = .returned (.agg (acell (add (gk 1) l.reverse pid) (add (gk 2) l.reverse pid) (add (gk 3) l.reverse pid) (add (gk 4) l.reverse pid) (add (gk 5) l.reverse pid) (add go l.reverse pid))) ∧ Below w.heap.size w w' := by
  obtain rfl := hr.1
  have HR := Aside0.mk hr
  have HW := Aside0.mk hW
  have hmm := @run_makeMap Try.prog
  have HC0 : Aside0 (CK w ((((w.alloc (.cells (acell 0 0 0 0 0 0) 39)).alloc (.cells (acell 0 0 0 0 0 0) 39)).alloc (.cells (ptrs w.heap.size) 94)).alloc (.map #[] 0)) l pid 0) := by
    have s1 := size_alloc w (.cells (acell 0 0 0 0 0 0) 39)
    have s2 := size_alloc (w.alloc (.cells (acell 0 0 0 0 0 0) 39)) (.cells (acell 0 0 0 0 0 0) 39)
    have s3 := size_alloc ((w.alloc (.cells (acell 0 0 0 0 0 0) 39)).alloc (.cells (acell 0 0 0 0 0 0) 39)) (.cells (ptrs w.heap.size) 94)
    have b1 := below_alloc (Below.refl w.heap.size w) (.cells (acell 0 0 0 0 0 0) 39)
    have g1 := blk_new w (.cells (acell 0 0 0 0 0 0) 39)
    generalize w.alloc (.cells (acell 0 0 0 0 0 0) 39) = w1 at *
    have b2 := below_alloc (Below.refl w1.heap.size w1) (.cells (acell 0 0 0 0 0 0) 39)
    have g2 := blk_new w1 (.cells (acell 0 0 0 0 0 0) 39)
    generalize w1.alloc (.cells (acell 0 0 0 0 0 0) 39) = w2 at *
    have b3 := below_alloc (Below.refl w2.heap.size w2) (.cells (ptrs w.heap.size) 94)
    have g3 := blk_new w2 (.cells (ptrs w.heap.size) 94)
    generalize w2.alloc (.cells (ptrs w.heap.size) 94) = w3 at *
    have b4 := below_alloc (Below.refl w3.heap.size w3) (.map #[] 0)
    have hm := World.ownsMap_made (H := Unit) w3 Try.prog 100 (plainElem Try.prog 4)
    rw [s1] at g2
    rw [s2, s1] at g3
    rw [s3, s2, s1] at hm
    refine ⟨⟨blk_below (blk_below (blk_below g1 b2) b3) b4, blk_below (blk_below g2 b3) b4, blk_below g3 b4, hm, ?_⟩⟩
    exact ((b1.trans (below_sub b2 b1.size)).trans (below_sub b3 (by omega))).trans (below_sub b4 (by omega))
  clear hr hW
  go_enter Try.func20, Try.ntmps20
  go_wp2
  generalize (((w.alloc (.cells (acell 0 0 0 0 0 0) 39)).alloc (.cells (acell 0 0 0 0 0 0) 39)).alloc (.cells (ptrs w.heap.size) 94)).alloc (.map #[] 0) = w4 at *
  go_loopw [23] (fun v23 wr => ∃ k : Nat, k ≤ l.length ∧ v23 = .int .i64 (k : Int) ∧ Aside0 (CK w wr l pid k)) (fun v23 _ => l.length - (intOf v23).toNat)
  case atStart => exact ⟨0, Nat.zero_le _, rfl, HC0⟩
  case round =>
    clear HC0
    obtain ⟨k, hk, rfl, HC⟩ := hrel
    by_cases hlt : k < l.length
    · obtain ⟨ad, rfl, h0, h1, h2, h3⟩ := at_ev HR.out k hlt
      replace h0 := pw_cell_below HC.out.hb h0
      replace h1 := pw_cell_below HC.out.hb h1
      replace h2 := pw_cell_below HC.out.hb h2
      replace h3 := pw_cell_below HC.out.hb h3
      have HRS := Aside0.mk (rev_succ l k hlt)
      have HWE := Aside0.mk (HW.out l[k] (List.getElem_mem hlt))
      have HKN := Aside0.mk (show k < 1000000 by omega)
      have HBD := Aside0.mk (fun j => add_gk j (l.take k).reverse pid)
      have HLN := Aside0.mk (show ((l.take k).reverse.length : Int) ≤ 1000 by rw [List.length_reverse, List.length_take]; omega)
      have HCC := Aside0.mk (show CL w wr k (add (gk 1) (l.take k).reverse pid) (add (gk 2) (l.take k).reverse pid) (add (gk 3) (l.take k).reverse pid) (add (gk 4) (l.take k).reverse pid) (add (gk 5) (l.take k).reverse pid) (DD ky (l.take k).reverse pid) from HC.out)
      generalize l[k] = e at *
      obtain ⟨kk, a, p, s⟩ := e
      simp only at h0 h1 h2 h3 HWE
      have hi0 : (0 : Int) ≤ (k : Int) := by omega
      have hi1 : (k : Int) < (l.length : Int) := by omega
      have HBX := Aside0.mk (blk_new wr (.cells (ecell ⟨kk, a, p, s⟩) 37))
      have HCX := Aside0.mk (HCC.out.below (below_alloc (Below.refl wr.heap.size wr) (.cells (ecell ⟨kk, a, p, s⟩) 37)))
      have HGB0 := Aside0.mk (show w.heap.size + 3 < wr.heap.size from HCC.out.hm.lt)
      clear HC HCC
      go_upto_region 7 with (fail)
      generalize wr.alloc (.cells (ecell ⟨kk, a, p, s⟩) 37) = wb at *
      generalize wr.heap.size = gb at *
      have b0 : wb.cell? ⟨gb, 0, none⟩ = some (.int .i64 kk) := (blk_cell HBX.out 0).trans rfl
      have b1 : wb.cell? ⟨gb, 1, none⟩ = some (.int .i64 a) := (blk_cell HBX.out 1).trans rfl
      have b2 : wb.cell? ⟨gb, 2, none⟩ = some (.int .i64 p) := (blk_cell HBX.out 2).trans rfl
      have b3 : wb.cell? ⟨gb, 3, none⟩ = some (.int .i64 s) := (blk_cell HBX.out 3).trans rfl
      clear h0 h1 h2 h3
      have HGB := Aside0.mk (show w.heap.size + 3 < gb from HGB0.out)
      by_cases hp0 : pid = 0
      · have e0 : (pid != 0) = false := by rw [hp0]; rfl
        have HSEL := Aside0.mk (show sel pid ⟨kk, a, p, s⟩ = true by unfold sel; rw [hp0]; rfl)
        clear hp0
        by_cases hkj : kk = 1
        · subst hkj
          have HKC := Aside0.mk (show add (gk 1) (l.take k).reverse pid + 1 = add (gk 1) (l.take k).reverse pid + 1 from rfl)
          have hw1 : wrap64 (add (gk 1) (l.take k).reverse pid + 1) = add (gk 1) (l.take k).reverse pid + 1 := by have h1 := (HBD.out 1).1; have h2 := (HBD.out 1).2; have h3 := HLN.out; unfold wrap64; omega
          have p0 : wb.cell? ⟨w.heap.size + 2, 1, none⟩ = some (.pointer (some ⟨w.heap.size + 1, 0, none⟩)) := (blk_cell HCX.out.h2 1).trans rfl
          have q0 : wb.cell? ⟨w.heap.size + 1, 0, none⟩ = some (.int .i64 (add (gk 1) (l.take k).reverse pid)) := (blk_cell HCX.out.h1 0).trans rfl
          have f0 := blk_frozen HCX.out.h1 0
          have HC6 := Aside0.mk (HCX.out.cnt 0 (add (gk 1) (l.take k).reverse pid + 1) rfl)
          have HBY := Aside0.mk (blk_far HBX.out (show gb ≠ (⟨w.heap.size + 1, 0, none⟩ : Addr).block by show gb ≠ w.heap.size + 1; have := HGB.out; omega) (.int .i64 (add (gk 1) (l.take k).reverse pid + 1)))
          clear HCX HBX
          go_upto_region 10 with (fail)
          clear b0 b1 b2 b3 p0 q0 f0 hw1
          generalize wb.setCell ⟨w.heap.size + 1, 0, none⟩ (.int .i64 (add (gk 1) (l.take k).reverse pid + 1)) = w6 at *
          have d0 : w6.cell? ⟨gb, 0, none⟩ = some (.int .i64 1) := (blk_cell HBY.out 0).trans rfl
          have d1 : w6.cell? ⟨gb, 1, none⟩ = some (.int .i64 a) := (blk_cell HBY.out 1).trans rfl
          have d2 : w6.cell? ⟨gb, 2, none⟩ = some (.int .i64 p) := (blk_cell HBY.out 2).trans rfl
          have d3 : w6.cell? ⟨gb, 3, none⟩ = some (.int .i64 s) := (blk_cell HBY.out 3).trans rfl
          refine region_seq (fun w_ => Below w6.heap.size w6 w_) [4]
            [(0, some 61, .pure), (1, some 62, .held), (2, some 63, .held), (3, some 64, .one), (4, some 65, .last)] (by kernel_rfl) (by kernel_rfl) ?_
          have hS := below_drew (Below.refl w6.heap.size w6)
          repeat (first
            | (refine s_pure (v := ?_) (a' := ?_) rfl (fun _ _ _ h => h) rfl ?hy ?ha ?_; (case hy => (intro w_; go_simp; with_reducible rfl)); (case ha => (simp only [Act.put, List.setIfInBounds_toArray, List.set_cons_zero, List.set_cons_succ, i64_w, i32_w]; rfl)))
            | (refine s_held (v := ?_) (a' := ?_) hS rfl (fun _ _ _ h => h) rfl ?hy ?ha ?_; (case hy => (intro w_ hb_; have s0 := pw_cell_below hb_ d0; have s1 := pw_cell_below hb_ d1; have s2 := pw_cell_below hb_ d2; have s3 := pw_cell_below hb_ d3; go_simp; with_reducible rfl)); (case ha => (simp only [Act.put, List.setIfInBounds_toArray, List.set_cons_zero, List.set_cons_succ, i64_w, i32_w]; rfl))))
          refine s_oneL rfl (fun K hK => ?_) rfl
          go_wp2_with (go_at_call 74; (with_reducible refine (open_any (⟨1, a, p, s⟩ : Evt) _).mono ?_); rintro r w7 ⟨rfl, hB⟩)
          have hS2 : Below w6.heap.size w6 w7 := hS.trans (below_sub hB hS.size)
          clear hB hS
          refine hK _ _ hS2 ?_
          clear hK
          refine s_tail 4 _ (by kernel_rfl) ?_
          simp only [List.drop_succ_cons, List.drop_zero]
          have HS2 := Aside0.mk hS2
          clear hS2 d0 d1 d2 d3
          go_wp2_with (go_at_call 73; (with_reducible refine (putb_any (w.heap.size + 3) k _ (⟨1, a, p, s⟩ : Evt) (opn (⟨1, a, p, s⟩ : Evt)) _ (HC6.out.hm.kept (grown_of HS2.out) (by simp)) HKN.out HWE.out.1 HWE.out.2).mono ?_); rintro r w8 ⟨rfl, hown, hgr⟩; have HC8 := Aside0.mk ((HC6.out.below HS2.out).put hown hgr); clear hown hgr)
          go_roundw
          case measure => simp [intOf]; omega
          case rel =>
            refine ⟨k + 1, by omega, by go_num, ⟨?_⟩⟩
            show CL w _ (k + 1) (add (gk 1) (l.take (k + 1)).reverse pid) (add (gk 2) (l.take (k + 1)).reverse pid) (add (gk 3) (l.take (k + 1)).reverse pid) (add (gk 4) (l.take (k + 1)).reverse pid) (add (gk 5) (l.take (k + 1)).reverse pid) (DD ky (l.take (k + 1)).reverse pid)
            rw [HRS.out]
            simp only [add_yes HSEL.out, DD_yes HSEL.out, gk_hit, gk_miss (show (1 : Int) ≠ 2 by decide), gk_miss (show (1 : Int) ≠ 3 by decide), gk_miss (show (1 : Int) ≠ 4 by decide), gk_miss (show (1 : Int) ≠ 5 by decide), Int.add_zero]
            exact HC8.out
        have HK1 := Aside0.mk hkj
        by_cases hkj : kk = 2
        · subst hkj
          have HKC := Aside0.mk (show add (gk 2) (l.take k).reverse pid + 1 = add (gk 2) (l.take k).reverse pid + 1 from rfl)
          have hw1 : wrap64 (add (gk 2) (l.take k).reverse pid + 1) = add (gk 2) (l.take k).reverse pid + 1 := by have h1 := (HBD.out 2).1; have h2 := (HBD.out 2).2; have h3 := HLN.out; unfold wrap64; omega
          have p0 : wb.cell? ⟨w.heap.size + 2, 2, none⟩ = some (.pointer (some ⟨w.heap.size + 1, 1, none⟩)) := (blk_cell HCX.out.h2 2).trans rfl
          have q0 : wb.cell? ⟨w.heap.size + 1, 1, none⟩ = some (.int .i64 (add (gk 2) (l.take k).reverse pid)) := (blk_cell HCX.out.h1 1).trans rfl
          have f0 := blk_frozen HCX.out.h1 1
          have HC6 := Aside0.mk (HCX.out.cnt 1 (add (gk 2) (l.take k).reverse pid + 1) rfl)
          have HBY := Aside0.mk (blk_far HBX.out (show gb ≠ (⟨w.heap.size + 1, 1, none⟩ : Addr).block by show gb ≠ w.heap.size + 1; have := HGB.out; omega) (.int .i64 (add (gk 2) (l.take k).reverse pid + 1)))
          clear HCX HBX
          go_upto_region 10 with (fail)
          clear b0 b1 b2 b3 p0 q0 f0 hw1
          generalize wb.setCell ⟨w.heap.size + 1, 1, none⟩ (.int .i64 (add (gk 2) (l.take k).reverse pid + 1)) = w6 at *
          have d0 : w6.cell? ⟨gb, 0, none⟩ = some (.int .i64 2) := (blk_cell HBY.out 0).trans rfl
          have d1 : w6.cell? ⟨gb, 1, none⟩ = some (.int .i64 a) := (blk_cell HBY.out 1).trans rfl
          have d2 : w6.cell? ⟨gb, 2, none⟩ = some (.int .i64 p) := (blk_cell HBY.out 2).trans rfl
          have d3 : w6.cell? ⟨gb, 3, none⟩ = some (.int .i64 s) := (blk_cell HBY.out 3).trans rfl
          refine region_seq (fun w_ => Below w6.heap.size w6 w_) [4]
            [(0, some 61, .pure), (1, some 62, .held), (2, some 63, .held), (3, some 64, .one), (4, some 65, .last)] (by kernel_rfl) (by kernel_rfl) ?_
          have hS := below_drew (Below.refl w6.heap.size w6)
          repeat (first
            | (refine s_pure (v := ?_) (a' := ?_) rfl (fun _ _ _ h => h) rfl ?hy ?ha ?_; (case hy => (intro w_; go_simp; with_reducible rfl)); (case ha => (simp only [Act.put, List.setIfInBounds_toArray, List.set_cons_zero, List.set_cons_succ, i64_w, i32_w]; rfl)))
            | (refine s_held (v := ?_) (a' := ?_) hS rfl (fun _ _ _ h => h) rfl ?hy ?ha ?_; (case hy => (intro w_ hb_; have s0 := pw_cell_below hb_ d0; have s1 := pw_cell_below hb_ d1; have s2 := pw_cell_below hb_ d2; have s3 := pw_cell_below hb_ d3; go_simp; with_reducible rfl)); (case ha => (simp only [Act.put, List.setIfInBounds_toArray, List.set_cons_zero, List.set_cons_succ, i64_w, i32_w]; rfl))))
          refine s_oneL rfl (fun K hK => ?_) rfl
          go_wp2_with (go_at_call 74; (with_reducible refine (open_any (⟨2, a, p, s⟩ : Evt) _).mono ?_); rintro r w7 ⟨rfl, hB⟩)
          have hS2 : Below w6.heap.size w6 w7 := hS.trans (below_sub hB hS.size)
          clear hB hS
          refine hK _ _ hS2 ?_
          clear hK
          refine s_tail 4 _ (by kernel_rfl) ?_
          simp only [List.drop_succ_cons, List.drop_zero]
          have HS2 := Aside0.mk hS2
          clear hS2 d0 d1 d2 d3
          go_wp2_with (go_at_call 73; (with_reducible refine (putb_any (w.heap.size + 3) k _ (⟨2, a, p, s⟩ : Evt) (opn (⟨2, a, p, s⟩ : Evt)) _ (HC6.out.hm.kept (grown_of HS2.out) (by simp)) HKN.out HWE.out.1 HWE.out.2).mono ?_); rintro r w8 ⟨rfl, hown, hgr⟩; have HC8 := Aside0.mk ((HC6.out.below HS2.out).put hown hgr); clear hown hgr)
          go_roundw
          case measure => simp [intOf]; omega
          case rel =>
            refine ⟨k + 1, by omega, by go_num, ⟨?_⟩⟩
            show CL w _ (k + 1) (add (gk 1) (l.take (k + 1)).reverse pid) (add (gk 2) (l.take (k + 1)).reverse pid) (add (gk 3) (l.take (k + 1)).reverse pid) (add (gk 4) (l.take (k + 1)).reverse pid) (add (gk 5) (l.take (k + 1)).reverse pid) (DD ky (l.take (k + 1)).reverse pid)
            rw [HRS.out]
            simp only [add_yes HSEL.out, DD_yes HSEL.out, gk_hit, gk_miss (show (2 : Int) ≠ 1 by decide), gk_miss (show (2 : Int) ≠ 3 by decide), gk_miss (show (2 : Int) ≠ 4 by decide), gk_miss (show (2 : Int) ≠ 5 by decide), Int.add_zero]
            exact HC8.out
        have HK2 := Aside0.mk hkj
        by_cases hkj : kk = 3
        · subst hkj
          have HKC := Aside0.mk (show add (gk 3) (l.take k).reverse pid + 1 = add (gk 3) (l.take k).reverse pid + 1 from rfl)
          have hw1 : wrap64 (add (gk 3) (l.take k).reverse pid + 1) = add (gk 3) (l.take k).reverse pid + 1 := by have h1 := (HBD.out 3).1; have h2 := (HBD.out 3).2; have h3 := HLN.out; unfold wrap64; omega
          have p0 : wb.cell? ⟨w.heap.size + 2, 3, none⟩ = some (.pointer (some ⟨w.heap.size + 1, 2, none⟩)) := (blk_cell HCX.out.h2 3).trans rfl
          have q0 : wb.cell? ⟨w.heap.size + 1, 2, none⟩ = some (.int .i64 (add (gk 3) (l.take k).reverse pid)) := (blk_cell HCX.out.h1 2).trans rfl
          have f0 := blk_frozen HCX.out.h1 2
          have HC6 := Aside0.mk (HCX.out.cnt 2 (add (gk 3) (l.take k).reverse pid + 1) rfl)
          have HBY := Aside0.mk (blk_far HBX.out (show gb ≠ (⟨w.heap.size + 1, 2, none⟩ : Addr).block by show gb ≠ w.heap.size + 1; have := HGB.out; omega) (.int .i64 (add (gk 3) (l.take k).reverse pid + 1)))
          clear HCX HBX
          go_upto_region 10 with (fail)
          clear b0 b1 b2 b3 p0 q0 f0 hw1
          generalize wb.setCell ⟨w.heap.size + 1, 2, none⟩ (.int .i64 (add (gk 3) (l.take k).reverse pid + 1)) = w6 at *
          have d0 : w6.cell? ⟨gb, 0, none⟩ = some (.int .i64 3) := (blk_cell HBY.out 0).trans rfl
          have d1 : w6.cell? ⟨gb, 1, none⟩ = some (.int .i64 a) := (blk_cell HBY.out 1).trans rfl
          have d2 : w6.cell? ⟨gb, 2, none⟩ = some (.int .i64 p) := (blk_cell HBY.out 2).trans rfl
          have d3 : w6.cell? ⟨gb, 3, none⟩ = some (.int .i64 s) := (blk_cell HBY.out 3).trans rfl
          refine region_seq (fun w_ => Below w6.heap.size w6 w_) [4]
            [(0, some 61, .pure), (1, some 62, .held), (2, some 63, .held), (3, some 64, .one), (4, some 65, .last)] (by kernel_rfl) (by kernel_rfl) ?_
          have hS := below_drew (Below.refl w6.heap.size w6)
          repeat (first
            | (refine s_pure (v := ?_) (a' := ?_) rfl (fun _ _ _ h => h) rfl ?hy ?ha ?_; (case hy => (intro w_; go_simp; with_reducible rfl)); (case ha => (simp only [Act.put, List.setIfInBounds_toArray, List.set_cons_zero, List.set_cons_succ, i64_w, i32_w]; rfl)))
            | (refine s_held (v := ?_) (a' := ?_) hS rfl (fun _ _ _ h => h) rfl ?hy ?ha ?_; (case hy => (intro w_ hb_; have s0 := pw_cell_below hb_ d0; have s1 := pw_cell_below hb_ d1; have s2 := pw_cell_below hb_ d2; have s3 := pw_cell_below hb_ d3; go_simp; with_reducible rfl)); (case ha => (simp only [Act.put, List.setIfInBounds_toArray, List.set_cons_zero, List.set_cons_succ, i64_w, i32_w]; rfl))))
          refine s_oneL rfl (fun K hK => ?_) rfl
          go_wp2_with (go_at_call 74; (with_reducible refine (open_any (⟨3, a, p, s⟩ : Evt) _).mono ?_); rintro r w7 ⟨rfl, hB⟩)
          have hS2 : Below w6.heap.size w6 w7 := hS.trans (below_sub hB hS.size)
          clear hB hS
          refine hK _ _ hS2 ?_
          clear hK
          refine s_tail 4 _ (by kernel_rfl) ?_
          simp only [List.drop_succ_cons, List.drop_zero]
          have HS2 := Aside0.mk hS2
          clear hS2 d0 d1 d2 d3
          go_wp2_with (go_at_call 73; (with_reducible refine (putb_any (w.heap.size + 3) k _ (⟨3, a, p, s⟩ : Evt) (opn (⟨3, a, p, s⟩ : Evt)) _ (HC6.out.hm.kept (grown_of HS2.out) (by simp)) HKN.out HWE.out.1 HWE.out.2).mono ?_); rintro r w8 ⟨rfl, hown, hgr⟩; have HC8 := Aside0.mk ((HC6.out.below HS2.out).put hown hgr); clear hown hgr)
          go_roundw
          case measure => simp [intOf]; omega
          case rel =>
            refine ⟨k + 1, by omega, by go_num, ⟨?_⟩⟩
            show CL w _ (k + 1) (add (gk 1) (l.take (k + 1)).reverse pid) (add (gk 2) (l.take (k + 1)).reverse pid) (add (gk 3) (l.take (k + 1)).reverse pid) (add (gk 4) (l.take (k + 1)).reverse pid) (add (gk 5) (l.take (k + 1)).reverse pid) (DD ky (l.take (k + 1)).reverse pid)
            rw [HRS.out]
            simp only [add_yes HSEL.out, DD_yes HSEL.out, gk_hit, gk_miss (show (3 : Int) ≠ 1 by decide), gk_miss (show (3 : Int) ≠ 2 by decide), gk_miss (show (3 : Int) ≠ 4 by decide), gk_miss (show (3 : Int) ≠ 5 by decide), Int.add_zero]
            exact HC8.out
        have HK3 := Aside0.mk hkj
        by_cases hkj : kk = 4
        · subst hkj
          have HKC := Aside0.mk (show add (gk 4) (l.take k).reverse pid + 1 = add (gk 4) (l.take k).reverse pid + 1 from rfl)
          have hw1 : wrap64 (add (gk 4) (l.take k).reverse pid + 1) = add (gk 4) (l.take k).reverse pid + 1 := by have h1 := (HBD.out 4).1; have h2 := (HBD.out 4).2; have h3 := HLN.out; unfold wrap64; omega
          have p0 : wb.cell? ⟨w.heap.size + 2, 4, none⟩ = some (.pointer (some ⟨w.heap.size + 1, 3, none⟩)) := (blk_cell HCX.out.h2 4).trans rfl
          have q0 : wb.cell? ⟨w.heap.size + 1, 3, none⟩ = some (.int .i64 (add (gk 4) (l.take k).reverse pid)) := (blk_cell HCX.out.h1 3).trans rfl
          have f0 := blk_frozen HCX.out.h1 3
          have HC6 := Aside0.mk (HCX.out.cnt 3 (add (gk 4) (l.take k).reverse pid + 1) rfl)
          have HBY := Aside0.mk (blk_far HBX.out (show gb ≠ (⟨w.heap.size + 1, 3, none⟩ : Addr).block by show gb ≠ w.heap.size + 1; have := HGB.out; omega) (.int .i64 (add (gk 4) (l.take k).reverse pid + 1)))
          clear HCX HBX
          go_upto_region 10 with (fail)
          clear b0 b1 b2 b3 p0 q0 f0 hw1
          generalize wb.setCell ⟨w.heap.size + 1, 3, none⟩ (.int .i64 (add (gk 4) (l.take k).reverse pid + 1)) = w6 at *
          have d0 : w6.cell? ⟨gb, 0, none⟩ = some (.int .i64 4) := (blk_cell HBY.out 0).trans rfl
          have d1 : w6.cell? ⟨gb, 1, none⟩ = some (.int .i64 a) := (blk_cell HBY.out 1).trans rfl
          have d2 : w6.cell? ⟨gb, 2, none⟩ = some (.int .i64 p) := (blk_cell HBY.out 2).trans rfl
          have d3 : w6.cell? ⟨gb, 3, none⟩ = some (.int .i64 s) := (blk_cell HBY.out 3).trans rfl
          refine region_seq (fun w_ => Below w6.heap.size w6 w_) [4]
            [(0, some 61, .pure), (1, some 62, .held), (2, some 63, .held), (3, some 64, .one), (4, some 65, .last)] (by kernel_rfl) (by kernel_rfl) ?_
          have hS := below_drew (Below.refl w6.heap.size w6)
          repeat (first
            | (refine s_pure (v := ?_) (a' := ?_) rfl (fun _ _ _ h => h) rfl ?hy ?ha ?_; (case hy => (intro w_; go_simp; with_reducible rfl)); (case ha => (simp only [Act.put, List.setIfInBounds_toArray, List.set_cons_zero, List.set_cons_succ, i64_w, i32_w]; rfl)))
            | (refine s_held (v := ?_) (a' := ?_) hS rfl (fun _ _ _ h => h) rfl ?hy ?ha ?_; (case hy => (intro w_ hb_; have s0 := pw_cell_below hb_ d0; have s1 := pw_cell_below hb_ d1; have s2 := pw_cell_below hb_ d2; have s3 := pw_cell_below hb_ d3; go_simp; with_reducible rfl)); (case ha => (simp only [Act.put, List.setIfInBounds_toArray, List.set_cons_zero, List.set_cons_succ, i64_w, i32_w]; rfl))))
          refine s_oneL rfl (fun K hK => ?_) rfl
          go_wp2_with (go_at_call 74; (with_reducible refine (open_any (⟨4, a, p, s⟩ : Evt) _).mono ?_); rintro r w7 ⟨rfl, hB⟩)
          have hS2 : Below w6.heap.size w6 w7 := hS.trans (below_sub hB hS.size)
          clear hB hS
          refine hK _ _ hS2 ?_
          clear hK
          refine s_tail 4 _ (by kernel_rfl) ?_
          simp only [List.drop_succ_cons, List.drop_zero]
          have HS2 := Aside0.mk hS2
          clear hS2 d0 d1 d2 d3
          go_wp2_with (go_at_call 73; (with_reducible refine (putb_any (w.heap.size + 3) k _ (⟨4, a, p, s⟩ : Evt) (opn (⟨4, a, p, s⟩ : Evt)) _ (HC6.out.hm.kept (grown_of HS2.out) (by simp)) HKN.out HWE.out.1 HWE.out.2).mono ?_); rintro r w8 ⟨rfl, hown, hgr⟩; have HC8 := Aside0.mk ((HC6.out.below HS2.out).put hown hgr); clear hown hgr)
          go_roundw
          case measure => simp [intOf]; omega
          case rel =>
            refine ⟨k + 1, by omega, by go_num, ⟨?_⟩⟩
            show CL w _ (k + 1) (add (gk 1) (l.take (k + 1)).reverse pid) (add (gk 2) (l.take (k + 1)).reverse pid) (add (gk 3) (l.take (k + 1)).reverse pid) (add (gk 4) (l.take (k + 1)).reverse pid) (add (gk 5) (l.take (k + 1)).reverse pid) (DD ky (l.take (k + 1)).reverse pid)
            rw [HRS.out]
            simp only [add_yes HSEL.out, DD_yes HSEL.out, gk_hit, gk_miss (show (4 : Int) ≠ 1 by decide), gk_miss (show (4 : Int) ≠ 2 by decide), gk_miss (show (4 : Int) ≠ 3 by decide), gk_miss (show (4 : Int) ≠ 5 by decide), Int.add_zero]
            exact HC8.out
        have HK4 := Aside0.mk hkj
        by_cases hkj : kk = 5
        · subst hkj
          have HKC := Aside0.mk (show add (gk 5) (l.take k).reverse pid + 1 = add (gk 5) (l.take k).reverse pid + 1 from rfl)
          have hw1 : wrap64 (add (gk 5) (l.take k).reverse pid + 1) = add (gk 5) (l.take k).reverse pid + 1 := by have h1 := (HBD.out 5).1; have h2 := (HBD.out 5).2; have h3 := HLN.out; unfold wrap64; omega
          have p0 : wb.cell? ⟨w.heap.size + 2, 5, none⟩ = some (.pointer (some ⟨w.heap.size + 1, 4, none⟩)) := (blk_cell HCX.out.h2 5).trans rfl
          have q0 : wb.cell? ⟨w.heap.size + 1, 4, none⟩ = some (.int .i64 (add (gk 5) (l.take k).reverse pid)) := (blk_cell HCX.out.h1 4).trans rfl
          have f0 := blk_frozen HCX.out.h1 4
          have HC6 := Aside0.mk (HCX.out.cnt 4 (add (gk 5) (l.take k).reverse pid + 1) rfl)
          have HBY := Aside0.mk (blk_far HBX.out (show gb ≠ (⟨w.heap.size + 1, 4, none⟩ : Addr).block by show gb ≠ w.heap.size + 1; have := HGB.out; omega) (.int .i64 (add (gk 5) (l.take k).reverse pid + 1)))
          clear HCX HBX
          go_upto_region 10 with (fail)
          clear b0 b1 b2 b3 p0 q0 f0 hw1
          generalize wb.setCell ⟨w.heap.size + 1, 4, none⟩ (.int .i64 (add (gk 5) (l.take k).reverse pid + 1)) = w6 at *
          have d0 : w6.cell? ⟨gb, 0, none⟩ = some (.int .i64 5) := (blk_cell HBY.out 0).trans rfl
          have d1 : w6.cell? ⟨gb, 1, none⟩ = some (.int .i64 a) := (blk_cell HBY.out 1).trans rfl
          have d2 : w6.cell? ⟨gb, 2, none⟩ = some (.int .i64 p) := (blk_cell HBY.out 2).trans rfl
          have d3 : w6.cell? ⟨gb, 3, none⟩ = some (.int .i64 s) := (blk_cell HBY.out 3).trans rfl
          refine region_seq (fun w_ => Below w6.heap.size w6 w_) [4]
            [(0, some 61, .pure), (1, some 62, .held), (2, some 63, .held), (3, some 64, .one), (4, some 65, .last)] (by kernel_rfl) (by kernel_rfl) ?_
          have hS := below_drew (Below.refl w6.heap.size w6)
          repeat (first
            | (refine s_pure (v := ?_) (a' := ?_) rfl (fun _ _ _ h => h) rfl ?hy ?ha ?_; (case hy => (intro w_; go_simp; with_reducible rfl)); (case ha => (simp only [Act.put, List.setIfInBounds_toArray, List.set_cons_zero, List.set_cons_succ, i64_w, i32_w]; rfl)))
            | (refine s_held (v := ?_) (a' := ?_) hS rfl (fun _ _ _ h => h) rfl ?hy ?ha ?_; (case hy => (intro w_ hb_; have s0 := pw_cell_below hb_ d0; have s1 := pw_cell_below hb_ d1; have s2 := pw_cell_below hb_ d2; have s3 := pw_cell_below hb_ d3; go_simp; with_reducible rfl)); (case ha => (simp only [Act.put, List.setIfInBounds_toArray, List.set_cons_zero, List.set_cons_succ, i64_w, i32_w]; rfl))))
          refine s_oneL rfl (fun K hK => ?_) rfl
          go_wp2_with (go_at_call 74; (with_reducible refine (open_any (⟨5, a, p, s⟩ : Evt) _).mono ?_); rintro r w7 ⟨rfl, hB⟩)
          have hS2 : Below w6.heap.size w6 w7 := hS.trans (below_sub hB hS.size)
          clear hB hS
          refine hK _ _ hS2 ?_
          clear hK
          refine s_tail 4 _ (by kernel_rfl) ?_
          simp only [List.drop_succ_cons, List.drop_zero]
          have HS2 := Aside0.mk hS2
          clear hS2 d0 d1 d2 d3
          go_wp2_with (go_at_call 73; (with_reducible refine (putb_any (w.heap.size + 3) k _ (⟨5, a, p, s⟩ : Evt) (opn (⟨5, a, p, s⟩ : Evt)) _ (HC6.out.hm.kept (grown_of HS2.out) (by simp)) HKN.out HWE.out.1 HWE.out.2).mono ?_); rintro r w8 ⟨rfl, hown, hgr⟩; have HC8 := Aside0.mk ((HC6.out.below HS2.out).put hown hgr); clear hown hgr)
          go_roundw
          case measure => simp [intOf]; omega
          case rel =>
            refine ⟨k + 1, by omega, by go_num, ⟨?_⟩⟩
            show CL w _ (k + 1) (add (gk 1) (l.take (k + 1)).reverse pid) (add (gk 2) (l.take (k + 1)).reverse pid) (add (gk 3) (l.take (k + 1)).reverse pid) (add (gk 4) (l.take (k + 1)).reverse pid) (add (gk 5) (l.take (k + 1)).reverse pid) (DD ky (l.take (k + 1)).reverse pid)
            rw [HRS.out]
            simp only [add_yes HSEL.out, DD_yes HSEL.out, gk_hit, gk_miss (show (5 : Int) ≠ 1 by decide), gk_miss (show (5 : Int) ≠ 2 by decide), gk_miss (show (5 : Int) ≠ 3 by decide), gk_miss (show (5 : Int) ≠ 4 by decide), Int.add_zero]
            exact HC8.out
        have HK5 := Aside0.mk hkj
        by_cases hr1 : 1 ≤ kk ∧ kk ≤ 5
        · exfalso; have k1 := HK1.out; have k2 := HK2.out; have k3 := HK3.out; have k4 := HK4.out; have k5 := HK5.out; omega
        by_cases hr2 : 1 ≤ kk
        · have z1 : decide ((1 : Int) ≤ kk) = true := decide_eq_true hr2
          have z2 : decide (kk ≤ (5 : Int)) = false := decide_eq_false (by omega)
          have HC6 := HCX
          have HBY := HBX
          clear HCX HBX
          go_upto_region 10 with (fail)
          clear b0 b1 b2 b3
          generalize wb = w6 at *
          have d0 : w6.cell? ⟨gb, 0, none⟩ = some (.int .i64 kk) := (blk_cell HBY.out 0).trans rfl
          have d1 : w6.cell? ⟨gb, 1, none⟩ = some (.int .i64 a) := (blk_cell HBY.out 1).trans rfl
          have d2 : w6.cell? ⟨gb, 2, none⟩ = some (.int .i64 p) := (blk_cell HBY.out 2).trans rfl
          have d3 : w6.cell? ⟨gb, 3, none⟩ = some (.int .i64 s) := (blk_cell HBY.out 3).trans rfl
          refine region_seq (fun w_ => Below w6.heap.size w6 w_) [4]
            [(0, some 61, .pure), (1, some 62, .held), (2, some 63, .held), (3, some 64, .one), (4, some 65, .last)] (by kernel_rfl) (by kernel_rfl) ?_
          have hS := below_drew (Below.refl w6.heap.size w6)
          repeat (first
            | (refine s_pure (v := ?_) (a' := ?_) rfl (fun _ _ _ h => h) rfl ?hy ?ha ?_; (case hy => (intro w_; go_simp; with_reducible rfl)); (case ha => (simp only [Act.put, List.setIfInBounds_toArray, List.set_cons_zero, List.set_cons_succ, i64_w, i32_w]; rfl)))
            | (refine s_held (v := ?_) (a' := ?_) hS rfl (fun _ _ _ h => h) rfl ?hy ?ha ?_; (case hy => (intro w_ hb_; have s0 := pw_cell_below hb_ d0; have s1 := pw_cell_below hb_ d1; have s2 := pw_cell_below hb_ d2; have s3 := pw_cell_below hb_ d3; go_simp; with_reducible rfl)); (case ha => (simp only [Act.put, List.setIfInBounds_toArray, List.set_cons_zero, List.set_cons_succ, i64_w, i32_w]; rfl))))
          refine s_oneL rfl (fun K hK => ?_) rfl
          go_wp2_with (go_at_call 74; (with_reducible refine (open_any (⟨kk, a, p, s⟩ : Evt) _).mono ?_); rintro r w7 ⟨rfl, hB⟩)
          have hS2 : Below w6.heap.size w6 w7 := hS.trans (below_sub hB hS.size)
          clear hB hS
          refine hK _ _ hS2 ?_
          clear hK
          refine s_tail 4 _ (by kernel_rfl) ?_
          simp only [List.drop_succ_cons, List.drop_zero]
          have HS2 := Aside0.mk hS2
          clear hS2 d0 d1 d2 d3
          go_wp2_with (go_at_call 73; (with_reducible refine (putb_any (w.heap.size + 3) k _ (⟨kk, a, p, s⟩ : Evt) (opn (⟨kk, a, p, s⟩ : Evt)) _ (HC6.out.hm.kept (grown_of HS2.out) (by simp)) HKN.out HWE.out.1 HWE.out.2).mono ?_); rintro r w8 ⟨rfl, hown, hgr⟩; have HC8 := Aside0.mk ((HC6.out.below HS2.out).put hown hgr); clear hown hgr)
          go_roundw
          case measure => simp [intOf]; omega
          case rel =>
            refine ⟨k + 1, by omega, by go_num, ⟨?_⟩⟩
            show CL w _ (k + 1) (add (gk 1) (l.take (k + 1)).reverse pid) (add (gk 2) (l.take (k + 1)).reverse pid) (add (gk 3) (l.take (k + 1)).reverse pid) (add (gk 4) (l.take (k + 1)).reverse pid) (add (gk 5) (l.take (k + 1)).reverse pid) (DD ky (l.take (k + 1)).reverse pid)
            rw [HRS.out]
            simp only [add_yes HSEL.out, DD_yes HSEL.out, gk_miss HK1.out, gk_miss HK2.out, gk_miss HK3.out, gk_miss HK4.out, gk_miss HK5.out, Int.add_zero]
            exact HC8.out
        · have z1 : decide ((1 : Int) ≤ kk) = false := decide_eq_false hr2
          have HC6 := HCX
          have HBY := HBX
          clear HCX HBX
          go_upto_region 10 with (fail)
          clear b0 b1 b2 b3
          generalize wb = w6 at *
          have d0 : w6.cell? ⟨gb, 0, none⟩ = some (.int .i64 kk) := (blk_cell HBY.out 0).trans rfl
          have d1 : w6.cell? ⟨gb, 1, none⟩ = some (.int .i64 a) := (blk_cell HBY.out 1).trans rfl
          have d2 : w6.cell? ⟨gb, 2, none⟩ = some (.int .i64 p) := (blk_cell HBY.out 2).trans rfl
          have d3 : w6.cell? ⟨gb, 3, none⟩ = some (.int .i64 s) := (blk_cell HBY.out 3).trans rfl
          refine region_seq (fun w_ => Below w6.heap.size w6 w_) [4]
            [(0, some 61, .pure), (1, some 62, .held), (2, some 63, .held), (3, some 64, .one), (4, some 65, .last)] (by kernel_rfl) (by kernel_rfl) ?_
          have hS := below_drew (Below.refl w6.heap.size w6)
          repeat (first
            | (refine s_pure (v := ?_) (a' := ?_) rfl (fun _ _ _ h => h) rfl ?hy ?ha ?_; (case hy => (intro w_; go_simp; with_reducible rfl)); (case ha => (simp only [Act.put, List.setIfInBounds_toArray, List.set_cons_zero, List.set_cons_succ, i64_w, i32_w]; rfl)))
            | (refine s_held (v := ?_) (a' := ?_) hS rfl (fun _ _ _ h => h) rfl ?hy ?ha ?_; (case hy => (intro w_ hb_; have s0 := pw_cell_below hb_ d0; have s1 := pw_cell_below hb_ d1; have s2 := pw_cell_below hb_ d2; have s3 := pw_cell_below hb_ d3; go_simp; with_reducible rfl)); (case ha => (simp only [Act.put, List.setIfInBounds_toArray, List.set_cons_zero, List.set_cons_succ, i64_w, i32_w]; rfl))))
          refine s_oneL rfl (fun K hK => ?_) rfl
          go_wp2_with (go_at_call 74; (with_reducible refine (open_any (⟨kk, a, p, s⟩ : Evt) _).mono ?_); rintro r w7 ⟨rfl, hB⟩)
          have hS2 : Below w6.heap.size w6 w7 := hS.trans (below_sub hB hS.size)
          clear hB hS
          refine hK _ _ hS2 ?_
          clear hK
          refine s_tail 4 _ (by kernel_rfl) ?_
          simp only [List.drop_succ_cons, List.drop_zero]
          have HS2 := Aside0.mk hS2
          clear hS2 d0 d1 d2 d3
          go_wp2_with (go_at_call 73; (with_reducible refine (putb_any (w.heap.size + 3) k _ (⟨kk, a, p, s⟩ : Evt) (opn (⟨kk, a, p, s⟩ : Evt)) _ (HC6.out.hm.kept (grown_of HS2.out) (by simp)) HKN.out HWE.out.1 HWE.out.2).mono ?_); rintro r w8 ⟨rfl, hown, hgr⟩; have HC8 := Aside0.mk ((HC6.out.below HS2.out).put hown hgr); clear hown hgr)
          go_roundw
          case measure => simp [intOf]; omega
          case rel =>
            refine ⟨k + 1, by omega, by go_num, ⟨?_⟩⟩
            show CL w _ (k + 1) (add (gk 1) (l.take (k + 1)).reverse pid) (add (gk 2) (l.take (k + 1)).reverse pid) (add (gk 3) (l.take (k + 1)).reverse pid) (add (gk 4) (l.take (k + 1)).reverse pid) (add (gk 5) (l.take (k + 1)).reverse pid) (DD ky (l.take (k + 1)).reverse pid)
            rw [HRS.out]
            simp only [add_yes HSEL.out, DD_yes HSEL.out, gk_miss HK1.out, gk_miss HK2.out, gk_miss HK3.out, gk_miss HK4.out, gk_miss HK5.out, Int.add_zero]
            exact HC8.out
      · have e0 : (pid != 0) = true := by rw [bne_iff_ne]; exact hp0
        by_cases hpp : p = pid
        · have e1 : (p != pid) = false := by rw [hpp]; exact bne_self_eq_false pid
          have HSEL := Aside0.mk (show sel pid ⟨kk, a, p, s⟩ = true by unfold sel; rw [hpp]; simp)
          clear hp0 hpp
          by_cases hkj : kk = 1
          · subst hkj
            have HKC := Aside0.mk (show add (gk 1) (l.take k).reverse pid + 1 = add (gk 1) (l.take k).reverse pid + 1 from rfl)
            have hw1 : wrap64 (add (gk 1) (l.take k).reverse pid + 1) = add (gk 1) (l.take k).reverse pid + 1 := by have h1 := (HBD.out 1).1; have h2 := (HBD.out 1).2; have h3 := HLN.out; unfold wrap64; omega
            have p0 : wb.cell? ⟨w.heap.size + 2, 1, none⟩ = some (.pointer (some ⟨w.heap.size + 1, 0, none⟩)) := (blk_cell HCX.out.h2 1).trans rfl
            have q0 : wb.cell? ⟨w.heap.size + 1, 0, none⟩ = some (.int .i64 (add (gk 1) (l.take k).reverse pid)) := (blk_cell HCX.out.h1 0).trans rfl
            have f0 := blk_frozen HCX.out.h1 0
            have HC6 := Aside0.mk (HCX.out.cnt 0 (add (gk 1) (l.take k).reverse pid + 1) rfl)
            have HBY := Aside0.mk (blk_far HBX.out (show gb ≠ (⟨w.heap.size + 1, 0, none⟩ : Addr).block by show gb ≠ w.heap.size + 1; have := HGB.out; omega) (.int .i64 (add (gk 1) (l.take k).reverse pid + 1)))
            clear HCX HBX
            go_upto_region 10 with (fail)
            clear b0 b1 b2 b3 p0 q0 f0 hw1
            generalize wb.setCell ⟨w.heap.size + 1, 0, none⟩ (.int .i64 (add (gk 1) (l.take k).reverse pid + 1)) = w6 at *
            have d0 : w6.cell? ⟨gb, 0, none⟩ = some (.int .i64 1) := (blk_cell HBY.out 0).trans rfl
            have d1 : w6.cell? ⟨gb, 1, none⟩ = some (.int .i64 a) := (blk_cell HBY.out 1).trans rfl
            have d2 : w6.cell? ⟨gb, 2, none⟩ = some (.int .i64 p) := (blk_cell HBY.out 2).trans rfl
            have d3 : w6.cell? ⟨gb, 3, none⟩ = some (.int .i64 s) := (blk_cell HBY.out 3).trans rfl
            refine region_seq (fun w_ => Below w6.heap.size w6 w_) [4]
              [(0, some 61, .pure), (1, some 62, .held), (2, some 63, .held), (3, some 64, .one), (4, some 65, .last)] (by kernel_rfl) (by kernel_rfl) ?_
            have hS := below_drew (Below.refl w6.heap.size w6)
            repeat (first
              | (refine s_pure (v := ?_) (a' := ?_) rfl (fun _ _ _ h => h) rfl ?hy ?ha ?_; (case hy => (intro w_; go_simp; with_reducible rfl)); (case ha => (simp only [Act.put, List.setIfInBounds_toArray, List.set_cons_zero, List.set_cons_succ, i64_w, i32_w]; rfl)))
              | (refine s_held (v := ?_) (a' := ?_) hS rfl (fun _ _ _ h => h) rfl ?hy ?ha ?_; (case hy => (intro w_ hb_; have s0 := pw_cell_below hb_ d0; have s1 := pw_cell_below hb_ d1; have s2 := pw_cell_below hb_ d2; have s3 := pw_cell_below hb_ d3; go_simp; with_reducible rfl)); (case ha => (simp only [Act.put, List.setIfInBounds_toArray, List.set_cons_zero, List.set_cons_succ, i64_w, i32_w]; rfl))))
            refine s_oneL rfl (fun K hK => ?_) rfl
            go_wp2_with (go_at_call 74; (with_reducible refine (open_any (⟨1, a, p, s⟩ : Evt) _).mono ?_); rintro r w7 ⟨rfl, hB⟩)
            have hS2 : Below w6.heap.size w6 w7 := hS.trans (below_sub hB hS.size)
            clear hB hS
            refine hK _ _ hS2 ?_
            clear hK
            refine s_tail 4 _ (by kernel_rfl) ?_
            simp only [List.drop_succ_cons, List.drop_zero]
            have HS2 := Aside0.mk hS2
            clear hS2 d0 d1 d2 d3
            go_wp2_with (go_at_call 73; (with_reducible refine (putb_any (w.heap.size + 3) k _ (⟨1, a, p, s⟩ : Evt) (opn (⟨1, a, p, s⟩ : Evt)) _ (HC6.out.hm.kept (grown_of HS2.out) (by simp)) HKN.out HWE.out.1 HWE.out.2).mono ?_); rintro r w8 ⟨rfl, hown, hgr⟩; have HC8 := Aside0.mk ((HC6.out.below HS2.out).put hown hgr); clear hown hgr)
            go_roundw
            case measure => simp [intOf]; omega
            case rel =>
              refine ⟨k + 1, by omega, by go_num, ⟨?_⟩⟩
              show CL w _ (k + 1) (add (gk 1) (l.take (k + 1)).reverse pid) (add (gk 2) (l.take (k + 1)).reverse pid) (add (gk 3) (l.take (k + 1)).reverse pid) (add (gk 4) (l.take (k + 1)).reverse pid) (add (gk 5) (l.take (k + 1)).reverse pid) (DD ky (l.take (k + 1)).reverse pid)
              rw [HRS.out]
              simp only [add_yes HSEL.out, DD_yes HSEL.out, gk_hit, gk_miss (show (1 : Int) ≠ 2 by decide), gk_miss (show (1 : Int) ≠ 3 by decide), gk_miss (show (1 : Int) ≠ 4 by decide), gk_miss (show (1 : Int) ≠ 5 by decide), Int.add_zero]
              exact HC8.out
          have HK1 := Aside0.mk hkj
          by_cases hkj : kk = 2
          · subst hkj
            have HKC := Aside0.mk (show add (gk 2) (l.take k).reverse pid + 1 = add (gk 2) (l.take k).reverse pid + 1 from rfl)
            have hw1 : wrap64 (add (gk 2) (l.take k).reverse pid + 1) = add (gk 2) (l.take k).reverse pid + 1 := by have h1 := (HBD.out 2).1; have h2 := (HBD.out 2).2; have h3 := HLN.out; unfold wrap64; omega
            have p0 : wb.cell? ⟨w.heap.size + 2, 2, none⟩ = some (.pointer (some ⟨w.heap.size + 1, 1, none⟩)) := (blk_cell HCX.out.h2 2).trans rfl
            have q0 : wb.cell? ⟨w.heap.size + 1, 1, none⟩ = some (.int .i64 (add (gk 2) (l.take k).reverse pid)) := (blk_cell HCX.out.h1 1).trans rfl
            have f0 := blk_frozen HCX.out.h1 1
            have HC6 := Aside0.mk (HCX.out.cnt 1 (add (gk 2) (l.take k).reverse pid + 1) rfl)
            have HBY := Aside0.mk (blk_far HBX.out (show gb ≠ (⟨w.heap.size + 1, 1, none⟩ : Addr).block by show gb ≠ w.heap.size + 1; have := HGB.out; omega) (.int .i64 (add (gk 2) (l.take k).reverse pid + 1)))
            clear HCX HBX
            go_upto_region 10 with (fail)
            clear b0 b1 b2 b3 p0 q0 f0 hw1
            generalize wb.setCell ⟨w.heap.size + 1, 1, none⟩ (.int .i64 (add (gk 2) (l.take k).reverse pid + 1)) = w6 at *
            have d0 : w6.cell? ⟨gb, 0, none⟩ = some (.int .i64 2) := (blk_cell HBY.out 0).trans rfl
            have d1 : w6.cell? ⟨gb, 1, none⟩ = some (.int .i64 a) := (blk_cell HBY.out 1).trans rfl
            have d2 : w6.cell? ⟨gb, 2, none⟩ = some (.int .i64 p) := (blk_cell HBY.out 2).trans rfl
            have d3 : w6.cell? ⟨gb, 3, none⟩ = some (.int .i64 s) := (blk_cell HBY.out 3).trans rfl
            refine region_seq (fun w_ => Below w6.heap.size w6 w_) [4]
              [(0, some 61, .pure), (1, some 62, .held), (2, some 63, .held), (3, some 64, .one), (4, some 65, .last)] (by kernel_rfl) (by kernel_rfl) ?_
            have hS := below_drew (Below.refl w6.heap.size w6)
            repeat (first
              | (refine s_pure (v := ?_) (a' := ?_) rfl (fun _ _ _ h => h) rfl ?hy ?ha ?_; (case hy => (intro w_; go_simp; with_reducible rfl)); (case ha => (simp only [Act.put, List.setIfInBounds_toArray, List.set_cons_zero, List.set_cons_succ, i64_w, i32_w]; rfl)))
              | (refine s_held (v := ?_) (a' := ?_) hS rfl (fun _ _ _ h => h) rfl ?hy ?ha ?_; (case hy => (intro w_ hb_; have s0 := pw_cell_below hb_ d0; have s1 := pw_cell_below hb_ d1; have s2 := pw_cell_below hb_ d2; have s3 := pw_cell_below hb_ d3; go_simp; with_reducible rfl)); (case ha => (simp only [Act.put, List.setIfInBounds_toArray, List.set_cons_zero, List.set_cons_succ, i64_w, i32_w]; rfl))))
            refine s_oneL rfl (fun K hK => ?_) rfl
            go_wp2_with (go_at_call 74; (with_reducible refine (open_any (⟨2, a, p, s⟩ : Evt) _).mono ?_); rintro r w7 ⟨rfl, hB⟩)
            have hS2 : Below w6.heap.size w6 w7 := hS.trans (below_sub hB hS.size)
            clear hB hS
            refine hK _ _ hS2 ?_
            clear hK
            refine s_tail 4 _ (by kernel_rfl) ?_
            simp only [List.drop_succ_cons, List.drop_zero]
            have HS2 := Aside0.mk hS2
            clear hS2 d0 d1 d2 d3
            go_wp2_with (go_at_call 73; (with_reducible refine (putb_any (w.heap.size + 3) k _ (⟨2, a, p, s⟩ : Evt) (opn (⟨2, a, p, s⟩ : Evt)) _ (HC6.out.hm.kept (grown_of HS2.out) (by simp)) HKN.out HWE.out.1 HWE.out.2).mono ?_); rintro r w8 ⟨rfl, hown, hgr⟩; have HC8 := Aside0.mk ((HC6.out.below HS2.out).put hown hgr); clear hown hgr)
            go_roundw
            case measure => simp [intOf]; omega
            case rel =>
              refine ⟨k + 1, by omega, by go_num, ⟨?_⟩⟩
              show CL w _ (k + 1) (add (gk 1) (l.take (k + 1)).reverse pid) (add (gk 2) (l.take (k + 1)).reverse pid) (add (gk 3) (l.take (k + 1)).reverse pid) (add (gk 4) (l.take (k + 1)).reverse pid) (add (gk 5) (l.take (k + 1)).reverse pid) (DD ky (l.take (k + 1)).reverse pid)
              rw [HRS.out]
              simp only [add_yes HSEL.out, DD_yes HSEL.out, gk_hit, gk_miss (show (2 : Int) ≠ 1 by decide), gk_miss (show (2 : Int) ≠ 3 by decide), gk_miss (show (2 : Int) ≠ 4 by decide), gk_miss (show (2 : Int) ≠ 5 by decide), Int.add_zero]
              exact HC8.out
          have HK2 := Aside0.mk hkj
          by_cases hkj : kk = 3
          · subst hkj
            have HKC := Aside0.mk (show add (gk 3) (l.take k).reverse pid + 1 = add (gk 3) (l.take k).reverse pid + 1 from rfl)
            have hw1 : wrap64 (add (gk 3) (l.take k).reverse pid + 1) = add (gk 3) (l.take k).reverse pid + 1 := by have h1 := (HBD.out 3).1; have h2 := (HBD.out 3).2; have h3 := HLN.out; unfold wrap64; omega
            have p0 : wb.cell? ⟨w.heap.size + 2, 3, none⟩ = some (.pointer (some ⟨w.heap.size + 1, 2, none⟩)) := (blk_cell HCX.out.h2 3).trans rfl
            have q0 : wb.cell? ⟨w.heap.size + 1, 2, none⟩ = some (.int .i64 (add (gk 3) (l.take k).reverse pid)) := (blk_cell HCX.out.h1 2).trans rfl
            have f0 := blk_frozen HCX.out.h1 2
            have HC6 := Aside0.mk (HCX.out.cnt 2 (add (gk 3) (l.take k).reverse pid + 1) rfl)
            have HBY := Aside0.mk (blk_far HBX.out (show gb ≠ (⟨w.heap.size + 1, 2, none⟩ : Addr).block by show gb ≠ w.heap.size + 1; have := HGB.out; omega) (.int .i64 (add (gk 3) (l.take k).reverse pid + 1)))
            clear HCX HBX
            go_upto_region 10 with (fail)
            clear b0 b1 b2 b3 p0 q0 f0 hw1
            generalize wb.setCell ⟨w.heap.size + 1, 2, none⟩ (.int .i64 (add (gk 3) (l.take k).reverse pid + 1)) = w6 at *
            have d0 : w6.cell? ⟨gb, 0, none⟩ = some (.int .i64 3) := (blk_cell HBY.out 0).trans rfl
            have d1 : w6.cell? ⟨gb, 1, none⟩ = some (.int .i64 a) := (blk_cell HBY.out 1).trans rfl
            have d2 : w6.cell? ⟨gb, 2, none⟩ = some (.int .i64 p) := (blk_cell HBY.out 2).trans rfl
            have d3 : w6.cell? ⟨gb, 3, none⟩ = some (.int .i64 s) := (blk_cell HBY.out 3).trans rfl
            refine region_seq (fun w_ => Below w6.heap.size w6 w_) [4]
              [(0, some 61, .pure), (1, some 62, .held), (2, some 63, .held), (3, some 64, .one), (4, some 65, .last)] (by kernel_rfl) (by kernel_rfl) ?_
            have hS := below_drew (Below.refl w6.heap.size w6)
            repeat (first
              | (refine s_pure (v := ?_) (a' := ?_) rfl (fun _ _ _ h => h) rfl ?hy ?ha ?_; (case hy => (intro w_; go_simp; with_reducible rfl)); (case ha => (simp only [Act.put, List.setIfInBounds_toArray, List.set_cons_zero, List.set_cons_succ, i64_w, i32_w]; rfl)))
              | (refine s_held (v := ?_) (a' := ?_) hS rfl (fun _ _ _ h => h) rfl ?hy ?ha ?_; (case hy => (intro w_ hb_; have s0 := pw_cell_below hb_ d0; have s1 := pw_cell_below hb_ d1; have s2 := pw_cell_below hb_ d2; have s3 := pw_cell_below hb_ d3; go_simp; with_reducible rfl)); (case ha => (simp only [Act.put, List.setIfInBounds_toArray, List.set_cons_zero, List.set_cons_succ, i64_w, i32_w]; rfl))))
            refine s_oneL rfl (fun K hK => ?_) rfl
            go_wp2_with (go_at_call 74; (with_reducible refine (open_any (⟨3, a, p, s⟩ : Evt) _).mono ?_); rintro r w7 ⟨rfl, hB⟩)
            have hS2 : Below w6.heap.size w6 w7 := hS.trans (below_sub hB hS.size)
            clear hB hS
            refine hK _ _ hS2 ?_
            clear hK
            refine s_tail 4 _ (by kernel_rfl) ?_
            simp only [List.drop_succ_cons, List.drop_zero]
            have HS2 := Aside0.mk hS2
            clear hS2 d0 d1 d2 d3
            go_wp2_with (go_at_call 73; (with_reducible refine (putb_any (w.heap.size + 3) k _ (⟨3, a, p, s⟩ : Evt) (opn (⟨3, a, p, s⟩ : Evt)) _ (HC6.out.hm.kept (grown_of HS2.out) (by simp)) HKN.out HWE.out.1 HWE.out.2).mono ?_); rintro r w8 ⟨rfl, hown, hgr⟩; have HC8 := Aside0.mk ((HC6.out.below HS2.out).put hown hgr); clear hown hgr)
            go_roundw
            case measure => simp [intOf]; omega
            case rel =>
              refine ⟨k + 1, by omega, by go_num, ⟨?_⟩⟩
              show CL w _ (k + 1) (add (gk 1) (l.take (k + 1)).reverse pid) (add (gk 2) (l.take (k + 1)).reverse pid) (add (gk 3) (l.take (k + 1)).reverse pid) (add (gk 4) (l.take (k + 1)).reverse pid) (add (gk 5) (l.take (k + 1)).reverse pid) (DD ky (l.take (k + 1)).reverse pid)
              rw [HRS.out]
              simp only [add_yes HSEL.out, DD_yes HSEL.out, gk_hit, gk_miss (show (3 : Int) ≠ 1 by decide), gk_miss (show (3 : Int) ≠ 2 by decide), gk_miss (show (3 : Int) ≠ 4 by decide), gk_miss (show (3 : Int) ≠ 5 by decide), Int.add_zero]
              exact HC8.out
          have HK3 := Aside0.mk hkj
          by_cases hkj : kk = 4
          · subst hkj
            have HKC := Aside0.mk (show add (gk 4) (l.take k).reverse pid + 1 = add (gk 4) (l.take k).reverse pid + 1 from rfl)
            have hw1 : wrap64 (add (gk 4) (l.take k).reverse pid + 1) = add (gk 4) (l.take k).reverse pid + 1 := by have h1 := (HBD.out 4).1; have h2 := (HBD.out 4).2; have h3 := HLN.out; unfold wrap64; omega
            have p0 : wb.cell? ⟨w.heap.size + 2, 4, none⟩ = some (.pointer (some ⟨w.heap.size + 1, 3, none⟩)) := (blk_cell HCX.out.h2 4).trans rfl
            have q0 : wb.cell? ⟨w.heap.size + 1, 3, none⟩ = some (.int .i64 (add (gk 4) (l.take k).reverse pid)) := (blk_cell HCX.out.h1 3).trans rfl
            have f0 := blk_frozen HCX.out.h1 3
            have HC6 := Aside0.mk (HCX.out.cnt 3 (add (gk 4) (l.take k).reverse pid + 1) rfl)
            have HBY := Aside0.mk (blk_far HBX.out (show gb ≠ (⟨w.heap.size + 1, 3, none⟩ : Addr).block by show gb ≠ w.heap.size + 1; have := HGB.out; omega) (.int .i64 (add (gk 4) (l.take k).reverse pid + 1)))
            clear HCX HBX
            go_upto_region 10 with (fail)
            clear b0 b1 b2 b3 p0 q0 f0 hw1
            generalize wb.setCell ⟨w.heap.size + 1, 3, none⟩ (.int .i64 (add (gk 4) (l.take k).reverse pid + 1)) = w6 at *
            have d0 : w6.cell? ⟨gb, 0, none⟩ = some (.int .i64 4) := (blk_cell HBY.out 0).trans rfl
            have d1 : w6.cell? ⟨gb, 1, none⟩ = some (.int .i64 a) := (blk_cell HBY.out 1).trans rfl
            have d2 : w6.cell? ⟨gb, 2, none⟩ = some (.int .i64 p) := (blk_cell HBY.out 2).trans rfl
            have d3 : w6.cell? ⟨gb, 3, none⟩ = some (.int .i64 s) := (blk_cell HBY.out 3).trans rfl
            refine region_seq (fun w_ => Below w6.heap.size w6 w_) [4]
              [(0, some 61, .pure), (1, some 62, .held), (2, some 63, .held), (3, some 64, .one), (4, some 65, .last)] (by kernel_rfl) (by kernel_rfl) ?_
            have hS := below_drew (Below.refl w6.heap.size w6)
            repeat (first
              | (refine s_pure (v := ?_) (a' := ?_) rfl (fun _ _ _ h => h) rfl ?hy ?ha ?_; (case hy => (intro w_; go_simp; with_reducible rfl)); (case ha => (simp only [Act.put, List.setIfInBounds_toArray, List.set_cons_zero, List.set_cons_succ, i64_w, i32_w]; rfl)))
              | (refine s_held (v := ?_) (a' := ?_) hS rfl (fun _ _ _ h => h) rfl ?hy ?ha ?_; (case hy => (intro w_ hb_; have s0 := pw_cell_below hb_ d0; have s1 := pw_cell_below hb_ d1; have s2 := pw_cell_below hb_ d2; have s3 := pw_cell_below hb_ d3; go_simp; with_reducible rfl)); (case ha => (simp only [Act.put, List.setIfInBounds_toArray, List.set_cons_zero, List.set_cons_succ, i64_w, i32_w]; rfl))))
            refine s_oneL rfl (fun K hK => ?_) rfl
            go_wp2_with (go_at_call 74; (with_reducible refine (open_any (⟨4, a, p, s⟩ : Evt) _).mono ?_); rintro r w7 ⟨rfl, hB⟩)
            have hS2 : Below w6.heap.size w6 w7 := hS.trans (below_sub hB hS.size)
            clear hB hS
            refine hK _ _ hS2 ?_
            clear hK
            refine s_tail 4 _ (by kernel_rfl) ?_
            simp only [List.drop_succ_cons, List.drop_zero]
            have HS2 := Aside0.mk hS2
            clear hS2 d0 d1 d2 d3
            go_wp2_with (go_at_call 73; (with_reducible refine (putb_any (w.heap.size + 3) k _ (⟨4, a, p, s⟩ : Evt) (opn (⟨4, a, p, s⟩ : Evt)) _ (HC6.out.hm.kept (grown_of HS2.out) (by simp)) HKN.out HWE.out.1 HWE.out.2).mono ?_); rintro r w8 ⟨rfl, hown, hgr⟩; have HC8 := Aside0.mk ((HC6.out.below HS2.out).put hown hgr); clear hown hgr)
            go_roundw
            case measure => simp [intOf]; omega
            case rel =>
              refine ⟨k + 1, by omega, by go_num, ⟨?_⟩⟩
              show CL w _ (k + 1) (add (gk 1) (l.take (k + 1)).reverse pid) (add (gk 2) (l.take (k + 1)).reverse pid) (add (gk 3) (l.take (k + 1)).reverse pid) (add (gk 4) (l.take (k + 1)).reverse pid) (add (gk 5) (l.take (k + 1)).reverse pid) (DD ky (l.take (k + 1)).reverse pid)
              rw [HRS.out]
              simp only [add_yes HSEL.out, DD_yes HSEL.out, gk_hit, gk_miss (show (4 : Int) ≠ 1 by decide), gk_miss (show (4 : Int) ≠ 2 by decide), gk_miss (show (4 : Int) ≠ 3 by decide), gk_miss (show (4 : Int) ≠ 5 by decide), Int.add_zero]
              exact HC8.out
          have HK4 := Aside0.mk hkj
          by_cases hkj : kk = 5
          · subst hkj
            have HKC := Aside0.mk (show add (gk 5) (l.take k).reverse pid + 1 = add (gk 5) (l.take k).reverse pid + 1 from rfl)
            have hw1 : wrap64 (add (gk 5) (l.take k).reverse pid + 1) = add (gk 5) (l.take k).reverse pid + 1 := by have h1 := (HBD.out 5).1; have h2 := (HBD.out 5).2; have h3 := HLN.out; unfold wrap64; omega
            have p0 : wb.cell? ⟨w.heap.size + 2, 5, none⟩ = some (.pointer (some ⟨w.heap.size + 1, 4, none⟩)) := (blk_cell HCX.out.h2 5).trans rfl
            have q0 : wb.cell? ⟨w.heap.size + 1, 4, none⟩ = some (.int .i64 (add (gk 5) (l.take k).reverse pid)) := (blk_cell HCX.out.h1 4).trans rfl
            have f0 := blk_frozen HCX.out.h1 4
            have HC6 := Aside0.mk (HCX.out.cnt 4 (add (gk 5) (l.take k).reverse pid + 1) rfl)
            have HBY := Aside0.mk (blk_far HBX.out (show gb ≠ (⟨w.heap.size + 1, 4, none⟩ : Addr).block by show gb ≠ w.heap.size + 1; have := HGB.out; omega) (.int .i64 (add (gk 5) (l.take k).reverse pid + 1)))
            clear HCX HBX
            go_upto_region 10 with (fail)
            clear b0 b1 b2 b3 p0 q0 f0 hw1
            generalize wb.setCell ⟨w.heap.size + 1, 4, none⟩ (.int .i64 (add (gk 5) (l.take k).reverse pid + 1)) = w6 at *
            have d0 : w6.cell? ⟨gb, 0, none⟩ = some (.int .i64 5) := (blk_cell HBY.out 0).trans rfl
            have d1 : w6.cell? ⟨gb, 1, none⟩ = some (.int .i64 a) := (blk_cell HBY.out 1).trans rfl
            have d2 : w6.cell? ⟨gb, 2, none⟩ = some (.int .i64 p) := (blk_cell HBY.out 2).trans rfl
            have d3 : w6.cell? ⟨gb, 3, none⟩ = some (.int .i64 s) := (blk_cell HBY.out 3).trans rfl
            refine region_seq (fun w_ => Below w6.heap.size w6 w_) [4]
              [(0, some 61, .pure), (1, some 62, .held), (2, some 63, .held), (3, some 64, .one), (4, some 65, .last)] (by kernel_rfl) (by kernel_rfl) ?_
            have hS := below_drew (Below.refl w6.heap.size w6)
            repeat (first
              | (refine s_pure (v := ?_) (a' := ?_) rfl (fun _ _ _ h => h) rfl ?hy ?ha ?_; (case hy => (intro w_; go_simp; with_reducible rfl)); (case ha => (simp only [Act.put, List.setIfInBounds_toArray, List.set_cons_zero, List.set_cons_succ, i64_w, i32_w]; rfl)))
              | (refine s_held (v := ?_) (a' := ?_) hS rfl (fun _ _ _ h => h) rfl ?hy ?ha ?_; (case hy => (intro w_ hb_; have s0 := pw_cell_below hb_ d0; have s1 := pw_cell_below hb_ d1; have s2 := pw_cell_below hb_ d2; have s3 := pw_cell_below hb_ d3; go_simp; with_reducible rfl)); (case ha => (simp only [Act.put, List.setIfInBounds_toArray, List.set_cons_zero, List.set_cons_succ, i64_w, i32_w]; rfl))))
            refine s_oneL rfl (fun K hK => ?_) rfl
            go_wp2_with (go_at_call 74; (with_reducible refine (open_any (⟨5, a, p, s⟩ : Evt) _).mono ?_); rintro r w7 ⟨rfl, hB⟩)
            have hS2 : Below w6.heap.size w6 w7 := hS.trans (below_sub hB hS.size)
            clear hB hS
            refine hK _ _ hS2 ?_
            clear hK
            refine s_tail 4 _ (by kernel_rfl) ?_
            simp only [List.drop_succ_cons, List.drop_zero]
            have HS2 := Aside0.mk hS2
            clear hS2 d0 d1 d2 d3
            go_wp2_with (go_at_call 73; (with_reducible refine (putb_any (w.heap.size + 3) k _ (⟨5, a, p, s⟩ : Evt) (opn (⟨5, a, p, s⟩ : Evt)) _ (HC6.out.hm.kept (grown_of HS2.out) (by simp)) HKN.out HWE.out.1 HWE.out.2).mono ?_); rintro r w8 ⟨rfl, hown, hgr⟩; have HC8 := Aside0.mk ((HC6.out.below HS2.out).put hown hgr); clear hown hgr)
            go_roundw
            case measure => simp [intOf]; omega
            case rel =>
              refine ⟨k + 1, by omega, by go_num, ⟨?_⟩⟩
              show CL w _ (k + 1) (add (gk 1) (l.take (k + 1)).reverse pid) (add (gk 2) (l.take (k + 1)).reverse pid) (add (gk 3) (l.take (k + 1)).reverse pid) (add (gk 4) (l.take (k + 1)).reverse pid) (add (gk 5) (l.take (k + 1)).reverse pid) (DD ky (l.take (k + 1)).reverse pid)
              rw [HRS.out]
              simp only [add_yes HSEL.out, DD_yes HSEL.out, gk_hit, gk_miss (show (5 : Int) ≠ 1 by decide), gk_miss (show (5 : Int) ≠ 2 by decide), gk_miss (show (5 : Int) ≠ 3 by decide), gk_miss (show (5 : Int) ≠ 4 by decide), Int.add_zero]
              exact HC8.out
          have HK5 := Aside0.mk hkj
          by_cases hr1 : 1 ≤ kk ∧ kk ≤ 5
          · exfalso; have k1 := HK1.out; have k2 := HK2.out; have k3 := HK3.out; have k4 := HK4.out; have k5 := HK5.out; omega
          by_cases hr2 : 1 ≤ kk
          · have z1 : decide ((1 : Int) ≤ kk) = true := decide_eq_true hr2
            have z2 : decide (kk ≤ (5 : Int)) = false := decide_eq_false (by omega)
            have HC6 := HCX
            have HBY := HBX
            clear HCX HBX
            go_upto_region 10 with (fail)
            clear b0 b1 b2 b3
            generalize wb = w6 at *
            have d0 : w6.cell? ⟨gb, 0, none⟩ = some (.int .i64 kk) := (blk_cell HBY.out 0).trans rfl
            have d1 : w6.cell? ⟨gb, 1, none⟩ = some (.int .i64 a) := (blk_cell HBY.out 1).trans rfl
            have d2 : w6.cell? ⟨gb, 2, none⟩ = some (.int .i64 p) := (blk_cell HBY.out 2).trans rfl
            have d3 : w6.cell? ⟨gb, 3, none⟩ = some (.int .i64 s) := (blk_cell HBY.out 3).trans rfl
            refine region_seq (fun w_ => Below w6.heap.size w6 w_) [4]
              [(0, some 61, .pure), (1, some 62, .held), (2, some 63, .held), (3, some 64, .one), (4, some 65, .last)] (by kernel_rfl) (by kernel_rfl) ?_
            have hS := below_drew (Below.refl w6.heap.size w6)
            repeat (first
              | (refine s_pure (v := ?_) (a' := ?_) rfl (fun _ _ _ h => h) rfl ?hy ?ha ?_; (case hy => (intro w_; go_simp; with_reducible rfl)); (case ha => (simp only [Act.put, List.setIfInBounds_toArray, List.set_cons_zero, List.set_cons_succ, i64_w, i32_w]; rfl)))
              | (refine s_held (v := ?_) (a' := ?_) hS rfl (fun _ _ _ h => h) rfl ?hy ?ha ?_; (case hy => (intro w_ hb_; have s0 := pw_cell_below hb_ d0; have s1 := pw_cell_below hb_ d1; have s2 := pw_cell_below hb_ d2; have s3 := pw_cell_below hb_ d3; go_simp; with_reducible rfl)); (case ha => (simp only [Act.put, List.setIfInBounds_toArray, List.set_cons_zero, List.set_cons_succ, i64_w, i32_w]; rfl))))
            refine s_oneL rfl (fun K hK => ?_) rfl
            go_wp2_with (go_at_call 74; (with_reducible refine (open_any (⟨kk, a, p, s⟩ : Evt) _).mono ?_); rintro r w7 ⟨rfl, hB⟩)
            have hS2 : Below w6.heap.size w6 w7 := hS.trans (below_sub hB hS.size)
            clear hB hS
            refine hK _ _ hS2 ?_
            clear hK
            refine s_tail 4 _ (by kernel_rfl) ?_
            simp only [List.drop_succ_cons, List.drop_zero]
            have HS2 := Aside0.mk hS2
            clear hS2 d0 d1 d2 d3
            go_wp2_with (go_at_call 73; (with_reducible refine (putb_any (w.heap.size + 3) k _ (⟨kk, a, p, s⟩ : Evt) (opn (⟨kk, a, p, s⟩ : Evt)) _ (HC6.out.hm.kept (grown_of HS2.out) (by simp)) HKN.out HWE.out.1 HWE.out.2).mono ?_); rintro r w8 ⟨rfl, hown, hgr⟩; have HC8 := Aside0.mk ((HC6.out.below HS2.out).put hown hgr); clear hown hgr)
            go_roundw
            case measure => simp [intOf]; omega
            case rel =>
              refine ⟨k + 1, by omega, by go_num, ⟨?_⟩⟩
              show CL w _ (k + 1) (add (gk 1) (l.take (k + 1)).reverse pid) (add (gk 2) (l.take (k + 1)).reverse pid) (add (gk 3) (l.take (k + 1)).reverse pid) (add (gk 4) (l.take (k + 1)).reverse pid) (add (gk 5) (l.take (k + 1)).reverse pid) (DD ky (l.take (k + 1)).reverse pid)
              rw [HRS.out]
              simp only [add_yes HSEL.out, DD_yes HSEL.out, gk_miss HK1.out, gk_miss HK2.out, gk_miss HK3.out, gk_miss HK4.out, gk_miss HK5.out, Int.add_zero]
              exact HC8.out
          · have z1 : decide ((1 : Int) ≤ kk) = false := decide_eq_false hr2
            have HC6 := HCX
            have HBY := HBX
            clear HCX HBX
            go_upto_region 10 with (fail)
            clear b0 b1 b2 b3
            generalize wb = w6 at *
            have d0 : w6.cell? ⟨gb, 0, none⟩ = some (.int .i64 kk) := (blk_cell HBY.out 0).trans rfl
            have d1 : w6.cell? ⟨gb, 1, none⟩ = some (.int .i64 a) := (blk_cell HBY.out 1).trans rfl
            have d2 : w6.cell? ⟨gb, 2, none⟩ = some (.int .i64 p) := (blk_cell HBY.out 2).trans rfl
            have d3 : w6.cell? ⟨gb, 3, none⟩ = some (.int .i64 s) := (blk_cell HBY.out 3).trans rfl
            refine region_seq (fun w_ => Below w6.heap.size w6 w_) [4]
              [(0, some 61, .pure), (1, some 62, .held), (2, some 63, .held), (3, some 64, .one), (4, some 65, .last)] (by kernel_rfl) (by kernel_rfl) ?_
            have hS := below_drew (Below.refl w6.heap.size w6)
            repeat (first
              | (refine s_pure (v := ?_) (a' := ?_) rfl (fun _ _ _ h => h) rfl ?hy ?ha ?_; (case hy => (intro w_; go_simp; with_reducible rfl)); (case ha => (simp only [Act.put, List.setIfInBounds_toArray, List.set_cons_zero, List.set_cons_succ, i64_w, i32_w]; rfl)))
              | (refine s_held (v := ?_) (a' := ?_) hS rfl (fun _ _ _ h => h) rfl ?hy ?ha ?_; (case hy => (intro w_ hb_; have s0 := pw_cell_below hb_ d0; have s1 := pw_cell_below hb_ d1; have s2 := pw_cell_below hb_ d2; have s3 := pw_cell_below hb_ d3; go_simp; with_reducible rfl)); (case ha => (simp only [Act.put, List.setIfInBounds_toArray, List.set_cons_zero, List.set_cons_succ, i64_w, i32_w]; rfl))))
            refine s_oneL rfl (fun K hK => ?_) rfl
            go_wp2_with (go_at_call 74; (with_reducible refine (open_any (⟨kk, a, p, s⟩ : Evt) _).mono ?_); rintro r w7 ⟨rfl, hB⟩)
            have hS2 : Below w6.heap.size w6 w7 := hS.trans (below_sub hB hS.size)
            clear hB hS
            refine hK _ _ hS2 ?_
            clear hK
            refine s_tail 4 _ (by kernel_rfl) ?_
            simp only [List.drop_succ_cons, List.drop_zero]
            have HS2 := Aside0.mk hS2
            clear hS2 d0 d1 d2 d3
            go_wp2_with (go_at_call 73; (with_reducible refine (putb_any (w.heap.size + 3) k _ (⟨kk, a, p, s⟩ : Evt) (opn (⟨kk, a, p, s⟩ : Evt)) _ (HC6.out.hm.kept (grown_of HS2.out) (by simp)) HKN.out HWE.out.1 HWE.out.2).mono ?_); rintro r w8 ⟨rfl, hown, hgr⟩; have HC8 := Aside0.mk ((HC6.out.below HS2.out).put hown hgr); clear hown hgr)
            go_roundw
            case measure => simp [intOf]; omega
            case rel =>
              refine ⟨k + 1, by omega, by go_num, ⟨?_⟩⟩
              show CL w _ (k + 1) (add (gk 1) (l.take (k + 1)).reverse pid) (add (gk 2) (l.take (k + 1)).reverse pid) (add (gk 3) (l.take (k + 1)).reverse pid) (add (gk 4) (l.take (k + 1)).reverse pid) (add (gk 5) (l.take (k + 1)).reverse pid) (DD ky (l.take (k + 1)).reverse pid)
              rw [HRS.out]
              simp only [add_yes HSEL.out, DD_yes HSEL.out, gk_miss HK1.out, gk_miss HK2.out, gk_miss HK3.out, gk_miss HK4.out, gk_miss HK5.out, Int.add_zero]
              exact HC8.out
        · have e1 : (p != pid) = true := by rw [bne_iff_ne]; exact hpp
          have HSEL := Aside0.mk (show sel pid ⟨kk, a, p, s⟩ = false by unfold sel; rw [beq_eq_false_iff_ne.2 hp0, beq_eq_false_iff_ne.2 hpp]; rfl)
          clear hp0 hpp
          go_wp2
          go_roundw
          case measure => simp [intOf]; omega
          case rel =>
            refine ⟨k + 1, by omega, by go_num, ⟨?_⟩⟩
            show CL w _ (k + 1) (add (gk 1) (l.take (k + 1)).reverse pid) (add (gk 2) (l.take (k + 1)).reverse pid) (add (gk 3) (l.take (k + 1)).reverse pid) (add (gk 4) (l.take (k + 1)).reverse pid) (add (gk 5) (l.take (k + 1)).reverse pid) (DD ky (l.take (k + 1)).reverse pid)
            rw [HRS.out]
            simp only [add_no HSEL.out, DD_no HSEL.out]
            exact HCX.out.skip
    · have hkl : k = l.length := by omega
      subst hkl
      have HC5 := Aside0.mk (show CL w wr l.length (add (gk 1) (l.take l.length).reverse pid) (add (gk 2) (l.take l.length).reverse pid) (add (gk 3) (l.take l.length).reverse pid) (add (gk 4) (l.take l.length).reverse pid) (add (gk 5) (l.take l.length).reverse pid) (DD ky (l.take l.length).reverse pid) from HC.out)
      rw [List.take_length] at HC5
      clear HC
      have hwr : ∀ x ∈ l.reverse, W64 x.p ∧ W64 x.s := fun x hx => HW.out x (List.mem_reverse.1 hx)
      have HSUM := Aside0.mk (DD_sum W64 ky ky_lit ky_inj l.reverse pid hwr)
      have HGL := Aside0.mk (show add go l.reverse pid ≤ 1000 by have h1 := add_go_le l.reverse pid; rw [List.length_reverse] at h1; omega)
      obtain ⟨es, hes, hap⟩ := DD_tidy ky ky_lit l.reverse pid
      rw [hes] at HC5 HSUM
      have HAP := Aside0.mk hap
      have HKY := Aside0.mk (show Keyy es by
        obtain ⟨es', e', _, hk'⟩ := HC5.out.hm.entries keyTh
        cases e'
        exact hk')
      generalize hx1 : add (gk 1) l.reverse pid = x1 at *
      have HX1 := Aside0.mk hx1
      clear hx1
      generalize hx2 : add (gk 2) l.reverse pid = x2 at *
      have HX2 := Aside0.mk hx2
      clear hx2
      generalize hx3 : add (gk 3) l.reverse pid = x3 at *
      have HX3 := Aside0.mk hx3
      clear hx3
      generalize hx4 : add (gk 4) l.reverse pid = x4 at *
      have HX4 := Aside0.mk hx4
      clear hx4
      generalize hx5 : add (gk 5) l.reverse pid = x5 at *
      have HX5 := Aside0.mk hx5
      clear hx5
      clear hes hap hwr
      obtain ⟨wo, rfl⟩ : ∃ wo, wo = wr := ⟨_, rfl⟩
      go_wp2_with (first
        | (at_range; refine wpList_range_own _ rfl _ 96 rfl 100 4 keyTh Try.underlying96 (plainElem Try.prog 4) (w.heap.size + 3) l.length (.map es) rfl HC5.out.hm ?_; intro w5 hrg0 hg0 hs0)
        | go_in)
      go_frame
      have HRI := Aside0.mk (show w.heap.size + 3 < wo.heap.size from HC5.out.hm.lt)
      have HRL := Aside0.mk (show RL w w5 l.length wo.heap.size x1 x2 x3 x4 x5 es (Maps.has (.map es)) (Maps.size (.map es : Dm)) from
        ⟨blk_grown HC5.out.h0 hg0 (by simp), by rw [tl_start HKY.out]; exact blk_grown HC5.out.h1 hg0 (by simp), hrg0, HC5.out.hb.trans ⟨hg0.os, hg0.tape, hg0.output, hg0.size, fun i hi => hg0.block i (Nat.lt_of_lt_of_le hi HC5.out.hb.size) (by simp)⟩⟩)
      clear hrg0 hg0 hs0
      go_loopw [13] (fun _ wq => ∃ (left : Lit → Bool) (cnt : Nat), Aside0 (RL w wq l.length wo.heap.size x1 x2 x3 x4 x5 es left cnt)) (fun _ wq => wq.rangeLeft (w.heap.size + 3) wo.heap.size)
      case atStart => exact ⟨_, _, HRL⟩
      case round =>
        clear HRL
        obtain ⟨left, cnt, HX⟩ := hrel
        go_wp2_with (first
          | (at_next; refine next_bools 100 keyTh _ rfl _ rfl (w.heap.size + 3) wo.heap.size l.length (.map es) left cnt rfl HX.out.rg ?_ ?_)
          | go_in)
        · intro _ hl0
          have H1 := Aside0.mk HX.out.h1
          rw [tl_end hl0, show sumE isT es = add go l.reverse pid from HSUM.out] at H1
          have H0 := Aside0.mk HX.out.h0
          have HBB := Aside0.mk HX.out.hb
          generalize hx6 : add go l.reverse pid = x6 at *
          have HX6 := Aside0.mk hx6
          clear hx6
          have q0 : wr.cell? ⟨w.heap.size + 1, 0, none⟩ = some (.int .i64 x1) := (blk_cell H1.out 0).trans rfl
          have q1 : wr.cell? ⟨w.heap.size + 1, 1, none⟩ = some (.int .i64 x2) := (blk_cell H1.out 1).trans rfl
          have q2 : wr.cell? ⟨w.heap.size + 1, 2, none⟩ = some (.int .i64 x3) := (blk_cell H1.out 2).trans rfl
          have q3 : wr.cell? ⟨w.heap.size + 1, 3, none⟩ = some (.int .i64 x4) := (blk_cell H1.out 3).trans rfl
          have q4 : wr.cell? ⟨w.heap.size + 1, 4, none⟩ = some (.int .i64 x5) := (blk_cell H1.out 4).trans rfl
          have q5 : wr.cell? ⟨w.heap.size + 1, 5, none⟩ = some (.int .i64 x6) := (blk_cell H1.out 5).trans rfl
          clear HX hl0 H1
          go_wp2_with (first
            | ((with_reducible refine gate_st 39 6 78 rfl ?_); go_loud (refine acc_put rfl 6 78 rfl w.heap.size _ x1 x2 x3 x4 x5 x6 rfl rfl rfl H0.out ?_); intro w7 hg7 hgr; have HF := Aside0.mk hg7; have HB7 := Aside0.mk (HBB.out.trans (below_of hgr (Nat.le_refl _) HBB.out.size)); clear hg7 hgr q0 q1 q2 q3 q4 q5))
          ((try simp only [Exit.inBlock, Exit.then]); refine bodyPost_ret (results_cell_row rfl _ _ _ 39 _ (0, 0) _ rfl HF.out Try.underlying39 rfl (by kernel_rfl)) rfl ?_)
          exact ⟨by rw [HX1.out, HX2.out, HX3.out, HX4.out, HX5.out, HX6.out], HB7.out⟩
        · intro x cb kl w6 cnt1 hkey hlx hat hrg1 hlt1 hg1 hs1 hent
          obtain ⟨cc⟩ := cb
          have hmem := entry_of_at HAP.out HKY.out hat
          have hstep := tl_step (f := isT) (y := .lit (.bool cc)) hlx (HKY.out _ hmem) HAP.out hmem
          have HLE := Aside0.mk (tl_le isT_nn left es)
          have HLE2 := Aside0.mk (tl_le isT_nn (fun z => left z && !z.sameKey kl) es)
          have HST := Aside0.mk hstep
          have HRG := Aside0.mk hrg1
          have HLT := Aside0.mk hlt1
          have HOLD := Aside0.mk HX.out.rg.left_eq
          have H0 := Aside0.mk (blk_grown HX.out.h0 hg1 (by have := HRI.out; simp; omega))
          have H1 := Aside0.mk (blk_grown HX.out.h1 hg1 (by have := HRI.out; simp; omega))
          have HB6 := Aside0.mk (HX.out.hb.trans (below_of hg1 (by have := HRI.out; omega) HX.out.hb.size))
          clear hkey hlx hat hrg1 hlt1 hg1 hs1 hmem hstep HX
          cases cc with
          | true =>
            have hw6 : wrap64 (tl isT es left + 1) = tl isT es left + 1 := by have h1 := HLE.out.1; have h2 := HLE.out.2; have h3 := HGL.out; have h4 : sumE isT es = add go l.reverse pid := HSUM.out; unfold wrap64; omega
            have q5 : w6.cell? ⟨w.heap.size + 1, 5, none⟩ = some (.int .i64 (tl isT es left)) := (blk_cell H1.out 5).trans rfl
            have f5 := blk_frozen H1.out 5
            have HRG2 := Aside0.mk (HRG.out.kept (grown_set w6 ⟨w.heap.size + 1, 5, none⟩ (.int .i64 (tl isT es left + 1))) (by simp) (by have := HRI.out; simp; omega))
            go_wp2
            go_roundw
            case rel =>
              refine ⟨_, cnt1, ⟨⟨blk_far H0.out (show w.heap.size ≠ w.heap.size + 1 by omega) _, ?_, HRG2.out, HB6.out.setCell (p := ⟨w.heap.size + 1, 5, none⟩) (Nat.le_succ _) _⟩⟩⟩
              rw [HST.out]
              exact blk_put H1.out 5 _ rfl
            case measure => rw [HRG2.out.left_eq, HOLD.out]; exact HLT.out
          | false =>
            go_wp2
            go_roundw
            case rel =>
              refine ⟨_, cnt1, ⟨⟨H0.out, ?_, HRG.out, HB6.out⟩⟩⟩
              rw [HST.out, show isT kl (.lit (.bool false)) = 0 from rfl, Int.add_zero]
              exact H1.out
            case measure => rw [HRG.out.left_eq, HOLD.out]; exact HLT.out
end Go.Proofs.Ytkepmbkghmkodaa.Tell
