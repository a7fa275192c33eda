/- tell: events, threads, accounts in memory; open, of, put: their contracts. -/
import Derived.Test.YtkepmbkghmkodaaSeqMore
import Derived.Test.YtkepmbkghmkodaaTellPure
import Derived.Maps.RangeWalk
import Derived.Maps.OwnSet
import Derived.DeepKeys5
import Derived.Laws.CopyOwn
import Derived.Laws.Rows
namespace Go.Proofs.Ytkepmbkghmkodaa.Tell
open Go.RowKit Go.Proofs.YtkepmbkghmkodaaW.PrintWords Go.Proofs.YtkepmbkghmkodaaW.PrintLast Go.Proofs.Ytkepmbkghmkodaa.Base Go.Proofs.Ytkepmbkghmkodaa.Seq Go.Proofs.Ytkepmbkghmkodaa.MapSum Go.Maps
set_option linter.unusedVariables false
set_option linter.unusedSimpArgs false
def kEv : Kd Evt := Kd.iso (Kd.pair (Kd.int .i64) (Kd.pair (Kd.int .i64) (Kd.pair (Kd.int .i64) (Kd.int .i64)))) (fun e : Evt => (e.k, e.a, e.p, e.s))
abbrev ecell (e : Evt) : Array Value := #[.int .i64 e.k, .int .i64 e.a, .int .i64 e.p, .int .i64 e.s]
abbrev W64 (x : Int) : Prop := (Lit.int .i64 x).wf = true
theorem keyTh : Keyed Try.prog 100 := Keyed.of_law (deep_law_gate (by kernel_rfl) (of_decide_eq_true (by kernel_rfl)) (of_decide_eq_true (by kernel_rfl)) (by kernel_rfl) (by kernel_rfl))
theorem lits_thread (d : Nat) (p s : Int) (hp : W64 p) (hs : W64 s) : (Try.prog).keyLits (d + 2) 100 [.int .i64 p, .int .i64 s] = some [.int .i64 p, .int .i64 s] := by
  have h1 : (Try.prog).cellsOf 100 = 2 := by kernel_rfl
  have h2 : (Try.prog).cellsOf 3 = 1 := by kernel_rfl
  simp [Program.keyLits, Try.underlying100, Try.underlying3, h1, h2, hp, hs]
theorem key_thread (p s : Int) (hp : W64 p) (hs : W64 s) : keyOf Try.prog 100 (.agg #[.int .i64 p, .int .i64 s]) = some (.string (keyBytes [.int .i64 p, .int .i64 s])) := by
  have h0 : 1 ≤ (Try.prog).types.size := of_decide_eq_true (by kernel_rfl)
  have h1 : (Try.prog).cellsOf 100 = 2 := by kernel_rfl
  have h3 : (Try.prog).keyType 100 = true := by kernel_rfl
  have h4 := lits_thread ((Try.prog).types.size - 1) p s hp hs
  rw [show (Try.prog).types.size - 1 + 2 = (Try.prog).types.size + 1 by omega] at h4
  unfold keyOf
  rw [Try.underlying100]
  have h5 : (Value.agg #[.int .i64 p, .int .i64 s]).formed Try.prog 100 = true := by
    simp [Value.formed, Try.underlying100, h1]
  have h6 : (Value.agg #[.int .i64 p, .int .i64 s]).cells.toList = [.int .i64 p, .int .i64 s] := rfl
  simp only [h3, h5, Bool.and_self, if_true, h6, h4, Option.map_some]
/-- A thread as a key. -/
def ky (p s : Int) : Lit := .string (keyBytes [.int .i64 p, .int .i64 s])
theorem ky_lit (p s : Int) : WideAt.IsKeyLit (ky p s) := trivial
theorem ky_inj (p s p' s' : Int) (h1 : W64 p) (h2 : W64 s) (h3 : W64 p') (h4 : W64 s') (h : ky p s = ky p' s') : p = p' ∧ s = s' := by
  have a := key_thread p s h1 h2
  have b := key_thread p' s' h3 h4
  rw [show Lit.string (keyBytes [.int .i64 p, .int .i64 s]) = ky p' s' from h] at a
  have e := keyTh.inj a b
  simp only [Value.agg.injEq, Array.mk.injEq, List.cons.injEq, Value.int.injEq, true_and, and_true] at e
  exact e
theorem at_ev {w : World} {A : Option Addr} {n : Nat} {xs : List Evt} (h : Kd.C kEv w A n xs) (i : Nat) (hi : i < xs.length) : ∃ ad, A = some ad ∧ w.cell? (ad.add (i * 4)) = some (.int .i64 (xs[i]).k) ∧ w.cell? ⟨(ad.add (i * 4)).block, (ad.add (i * 4)).off + 1, none⟩ = some (.int .i64 (xs[i]).a) ∧ w.cell? ⟨(ad.add (i * 4)).block, (ad.add (i * 4)).off + 2, none⟩ = some (.int .i64 (xs[i]).p) ∧ w.cell? ⟨(ad.add (i * 4)).block, (ad.add (i * 4)).off + 3, none⟩ = some (.int .i64 (xs[i]).s) := by
  obtain ⟨ad, c, e, _, hK, hc0⟩ := Kd.C_get h ⟨0, 0, 0, 0⟩ (i : Int) (by omega) (by have := h.1; omega)
  rw [Int.toNat_natCast] at hK hc0
  have hc : ∀ j u, c[j]? = some u → w.cell? (ad.add (i * 4 + j)) = some u := hc0
  have hd : xs.getD i ⟨0, 0, 0, 0⟩ = xs[i] := by simp [List.getD_eq_getElem?_getD, List.getElem?_eq_getElem hi]
  rw [hd] at hK
  obtain ⟨c1, c2, rfl, h1, c3, c4, rfl, h2, c5, c6, rfl, h3, h4⟩ := hK
  obtain rfl : c1 = [.int .i64 (xs[i]).k] := h1
  obtain rfl : c3 = [.int .i64 (xs[i]).a] := h2
  obtain rfl : c5 = [.int .i64 (xs[i]).p] := h3
  obtain rfl : c6 = [.int .i64 (xs[i]).s] := h4
  exact ⟨ad, e, hc 0 _ rfl, by rw [← add_field _ _ 1 (by omega)]; exact hc 1 _ rfl, by rw [← add_field _ _ 2 (by omega)]; exact hc 2 _ rfl, by rw [← add_field _ _ 3 (by omega)]; exact hc 3 _ rfl⟩
section
variable {ops : Array Oper} {rest : List Oper} {o : Oper} {a : Act} {Q : Exit → Act → World → Prop}
theorem gate_st {W : World} (t p y : Nat) (ho : o.op = .store t (.tmp p) (.tmp y)) (h : wpList Try.prog ops Q (o :: rest) a W) : wpList Try.prog ops Q (o :: rest) a W := h
theorem grown_row (w : World) (g : Nat) (cs : Array Value) : w.grownBy (w.setRow g cs) (some g) :=
  ⟨rfl, rfl, rfl, by simp, fun i hi hne => setRow_other w g i cs (fun e => hne (by rw [e]))⟩
theorem th_put {W : World} (hgd : o.guard = none) (p y : Tmp) (ho : o.op = .store 100 (.tmp p) (.tmp y)) (g : Nat) (cs : Array Value) (x z : Int) (hcs : cs.size = 2) (hx : a.eval (.tmp p) = .pointer (some ⟨g, 0, none⟩)) (hy : a.eval (.tmp y) = .agg #[.int .i64 x, .int .i64 z])
    (hg : W.heap[g]? = some (.cells cs 100 (0, 0)))
    (h : ∀ w1, w1.heap[g]? = some (.cells #[.int .i64 x, .int .i64 z] 100 (0, 0)) → W.grownBy w1 (some g) → wpList Try.prog ops Q rest (a.put o.dst undef) w1) : wpList Try.prog ops Q (o :: rest) a W :=
  wpList_store_row hgd 100 (.tmp p) (.tmp y) ho g _ hx hy 100 cs hg (by kernel_rfl) hcs (by simp [Value.oneCell']) (h _ (setRow_heap _ _ _ _ _ _ hg) (grown_row _ _ _))
theorem acc_put {W : World} (hgd : o.guard = none) (p y : Tmp) (ho : o.op = .store 39 (.tmp p) (.tmp y)) (g : Nat) (cs : Array Value) (x1 x2 x3 x4 x5 x6 : Int) (hcs : cs.size = 6) (hx : a.eval (.tmp p) = .pointer (some ⟨g, 0, none⟩)) (hy : a.eval (.tmp y) = .agg #[.int .i64 x1, .int .i64 x2, .int .i64 x3, .int .i64 x4, .int .i64 x5, .int .i64 x6])
    (hg : W.heap[g]? = some (.cells cs 39 (0, 0)))
    (h : ∀ w1, w1.heap[g]? = some (.cells #[.int .i64 x1, .int .i64 x2, .int .i64 x3, .int .i64 x4, .int .i64 x5, .int .i64 x6] 39 (0, 0)) → W.grownBy w1 (some g) → wpList Try.prog ops Q rest (a.put o.dst undef) w1) : wpList Try.prog ops Q (o :: rest) a W :=
  wpList_store_row hgd 39 (.tmp p) (.tmp y) ho g _ hx hy 39 cs hg (by kernel_rfl) hcs (by simp [Value.oneCell']) (h _ (setRow_heap _ _ _ _ _ _ hg) (grown_row _ _ _))
end
theorem size_alloc (w : World) (o : Obj) : (w.alloc o).heap.size = w.heap.size + 1 := by
  show (w.heap.push o).size = _
  exact Array.size_push _
theorem ret_b {a b : Bool} (h : a = b) : Ending.returned (.bool a) = .returned (.bool b) := by rw [h]
theorem grown_of {w w' : World} (h : Below w.heap.size w w') : w.grownBy w' none := ⟨h.os, h.tape, h.output, h.size, fun i hi _ => h.block i hi⟩
theorem below_of {w w' : World} {B g : Nat} (h : w.grownBy w' (some g)) (hB : B ≤ g) (hs : B ≤ w.heap.size) : Below B w w' := ⟨h.os, h.tape, h.output, h.size, fun i hi => h.block i (by omega) (fun e => by cases e; omega)⟩
set_option maxHeartbeats 1000000 in
set_option maxRecDepth 100000 in
theorem open_any (e : Evt) (w : World) : Calls Try.prog 74 #[.agg (ecell e)] w fun r w' => r = .returned (.bool (opn e)) ∧ Below w.heap.size w w' := by
  have HB := Aside0.mk (below_alloc (Below.refl w.heap.size w) (.cells (ecell e) 37))
  have hg := blk_new w (.cells (ecell e) 37)
  have c0 : (w.alloc (.cells (ecell e) 37)).cell? ⟨w.heap.size, 0, none⟩ = some (.int .i64 e.k) := (blk_cell hg 0).trans rfl
  clear hg
  go_enter Try.func74, Try.ntmps74
  go_upto_region 1 with (fail)
  generalize w.alloc (.cells (ecell e) 37) = w1 at *
  cases h1 : e.k == 1 with
  | true =>
    go_wp2
    go_ret
    exact ⟨ret_b (by unfold opn; rw [h1]; rfl), HB.out⟩
  | false =>
    go_wp2
    go_ret
    exact ⟨ret_b (by unfold opn; rw [h1]; rfl), HB.out⟩
set_option maxHeartbeats 1000000 in
set_option maxRecDepth 100000 in
theorem of_any (e : Evt) (w : World) : Calls Try.prog 108 #[.agg (ecell e)] w fun r w' => r = .returned (.agg #[.int .i64 e.p, .int .i64 e.s]) ∧ Below w.heap.size w w' := by
  have HB := Aside0.mk (below_alloc (Below.refl w.heap.size w) (.cells (ecell e) 37))
  have hg := blk_new w (.cells (ecell e) 37)
  have HG := Aside0.mk hg
  clear hg
  go_enter Try.func108, Try.ntmps108
  have HSZ := size_alloc w (.cells (ecell e) 37)
  have HA := Aside0.mk (blk_new (w.alloc (.cells (ecell e) 37)) (.cells #[.int .i64 0, .int .i64 0] 100))
  rw [HSZ] at HA
  have HB1 := Aside0.mk (below_alloc HB.out (.cells #[.int .i64 0, .int .i64 0] 100))
  have hg := blk_below HG.out (below_alloc (Below.refl (w.alloc (.cells (ecell e) 37)).heap.size (w.alloc (.cells (ecell e) 37))) (.cells #[.int .i64 0, .int .i64 0] 100))
  clear HSZ HG
  go_upto_region 1 with (fail)
  generalize (w.alloc (.cells (ecell e) 37)).alloc (.cells #[.int .i64 0, .int .i64 0] 100) = w2 at *
  have c2 : w2.cell? ⟨w.heap.size, 2, none⟩ = some (.int .i64 e.p) := (blk_cell hg 2).trans rfl
  have c3 : w2.cell? ⟨w.heap.size, 3, none⟩ = some (.int .i64 e.s) := (blk_cell hg 3).trans rfl
  clear hg
  go_wp2_with (first
    | ((with_reducible refine gate_st 100 2 7 rfl ?_); go_loud (refine th_put rfl 2 7 rfl (w.heap.size + 1) _ e.p e.s rfl rfl rfl HA.out ?_); intro w3 hg3 hgr; have HX := Aside0.mk hg3; have HB3 := Aside0.mk (HB1.out.trans (below_of hgr (Nat.le_succ _) HB1.out.size)); clear hg3 hgr))
  ((try simp only [Exit.inBlock, Exit.then]); refine bodyPost_ret (results_cell_row rfl _ _ _ 100 _ (0, 0) _ rfl HX.out Try.underlying100 rfl (by kernel_rfl)) rfl ?_)
  exact ⟨rfl, HB3.out⟩
set_option maxHeartbeats 1000000 in
set_option maxRecDepth 100000 in
theorem putb_any (m n : Nat) (D : Dm) (e : Evt) (v : Bool) (w : World) (hown : w.ownsMap Try.prog 100 (plainElem Try.prog 4) m n D) (hn : n < 1000000) (hp : W64 e.p) (hs : W64 e.s) :
    Calls Try.prog 73 #[.map (some m), .agg (ecell e), .bool v] w fun r w' => r = .returned (.tuple #[]) ∧ w'.ownsMap Try.prog 100 (plainElem Try.prog 4) m (n + 1) (D.put (ky e.p e.s) (.lit (.bool v))) ∧ w.grownBy w' (some m) := by
  have HB := Aside0.mk (below_alloc (Below.refl w.heap.size w) (.cells (ecell e) 37))
  have HG := Aside0.mk (blk_new w (.cells (ecell e) 37))
  have HO := Aside0.mk hown
  have HK := Aside0.mk (key_thread e.p e.s hp hs)
  have HN := Aside0.mk (show n < maxLen by unfold maxLen; omega)
  clear hown hn hp hs
  go_enter Try.func73, Try.ntmps73
  go_upto_region 1 with (fail)
  generalize w.alloc (.cells (ecell e) 37) = w1 at *
  have c0 : w1.cell? ⟨w.heap.size, 0, none⟩ = some (.int .i64 e.k) := (blk_cell HG.out 0).trans rfl
  have c1 : w1.cell? ⟨w.heap.size, 1, none⟩ = some (.int .i64 e.a) := (blk_cell HG.out 1).trans rfl
  have c2 : w1.cell? ⟨w.heap.size, 2, none⟩ = some (.int .i64 e.p) := (blk_cell HG.out 2).trans rfl
  have c3 : w1.cell? ⟨w.heap.size, 3, none⟩ = some (.int .i64 e.s) := (blk_cell HG.out 3).trans rfl
  go_wp2_with (first
    | (go_at_call 108; (with_reducible refine (of_any e _).mono ?_); rintro r w2 ⟨rfl, hB⟩; have HB2 := Aside0.mk (HB.out.trans (below_sub hB HB.out.size)); clear hB)
    | (at_mapUpdate
       go_loud (refine wpList_mapUpdate_own _ rfl _ _ _ 96 rfl 100 4 keyTh Try.underlying96 (plainElem Try.prog 4) m n D rfl (HO.out.kept (grown_of HB2.out) (by simp)) HN.out _ _ (ky e.p e.s) rfl rfl HK.out _ [] (plainElem_bool Try.underlying4 v) ?_)
       intro w3 own3 hgr
       have HO3 := Aside0.mk own3
       have HG3 := Aside0.mk (((grown_of HB2.out).but (some m)).andThen hgr (fun j hj => .inr hj))
       clear own3 hgr))
  go_end0
  exact ⟨rfl, HO3.out, HG3.out⟩
set_option maxHeartbeats 1000000 in
set_option maxRecDepth 100000 in
theorem puti_any (m n : Nat) (D : Dm) (e : Evt) (v : Int) (w : World) (hown : w.ownsMap Try.prog 100 (plainElem Try.prog 3) m n D) (hn : n < 1000000) (hp : W64 e.p) (hs : W64 e.s) (hv : W64 v) :
    Calls Try.prog 109 #[.map (some m), .agg (ecell e), .int .i64 v] w fun r w' => r = .returned (.tuple #[]) ∧ w'.ownsMap Try.prog 100 (plainElem Try.prog 3) m (n + 1) (D.put (ky e.p e.s) (.lit (.int .i64 v))) ∧ w.grownBy w' (some m) := by
  have HB := Aside0.mk (below_alloc (Below.refl w.heap.size w) (.cells (ecell e) 37))
  have HG := Aside0.mk (blk_new w (.cells (ecell e) 37))
  have HO := Aside0.mk hown
  have HV := Aside0.mk hv
  have HK := Aside0.mk (key_thread e.p e.s hp hs)
  have HN := Aside0.mk (show n < maxLen by unfold maxLen; omega)
  clear hown hn hp hs hv
  go_enter Try.func109, Try.ntmps109
  go_upto_region 1 with (fail)
  generalize w.alloc (.cells (ecell e) 37) = w1 at *
  have c0 : w1.cell? ⟨w.heap.size, 0, none⟩ = some (.int .i64 e.k) := (blk_cell HG.out 0).trans rfl
  have c1 : w1.cell? ⟨w.heap.size, 1, none⟩ = some (.int .i64 e.a) := (blk_cell HG.out 1).trans rfl
  have c2 : w1.cell? ⟨w.heap.size, 2, none⟩ = some (.int .i64 e.p) := (blk_cell HG.out 2).trans rfl
  have c3 : w1.cell? ⟨w.heap.size, 3, none⟩ = some (.int .i64 e.s) := (blk_cell HG.out 3).trans rfl
  go_wp2_with (first
    | (go_at_call 108; (with_reducible refine (of_any e _).mono ?_); rintro r w2 ⟨rfl, hB⟩; have HB2 := Aside0.mk (HB.out.trans (below_sub hB HB.out.size)); clear hB)
    | (at_mapUpdate
       go_loud (refine wpList_mapUpdate_own _ rfl _ _ _ 150 rfl 100 3 keyTh Try.underlying150 (plainElem Try.prog 3) m n D rfl (HO.out.kept (grown_of HB2.out) (by simp)) HN.out _ _ (ky e.p e.s) rfl rfl HK.out _ [] (plainElem_int Try.underlying3 HV.out) ?_)
       intro w3 own3 hgr
       have HO3 := Aside0.mk own3
       have HG3 := Aside0.mk (((grown_of HB2.out).but (some m)).andThen hgr (fun j hj => .inr hj))
       clear own3 hgr))
  go_end0
  exact ⟨rfl, HO3.out, HG3.out⟩
end Go.Proofs.Ytkepmbkghmkodaa.Tell
