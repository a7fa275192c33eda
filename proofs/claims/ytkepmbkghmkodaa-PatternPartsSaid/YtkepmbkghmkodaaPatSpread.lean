/- pattern.Match's closure: any bytes may be none. -/
import Derived.Test.YtkepmbkghmkodaaPatThings
namespace Go.Proofs.Ytkepmbkghmkodaa.Pat
open Go.RowKit Go.Proofs.YtkepmbkghmkodaaW.PrintWords Go.Proofs.YtkepmbkghmkodaaW.PrintLast Go.Proofs.Ytkepmbkghmkodaa.Base Go.Proofs.Ytkepmbkghmkodaa.P Go.Proofs.Ytkepmbkghmkodaa.Seq
set_option linter.unusedVariables false
set_option linter.unusedSimpArgs false
def kindAt (ts : List Th) (i : Nat) : Int := (ts.getD i default).kind
def spread1 (ts : List Th) (l : List Bool) (i : Nat) : List Bool := if (l.getD i false && kindAt ts i == 2) = true then l.set (i + 1) true else l
def spreadN (ts : List Th) (l : List Bool) : Nat → List Bool
  | 0 => l
  | k + 1 => spread1 ts (spreadN ts l k) k
def spread (ts : List Th) (l : List Bool) : List Bool := spreadN ts l ts.length
theorem spread1_len (ts : List Th) (l : List Bool) (i : Nat) : (spread1 ts l i).length = l.length := by unfold spread1; split <;> simp
theorem spreadN_len (ts : List Th) (l : List Bool) : ∀ k, (spreadN ts l k).length = l.length
  | 0 => rfl
  | k + 1 => by rw [spreadN, spread1_len, spreadN_len ts l k]
theorem spread_len (ts : List Th) (l : List Bool) : (spread ts l).length = l.length := spreadN_len _ _ _
section
variable {ops : Array Oper} {rest : List Oper} {o : Oper} {a : Act} {Q : Exit → Act → World → Prop}
theorem run_load_th (w : World) (q : Addr) (X : Th) (hX : X.set.length = 256) (h : ∀ j u, X.cells[j]? = some u → w.cell? (q.add j) = some u) : (loadVar 134 q).run Try.prog w = .ok (.agg X.arr) w := by
  have hl : (loadCells q X.cells.length).run Try.prog w = .ok X.cells.toArray w := run_loadCells_list w q X.cells h
  obtain ⟨ie, hie, hz, hs, _⟩ := info_parts info_z
  rw [arr_len hX] at hl
  have hagg : (isAgg 134).run Try.prog w = .ok true w := by
    unfold isAgg
    rw [Sem.run_bind, run_underlying Try.underlying134 w]
    rfl
  simp [loadVar, Sem.run_bind, hagg, sizeOf, typeInfo, hie, hs, hl, Th.arr]
theorem th_loadAt {W : World} (hgd : o.guard = none) (p : Tmp) (ho : o.op = .load 134 (.tmp p)) (q : Addr) (X : Th) (hX : X.set.length = 256) (hx : a.eval (.tmp p) = .pointer (some q)) (hc : ∀ j u, X.cells[j]? = some u → W.cell? (q.add j) = some u)
    (h : wpList Try.prog ops Q rest (a.put o.dst (.agg X.arr)) W) : wpList Try.prog ops Q (o :: rest) a W := by
  refine wpList_plain hgd fun K hK => ?_
  unfold Oper.wp execOp
  simp only [ho, hx, Instr.loadAt, Instr.sureAddr, Sem.run_bind, Sem.run_pure, Result.andThen_ok, run_load_th W q X hX hc]
  exact hK _ _ h
end
theorem at_th {w : World} {A : Option Addr} {n : Nat} {ts : List Th} (h : kTh.C w A n ts) (i : Nat) (hi : i < ts.length) : ∃ ad, A = some ad ∧ ts[i].set.length = 256 ∧ ∀ j u, ts[i].cells[j]? = some u → w.cell? ((ad.add (i * 258)).add j) = some u := by
  obtain ⟨ad, c, e, _, hK, hc0⟩ := Kd.C_get h default (i : Int) (by omega) (by have := h.1; omega)
  rw [Int.toNat_natCast] at hK hc0
  have hd : ts.getD i default = ts[i] := by simp [List.getD_eq_getElem?_getD, List.getElem?_eq_getElem hi]
  rw [hd] at hK
  obtain ⟨rfl, hl⟩ := hK
  exact ⟨ad, e, hl, fun j u hu => by rw [add_add]; exact hc0 j u hu⟩
theorem cells_below {w w1 : World} {q : Addr} {X : Th} (h : ∀ j u, X.cells[j]? = some u → w.cell? (q.add j) = some u) (hb : Below w.heap.size w w1) : ∀ j u, X.cells[j]? = some u → w1.cell? (q.add j) = some u := fun j u hu => pw_cell_below hb (h j u hu)
theorem kindAt_lt {ts : List Th} {i : Nat} (h : i < ts.length) : kindAt ts i = ts[i].kind := by simp [kindAt, List.getD_eq_getElem?_getD, List.getElem?_eq_getElem h]
/-- What holds between: things, where they may be. -/
structure Sp (w1 w : World) (A : Option Addr) (c : Nat) (ts : List Th) (g5 g6 ga cap : Nat) (l : List Bool) : Prop where
  hb : Below w1.heap.size w1 w
  h5 : w.heap[g5]? = some (.cells #[.slice A ts.length c] 130 (0, 0))
  h6 : w.heap[g6]? = some (.cells #[.slice (some ⟨ga, 0, none⟩) l.length cap] 49 (0, 0))
  hR : Kd.bool.R 4 w w1.heap.size ok0 (.slice (some ⟨ga, 0, none⟩) l.length cap) l
  hl : l.length = ts.length + 1
  hg6 : w1.heap.size ≤ g6
theorem Sp.ga_lt {w1 w : World} {A : Option Addr} {c : Nat} {ts : List Th} {g5 g6 ga cap : Nat} {l : List Bool} (h : Sp w1 w A c ts g5 g6 ga cap l) : w1.heap.size ≤ ga ∧ ∃ cells, w.heap[ga]? = some (.cells cells 4 (0, 0)) := by
  obtain ⟨g, cp, e, hg, _, hc⟩ := Kd.R_form h.hR (by rw [h.hl]; omega)
  injection e with e1 _ _
  injection e1 with e1
  injection e1 with e1
  subst e1
  exact ⟨hg, hc⟩
theorem Sp.set {w1 w : World} {A : Option Addr} {c : Nat} {ts : List Th} {g5 g6 ga cap : Nat} {l : List Bool} (h : Sp w1 w A c ts g5 g6 ga cap l) (i : Nat) (b : Bool) : Sp w1 (w.setCell ⟨ga, i, none⟩ (.bool b)) A c ts g5 g6 ga cap (l.set i b) := by
  obtain ⟨hg, cells, hc⟩ := h.ga_lt
  have hp := (Kd.R_putg h.hR (i : Int) b).1
  rw [Int.toNat_natCast] at hp
  exact ⟨h.hb.setCell hg _, blk_far h.h5 (blk_ne h.h5 hc (by decide)) _, by rw [List.length_set]; exact blk_far h.h6 (blk_ne h.h6 hc (by decide)) _, by rw [List.length_set]; exact hp, by rw [List.length_set]; exact h.hl, h.hg6⟩
theorem Sp.below {w1 w w2 : World} {A : Option Addr} {c : Nat} {ts : List Th} {g5 g6 ga cap : Nat} {l : List Bool} (h : Sp w1 w A c ts g5 g6 ga cap l) (hb : Below w.heap.size w w2) : Sp w1 w2 A c ts g5 g6 ga cap l :=
  ⟨below_trans h.hb (below_sub hb h.hb.size), blk_below h.h5 hb, blk_below h.h6 hb, Kd.R_below h.hR hb, h.hl, h.hg6⟩
set_option maxHeartbeats 4000000 in
set_option maxRecDepth 100000 in
theorem spread_any (w1 : World) (A : Option Addr) (c : Nat) (ts : List Th) (g5 g6 ga cap : Nat) (l : List Bool) (w : World) (hC : kTh.C w1 A ts.length ts) (hS : Sp w1 w A c ts g5 g6 ga cap l) (hn : ts.length ≤ 1000000) :
    Calls Try.prog 94 #[.pointer (some ⟨g5, 0, none⟩), .pointer (some ⟨g6, 0, none⟩)] w fun e w' => e = .returned (.tuple #[]) ∧ Sp w1 w' A c ts g5 g6 ga cap (spread ts l) := by
  have HC := Aside0.mk hC
  have HS := Aside0.mk hS
  have c5 : w.cell? ⟨g5, 0, none⟩ = some (.slice A ts.length c) := (blk_cell hS.h5 0).trans rfl
  clear hC hS
  go_enter Try.func94, Try.ntmps94
  go_wp2
  go_loopw [6] (fun v6 wr => ∃ k : Nat, k ≤ ts.length ∧ v6 = .int .i64 k ∧ Aside0 (Sp w1 wr A c ts g5 g6 ga cap (spreadN ts l k))) (fun v6 _ => ts.length - (intOf v6).toNat)
  case atStart => exact ⟨0, Nat.zero_le _, rfl, HS⟩
  case round =>
    clear HS c5
    obtain ⟨k, hk, rfl, HS⟩ := hrel
    by_cases hlt : k < ts.length
    · obtain ⟨ad, rfl, hX, hc⟩ := at_th HC.out k hlt
      have HCC := Aside0.mk (cells_below hc HS.out.hb)
      have HX := Aside0.mk hX
      have HK := Aside0.mk (kindAt_lt hlt)
      have hlr := spreadN_len ts l k
      have hi0 : decide (0 ≤ (k : Int)) = true := decide_eq_true (by omega)
      have hi1 : decide ((k : Int) < (ts.length : Int)) = true := decide_eq_true (by omega)
      generalize ts[k] = X at *
      have HN : Aside0 (spreadN ts l (k + 1) = spread1 ts (spreadN ts l k) k) := ⟨rfl⟩
      obtain ⟨q, hq⟩ : ∃ q, spreadN ts l k = q := ⟨_, rfl⟩
      rw [hq] at HS HN hlr
      have hql : q.length = ts.length + 1 := HS.out.hl
      have hlk : k < q.length := by omega
      have hj1 : decide ((k : Int) < (q.length : Int)) = true := decide_eq_true (by omega)
      clear hc hX hq hlr
      go_upto_region 3 with (first
        | ((with_reducible refine gate_dst (N := 10) rfl ?_); refine th_loadAt rfl 9 rfl _ X HX.out rfl HCC.out ?_)
        | ((with_reducible refine gate_store 3 10 rfl ?_); refine th_new rfl 3 10 rfl _ X HX.out rfl rfl rfl ?_; intro wb hg hbx; have HG := Aside0.mk hg; have n0 := Aside0.mk (HS.out.below hbx); clear hg hbx HS; have HS := n0; clear n0))
      have c6 : wb.cell? ⟨g6, 0, none⟩ = some (.slice (some ⟨ga, 0, none⟩) q.length cap) := (blk_cell HS.out.h6 0).trans rfl
      have ck := (blk_cell HG.out 0).trans (arr0 X)
      obtain ⟨ca, fa⟩ := Kd.R_celln false HS.out.hR (k : Int) (by omega) (by omega)
      obtain ⟨ca1, fa1⟩ := Kd.R_celln false HS.out.hR ((k + 1 : Nat) : Int) (by omega) (by omega)
      rw [Int.toNat_natCast] at ca fa ca1 fa1
      have hrd : rdOf false q (k : Int) = q.getD k false := by simp [rdOf]
      rw [hrd] at ca
      obtain ⟨b, hb⟩ : ∃ b, q.getD k false = b := ⟨_, rfl⟩
      rw [hb] at ca
      have HBB := Aside0.mk hb
      clear hrd hb
      have hi2 : decide (0 ≤ (k : Int) + 1) = true := decide_eq_true (by omega)
      have hi3 : decide ((k : Int) + 1 < (q.length : Int)) = true := decide_eq_true (by omega)
      cases b with
      | false =>
        go_wp2
        go_roundw
        case measure => simp [intOf]; omega
        case rel => exact ⟨k + 1, by omega, by go_num, by rw [HN.out]; unfold spread1; rw [HBB.out]; exact HS⟩
      | true =>
        by_cases h2 : X.kind = 2
        · have e2 : (X.kind == 2) = true := beq_iff_eq.2 h2
          have HE := Aside0.mk h2
          clear h2
          go_wp2
          go_roundw
          case measure => simp [intOf]; omega
          case rel => exact ⟨k + 1, by omega, by go_num, by rw [HN.out]; unfold spread1; rw [HBB.out, HK.out, HE.out]; exact ⟨HS.out.set (k + 1) true⟩⟩
        · have e2 : (X.kind == 2) = false := beq_eq_false_iff_ne.2 h2
          have HE := Aside0.mk e2
          clear h2
          go_wp2
          go_roundw
          case measure => simp [intOf]; omega
          case rel => exact ⟨k + 1, by omega, by go_num, by rw [HN.out]; unfold spread1; rw [HBB.out, HK.out, HE.out]; exact HS⟩
    · have hge : decide ((k : Int) < (ts.length : Int)) = false := decide_eq_false (by omega)
      obtain rfl : k = ts.length := by omega
      go_wp2
      go_end0
      exact ⟨rfl, HS.out⟩
end Go.Proofs.Ytkepmbkghmkodaa.Pat
