/- pattern.things: the walk. -/
import Derived.Test.YtkepmbkghmkodaaPatSet
import Derived.Outline
import Derived.Laws.CopyOwn
import Derived.Great.BuildSlice
namespace Go.Proofs.Ytkepmbkghmkodaa.Pat
open Go.RowKit Go.Proofs.YtkepmbkghmkodaaW.PrintWords Go.Proofs.YtkepmbkghmkodaaW.PrintLast Go.Proofs.Ytkepmbkghmkodaa.Base Go.Proofs.Ytkepmbkghmkodaa.P Go.Proofs.Ytkepmbkghmkodaa.Seq
set_option linter.unusedVariables false
set_option linter.unusedSimpArgs false
def kTh : Kd Th where
  sz := 258
  E := []
  K := fun _ x cs => cs = x.cells ∧ x.set.length = 256
  M := fun _ _ _ x cs => cs = x.cells ∧ x.set.length = 256
  K_len := fun h => by rw [h.1]; simp [Th.cells, h.2]
  K_one := fun h => by
    rw [h.1]
    intro u hu
    simp only [Th.cells, List.mem_cons, List.mem_map] at hu
    rcases hu with rfl | rfl | ⟨b, _, rfl⟩ <;> rfl
  K_below := fun _ h => h
  K_of_M := fun h => h
  M_mono := fun _ h => h
  M_bound := fun h => h
  M_move := fun _ h => h
  M_lower := fun _ h => h
theorem flat_th : Flat kTh := fun _ _ _ _ _ _ h => h
def zeroSet : List Bool := List.replicate 256 false
/-- What one place means, and how many bytes it has. -/
def nextT (l : List Ch) (x : Ch) : Th × Nat :=
  if isB x 63 then (⟨1, x.f0, zeroSet⟩, 1)
  else if isB x 42 then (⟨2, x.f0, zeroSet⟩, 1)
  else if isB x 91 then
    (match endF l (if isC l 1 33 = true then 2 else 1) (if isC l 1 33 = true then 2 else 1) with
    | some e => (TH 3 fun c => hasF l (if isC l 1 33 = true then 2 else 1) e (c : Int) != isC l 1 33, e + 1)
    | none => (⟨0, x.f0, zeroSet⟩, 1))
  else (⟨0, x.f0, zeroSet⟩, 1)
theorem nextT_pos (l : List Ch) (x : Ch) : 1 ≤ (nextT l x).2 := by
  unfold nextT
  repeat' split
  all_goals simp
theorem nextT_le (l : List Ch) (x : Ch) (h : 0 < l.length) : (nextT l x).2 ≤ l.length := by
  unfold nextT
  split
  · exact h
  · split
    · exact h
    · split
      · split
        · rename_i e he
          exact (endF_lt _ _ _ (Nat.le_refl _) he).2.1
        · exact h
      · exact h
def thingsL (l : List Ch) : List Th :=
  match h : l with
  | [] => []
  | x :: r => (nextT l x).1 :: thingsL (l.drop (nextT l x).2)
  termination_by l.length
  decreasing_by
    subst h
    have := nextT_pos (x :: r) x
    simp only [List.length_drop, List.length_cons]
    omega
theorem thingsL_nil : thingsL [] = [] := by rw [thingsL]
theorem thingsL_cons (x : Ch) (r : List Ch) : thingsL (x :: r) = (nextT (x :: r) x).1 :: thingsL ((x :: r).drop (nextT (x :: r) x).2) := by rw [thingsL]
theorem nextT_len (l : List Ch) (x : Ch) : (nextT l x).1.set.length = 256 := by
  unfold nextT
  repeat' split
  all_goals first | (exact List.length_replicate) | (exact bl_len _)
def arrOf (k c : Int) : Th := ⟨k, c, zeroSet⟩
theorem put0 (k c k' : Int) : (arrOf k c).arr.setIfInBounds 0 (.int .i64 k') = (arrOf k' c).arr := by
  unfold Th.arr Th.cells arrOf
  simp only [List.setIfInBounds_toArray, List.set_cons_zero]
theorem add_zero0 {ad : Addr} : ad.add 0 = ad := rfl
def sliceLen : Value → Nat
  | .slice _ n _ => n
  | _ => 0
theorem zero_eq : Try.zeroCells134 = (arrOf 0 0).arr := by kernel_rfl
theorem build_arr (c : Int) : (Try.zeroCells134.setIfInBounds 0 (.int .i64 0)).setIfInBounds 1 (.int .u8 c) = (arrOf 0 c).arr := by
  rw [zero_eq]
  unfold Th.arr Th.cells arrOf
  simp only [List.setIfInBounds_toArray, List.set_cons_zero, List.set_cons_succ]
theorem size_any (x : Th) (h : x.set.length = 256) : x.arr.size = 258 := by simp [Th.arr, Th.cells, h]
theorem info_any (x : Th) (h : x.set.length = 256) : (Try.prog.info? 134).map (·.size) = some x.arr.size := by
  rw [size_any x h]; kernel_rfl
theorem one_any (x : Th) : x.arr.all (·.oneCell') = true := by
  rw [Array.all_eq_true_iff_forall_mem]
  intro v hv
  simp only [Th.arr, Th.cells, List.mem_toArray, List.mem_cons, List.mem_map] at hv
  rcases hv with rfl | rfl | ⟨b, _, rfl⟩ <;> rfl
theorem old_any (x : Th) (h : x.set.length = 256) : Try.zeroCells134.size = x.arr.size := by
  rw [size_any x h, zero_eq, size_any _ List.length_replicate]
theorem zs_len : zeroSet.length = 256 := List.length_replicate
section
variable {ops : Array Oper} {rest : List Oper} {o : Oper} {a : Act} {Q : Exit → Act → World → Prop}
theorem gate_store {W : World} (p y : Tmp) (ho : o.op = .store 134 (.tmp p) (.tmp y)) (h : wpList Try.prog ops Q (o :: rest) a W) : wpList Try.prog ops Q (o :: rest) a W := h
theorem th_new {W : World} (hgd : o.guard = none) (p y : Tmp) (ho : o.op = .store 134 (.tmp p) (.tmp y)) (cs : Array Value) (Y : Th) (hY : Y.set.length = 256) (hx : a.eval (.tmp p) = .pointer (some ⟨W.heap.size, 0, none⟩)) (hy : a.eval (.tmp y) = .agg cs) (e : cs = Y.arr)
    (h : ∀ w1, w1.heap[W.heap.size]? = some (.cells Y.arr 134 (0, 0)) → Below W.heap.size W w1 → wpList Try.prog ops Q rest (a.put o.dst undef) w1) : wpList Try.prog ops Q (o :: rest) a (W.alloc (.cells Try.zeroCells134 134)) := by
  subst e
  refine wpList_store_row hgd 134 (.tmp p) (.tmp y) ho W.heap.size Y.arr hx hy 134 Try.zeroCells134 (blk_new W _) (info_any Y hY) (old_any Y hY) (one_any Y) ?_
  exact h _ (setRow_heap _ _ _ _ _ _ (blk_new W _)) (below_setRow (below_alloc (Below.refl _ _) _) (Nat.le_refl _) _)
theorem th_put {W : World} (hgd : o.guard = none) (p y : Tmp) (ho : o.op = .store 134 (.tmp p) (.tmp y)) (g : Nat) (X Y : Th) (hX : X.set.length = 256) (hY : Y.set.length = 256) (hx : a.eval (.tmp p) = .pointer (some ⟨g, 0, none⟩)) (hy : a.eval (.tmp y) = .agg Y.arr)
    (hg : W.heap[g]? = some (.cells X.arr 134 (0, 0)))
    (h : ∀ w1, w1.heap[g]? = some (.cells Y.arr 134 (0, 0)) → (∀ B, B ≤ g → Below B W w1) → wpList Try.prog ops Q rest (a.put o.dst undef) w1) : wpList Try.prog ops Q (o :: rest) a W := by
  refine wpList_store_row hgd 134 (.tmp p) (.tmp y) ho g Y.arr hx hy 134 X.arr hg (info_any Y hY) (by rw [size_any X hX, size_any Y hY]) (one_any Y) ?_
  exact h _ (setRow_heap _ _ _ _ _ _ hg) (fun B hB => below_setRow (Below.refl _ _) hB _)
theorem th_load {W : World} (hgd : o.guard = none) (p : Tmp) (ho : o.op = .load 134 (.tmp p)) (g : Nat) (X : Th) (hX : X.set.length = 256) (hx : a.eval (.tmp p) = .pointer (some ⟨g, 0, none⟩)) (hg : W.heap[g]? = some (.cells X.arr 134 (0, 0)))
    (h : wpList Try.prog ops Q rest (a.put o.dst (.agg X.arr)) W) : wpList Try.prog ops Q (o :: rest) a W :=
  wpList_load_row hgd 134 (.tmp p) ho g hx 134 X.arr (0, 0) _ hg Try.underlying134 rfl (info_any X hX) h
theorem info_z : (Try.prog.info? 134).map (fun i => (i.zero, i.size, i.bytes)) = some (some (.agg (arrOf 0 0).arr), 258, 272) := by kernel_rfl
theorem th_lit {W : World} (hgd : o.guard = none) (x : Tmp) (ho : o.op = .buildSlice 130 1 #[(0, .tmp x)]) (X : Th) (hX : X.set.length = 256) (hx : a.eval (.tmp x) = .agg X.arr)
    (h : wpList Try.prog ops Q rest (a.put o.dst (.slice (some ⟨W.heap.size, 0, none⟩) 1 1)) (W.alloc (.cells X.cells.toArray 134))) : wpList Try.prog ops Q (o :: rest) a W := by
  obtain ⟨ie, hie, hz, hs, _⟩ := info_parts info_z
  refine wpList_buildSlice hgd 130 134 1 _ ho X.arr ie _ Try.underlying130 hie hz (by rw [hs]; decide) (by rw [hs]; decide) ?_ h
  have hfw := Go.Great.fill_whole (s := ie.size) (by rw [hs]; decide) [.agg X.arr] ((Array.range (1 * ie.size)).map ((Value.agg (arrOf 0 0).arr).cells[· % (Value.agg (arrOf 0 0).arr).cells.size]!)) (fun v hv => by rw [List.mem_singleton.1 hv, hs]; exact size_any X hX) (by simp)
  have e1 : (#[((0 : Nat), Operand.tmp x)].map fun (p : Nat × Operand) => (p.1, a.eval p.2)).toList = [(0, Value.agg X.arr)] := by simp [hx]
  rw [show (([Value.agg X.arr].zipIdx 0).map fun x => (x.2, x.1)) = [(0, Value.agg X.arr)] from rfl] at hfw
  refine (congrArg (Instr.fill _ _) e1).trans (hfw.trans ?_)
  simp [Value.cells]
end
def ThPost (l : List S26) (L : List Ch) (w : World) (e : Ending) (w' : World) : Prop := ∃ v, e = .returned v ∧ kTh.R 134 w' w.heap.size ok0 v (thingsL L) ∧ Below w.heap.size w w'
set_option maxHeartbeats 4000000 in
set_option maxRecDepth 100000 in
theorem things_body (A : Option Addr) (c : Nat) (l : List S26) (L : List Ch) (k : Nat) (hL : pattern_chars.f k l = some L) (w : World) (hr : Kd.C k26 w A l.length l) (hc : l.length ≤ c) (hl : L.length ≤ 1000000) (hb : ∀ x ∈ L, 0 ≤ x.f0 ∧ x.f0 ≤ 255) :
    Calls Try.prog 93 #[.slice A l.length c] w (ThPost l L w) := by
  have HBY := Aside0.mk hb
  have HR := Aside0.mk hr
  have HC := Aside0.mk hc
  have HL := Aside0.mk hL
  clear hb hr hc hL
  go_enter Try.func93, Try.ntmps93
  go_wp2_with (first
    | (go_at_call 116; (with_reducible refine (pattern_chars.calls k A c l L _ HR.out HC.out HL.out).mono ?_); rintro e w1 ⟨v, rfl, hR, hB⟩; obtain ⟨A1, c1, rfl, hlc, hC⟩ := Kd.R_reads hR; have HCH := Aside0.mk hC; have HB := Aside0.mk hB; clear hB hR hC HR HL HC))
  go_loopw [3, 4] (fun v3 v4 wr => ∃ (j : Nat) (A2 : Option Addr) (c2 : Nat) (ts : List Th), j ≤ L.length ∧ v3 = .slice A2 (L.drop j).length c2 ∧ Aside0 ((L.drop j).length ≤ c2) ∧ Aside0 (Kd.C k161 w1 A2 (L.drop j).length (L.drop j)) ∧ Aside0 (thingsL L = ts ++ thingsL (L.drop j)) ∧ Aside0 (ts.length ≤ j) ∧ Aside0 (kTh.R 134 wr w1.heap.size ok0 v4 ts) ∧ Aside0 (Below w1.heap.size w1 wr)) (fun v3 _ _ => sliceLen v3)
  case atStart => exact ⟨0, A1, c1, [], Nat.zero_le _, rfl, ⟨hlc⟩, HCH, ⟨rfl⟩, ⟨Nat.le_refl _⟩, ⟨Kd.R_nil _ _ _ _ _⟩, ⟨Below.refl _ _⟩⟩
  case round =>
    have HBW := HB
    clear HCH HB hlc
    obtain ⟨j, A2, c2, ts, hj, rfl, HLC, HCH, HTS, HTL, HR, HB⟩ := hrel
    obtain ⟨M, hM⟩ : ∃ M, L.drop j = M := ⟨_, rfl⟩
    have hml : j + M.length = L.length := by rw [← hM, List.length_drop]; omega
    rw [hM] at HLC HCH HTS
    rw [hM]
    have HM := Aside0.mk hM
    have hbm : ∀ x ∈ M, 0 ≤ x.f0 ∧ x.f0 ≤ 255 := fun x hx => HBY.out x (List.mem_of_mem_drop (by rw [hM]; exact hx))
    have HBM := Aside0.mk hbm
    clear hM hbm
    rcases M with _ | ⟨x, r⟩
    · have hz : decide ((0 : Int) < (([] : List Ch).length : Int)) = false := rfl
      go_wp2
      go_ret
      exact (show ThPost l L w _ _ from ⟨_, rfl, by rw [HTS.out, thingsL_nil, List.append_nil]; exact Kd.R_lower HR.out HBW.out.size, below_trans HBW.out (below_sub HB.out HBW.out.size)⟩)
    · obtain ⟨ad, rfl, h0, hq⟩ := at_ch HCH.out 0 (by simp)
      rw [Nat.zero_mul, add_zero0] at h0 hq
      replace h0 := pw_cell_below HB.out h0
      replace hq := pw_cell_below HB.out hq
      have hx : 0 ≤ x.f0 ∧ x.f0 ≤ 255 := HBM.out x (by simp)
      have hi1 : decide ((0 : Int) < ((x :: r).length : Int)) = true := decide_eq_true (by simp)
      have hi2 : (0 : Int) < ((x :: r).length : Int) := by simp
      rw [show (x :: r)[0] = x from rfl] at h0 hq
      generalize hy : x :: r = M at *
      have HX := Aside0.mk hx
      clear hx
      go_upto_block 2 with (first
        | ((with_reducible refine gate_store 5 18 rfl ?_); refine th_new rfl 5 18 rfl _ (arrOf 0 x.f0) zs_len rfl rfl (build_arr _) ?_; intro wb hg hbx; have HG := Aside0.mk hg; have HBX := Aside0.mk hbx; clear hg hbx))
      replace h0 := pw_cell_below HBX.out h0
      replace hq := pw_cell_below HBX.out hq
      go_cut [6] (fun v6 wc => v6 = .int .i64 (((nextT M x).2 : Nat) : Int) ∧ Aside0 (wc.heap[wr.heap.size]? = some (.cells (nextT M x).1.arr 134 (0, 0))) ∧ Aside0 (Below wr.heap.size wr wc))
      case first =>
        obtain ⟨nx, hnx⟩ : ∃ nx, nextT M x = nx := ⟨_, rfl⟩
        have HNX := Aside0.mk hnx
        clear hnx
        obtain ⟨b63, hb63⟩ : ∃ b, isB x 63 = b := ⟨_, rfl⟩
        obtain ⟨b42, hb42⟩ : ∃ b, isB x 42 = b := ⟨_, rfl⟩
        obtain ⟨b91, hb91⟩ : ∃ b, isB x 91 = b := ⟨_, rfl⟩
        have H63 := Aside0.mk hb63
        have H42 := Aside0.mk hb42
        have H91 := Aside0.mk hb91
        clear hb63 hb42 hb91
        have f0 := blk_frozen HG.out 0
        have c0 := (blk_cell HG.out 0).trans (arr0 _)
        cases b63 with
        | true =>
          have hr : nx = (arrOf 1 x.f0, 1) := by rw [← HNX.out]; unfold nextT; rw [H63.out]; rfl
          subst hr
          go_wp2_with (first
            | (go_at_call 117; (with_reducible refine (is_any x _ _).mono ?_); rintro e w1 ⟨rfl, hB⟩; (first | rw [H63.out] | rw [H42.out] | rw [H91.out]); have n0 := Aside0.mk (blk_below HG.out hB); have n1 := Aside0.mk (below_trans HBX.out (below_sub hB HBX.out.size)); replace h0 := pw_cell_below hB h0; replace hq := pw_cell_below hB hq; clear hB HG HBX f0 c0; have HG := n0; have HBX := n1; clear n0 n1; have f0 := blk_frozen HG.out 0; have c0 := (blk_cell HG.out 0).trans (arr0 _)))
          go_meet
          case rel => exact ⟨by rw [HNX.out]; rfl, ⟨by rw [HNX.out]; exact blk_put HG.out 0 _ (put0 _ _ _)⟩, ⟨HBX.out.setCell (Nat.le_refl _) _⟩⟩
        | false =>
          cases b42 with
          | true =>
            have hr : nx = (arrOf 2 x.f0, 1) := by rw [← HNX.out]; unfold nextT; rw [H63.out, H42.out]; rfl
            subst hr
            go_wp2_with (first
              | (go_at_call 117; (with_reducible refine (is_any x _ _).mono ?_); rintro e w1 ⟨rfl, hB⟩; (first | rw [H63.out] | rw [H42.out] | rw [H91.out]); have n0 := Aside0.mk (blk_below HG.out hB); have n1 := Aside0.mk (below_trans HBX.out (below_sub hB HBX.out.size)); replace h0 := pw_cell_below hB h0; replace hq := pw_cell_below hB hq; clear hB HG HBX f0 c0; have HG := n0; have HBX := n1; clear n0 n1; have f0 := blk_frozen HG.out 0; have c0 := (blk_cell HG.out 0).trans (arr0 _)))
            go_meet
            case rel => exact ⟨by rw [HNX.out]; rfl, ⟨by rw [HNX.out]; exact blk_put HG.out 0 _ (put0 _ _ _)⟩, ⟨HBX.out.setCell (Nat.le_refl _) _⟩⟩
          | false =>
            cases b91 with
            | false =>
              have hr : nx = (arrOf 0 x.f0, 1) := by rw [← HNX.out]; unfold nextT; rw [H63.out, H42.out, H91.out]; rfl
              subst hr
              go_wp2_with (first
                | (go_at_call 117; (with_reducible refine (is_any x _ _).mono ?_); rintro e w1 ⟨rfl, hB⟩; (first | rw [H63.out] | rw [H42.out] | rw [H91.out]); have n0 := Aside0.mk (blk_below HG.out hB); have n1 := Aside0.mk (below_trans HBX.out (below_sub hB HBX.out.size)); replace h0 := pw_cell_below hB h0; replace hq := pw_cell_below hB hq; clear hB HG HBX f0 c0; have HG := n0; have HBX := n1; clear n0 n1; have f0 := blk_frozen HG.out 0; have c0 := (blk_cell HG.out 0).trans (arr0 _)))
              go_meet
              case rel => exact ⟨by rw [HNX.out]; rfl, ⟨by rw [HNX.out]; exact HG.out⟩, HBX⟩
            | true =>
              have hml0 : M.length ≤ 100000000 := by omega
              cases he : endF M (if isC M 1 33 = true then 2 else 1) (if isC M 1 33 = true then 2 else 1) with
              | none =>
                have hr : nx = (arrOf 0 x.f0, 1) := by rw [← HNX.out]; unfold nextT; rw [H63.out, H42.out, H91.out, he]; rfl
                subst hr
                have HE := Aside0.mk he
                clear he
                go_wp2_with (first
                  | (go_at_call 117; (with_reducible refine (is_any x _ _).mono ?_); rintro e w1 ⟨rfl, hB⟩; (first | rw [H63.out] | rw [H42.out] | rw [H91.out]); have n0 := Aside0.mk (blk_below HG.out hB); have n1 := Aside0.mk (below_trans HBX.out (below_sub hB HBX.out.size)); replace h0 := pw_cell_below hB h0; replace hq := pw_cell_below hB hq; clear hB HG HBX f0 c0; have HG := n0; have HBX := n1; clear n0 n1; have f0 := blk_frozen HG.out 0; have c0 := (blk_cell HG.out 0).trans (arr0 _))
                  | (go_at_call 118; (with_reducible refine (set_body _ c2 M _ (Kd.C_below HCH.out (below_trans HB.out (below_sub HBX.out HB.out.size))) hml0 HBM.out).mono ?_); intro e w2 hp; unfold SetPost setRes at hp; rw [HE.out] at hp; obtain ⟨y, m, rfl, ⟨⟨S, rfl⟩, rfl⟩, hB⟩ := hp; have n0 := Aside0.mk (blk_below HG.out hB); have n1 := Aside0.mk (below_trans HBX.out (below_sub hB HBX.out.size)); clear hB HG HBX f0 c0 h0 hq; have HG := n0; have HBX := n1; clear n0 n1)
                  | ((with_reducible refine gate_store 7 39 rfl ?_); refine th_new rfl 7 39 rfl _ (TH 3 S) (bl_len _) rfl rfl rfl ?_; intro w3 hg hB; have n0 := Aside0.mk (blk_below HG.out hB); have n1 := Aside0.mk (below_trans HBX.out (below_sub hB HBX.out.size)); clear hB HG HBX hg; have HG := n0; have HBX := n1; clear n0 n1))
                go_meet
                case rel => exact ⟨by rw [HNX.out]; rfl, ⟨by rw [HNX.out]; exact HG.out⟩, HBX⟩
              | some e =>
                obtain ⟨S, hS⟩ : ∃ S : Nat → Bool, (fun c : Nat => hasF M (if isC M 1 33 = true then 2 else 1) e (c : Int) != isC M 1 33) = S := ⟨_, rfl⟩
                have hr : nx = (TH 3 S, e + 1) := by rw [← HNX.out]; unfold nextT; rw [H63.out, H42.out, H91.out, he, ← hS]; rfl
                subst hr
                have HS := Aside0.mk hS
                clear hS
                have HE := Aside0.mk he
                have hd : decide ((0 : Int) < (e : Int) + 1) = true := decide_eq_true (by omega)
                have he1 : e ≤ 100000000 := by have := (endF_lt _ _ _ (Nat.le_refl _) he).2.1; omega
                clear he
                go_wp2_with (first
                  | (go_at_call 117; (with_reducible refine (is_any x _ _).mono ?_); rintro e w1 ⟨rfl, hB⟩; (first | rw [H63.out] | rw [H42.out] | rw [H91.out]); have n0 := Aside0.mk (blk_below HG.out hB); have n1 := Aside0.mk (below_trans HBX.out (below_sub hB HBX.out.size)); replace h0 := pw_cell_below hB h0; replace hq := pw_cell_below hB hq; clear hB HG HBX f0 c0; have HG := n0; have HBX := n1; clear n0 n1; have f0 := blk_frozen HG.out 0; have c0 := (blk_cell HG.out 0).trans (arr0 _))
                  | (go_at_call 118; (with_reducible refine (set_body _ c2 M _ (Kd.C_below HCH.out (below_trans HB.out (below_sub HBX.out HB.out.size))) hml0 HBM.out).mono ?_); intro e' w2 hp; unfold SetPost setRes at hp; rw [HE.out] at hp; dsimp only at hp; rw [HS.out] at hp; obtain ⟨y, m, rfl, ⟨rfl, rfl⟩, hB⟩ := hp; have n0 := Aside0.mk (blk_below HG.out hB); have n1 := Aside0.mk (below_trans HBX.out (below_sub hB HBX.out.size)); clear hB HG HBX f0 c0 h0 hq; have HG := n0; have HBX := n1; clear n0 n1)
                  | ((with_reducible refine gate_store 7 39 rfl ?_); refine th_new rfl 7 39 rfl _ (TH 3 S) (bl_len _) rfl rfl rfl ?_; intro w3 hg hB; have n0 := Aside0.mk (blk_below HG.out hB); have n1 := Aside0.mk (below_trans HBX.out (below_sub hB HBX.out.size)); have HG7 := Aside0.mk hg; clear hB HG HBX hg; have HG := n0; have HBX := n1; clear n0 n1)
                  | ((with_reducible refine gate_dst (N := 43) rfl ?_); refine th_load rfl 7 rfl _ (TH 3 S) (bl_len _) rfl HG7.out ?_)
                  | ((with_reducible refine gate_store 5 43 rfl ?_); refine th_put rfl 5 43 rfl wr.heap.size (arrOf 0 x.f0) (TH 3 S) zs_len (bl_len _) rfl rfl HG.out ?_; intro w4 hg hB; have n0 := Aside0.mk hg; have n1 := Aside0.mk (below_trans HBX.out (hB _ (Nat.le_refl _))); clear hB HG HBX hg HG7; have HG := n0; have HBX := n1; clear n0 n1))
                go_meet
                case rel => exact ⟨by rw [HNX.out]; go_num, ⟨by rw [HNX.out]; exact HG.out⟩, HBX⟩
      case rest =>
        clear HG HBX h0 hq
        obtain ⟨rfl, HG, HBX⟩ := hcut
        have hnl := nextT_len M x
        have hnp := nextT_pos M x
        have hnm := nextT_le M x (by omega)
        have HT : Aside0 (thingsL M = (nextT M x).1 :: thingsL (M.drop (nextT M x).2)) := ⟨by subst hy; exact thingsL_cons x r⟩
        obtain ⟨T, hT⟩ : ∃ T, (nextT M x).1 = T := ⟨_, rfl⟩
        obtain ⟨n, hn⟩ : ∃ n, (nextT M x).2 = n := ⟨_, rfl⟩
        rw [hT] at HG HT hnl
        rw [hn] at HT hnp hnm
        rw [hn]
        clear hT hn
        have HNL := Aside0.mk hnl
        clear hnl
        go_upto_region 14 with (first
          | ((with_reducible refine gate_dst (N := 46) rfl ?_); refine th_load rfl 5 rfl _ T HNL.out rfl HG.out ?_)
          | ((with_reducible refine gate_dst (N := 47) rfl ?_); refine th_lit rfl 46 rfl T HNL.out rfl ?_)
          | ((with_reducible refine gate_dst (N := 48) rfl ?_)
             refine Kd.R_append kTh w1.heap.size (w0 := w1) (W := wc) rfl (.tmp 45) (.tmp 47) 130 134 (.agg (arrOf 0 0).arr) 272 rfl Try.underlying130 info_z (size_any _ zs_len) (by decide) (by decide) u4 ts T T.cells ok0 (fun _ => False) rfl rfl ⟨rfl, HNL.out⟩ (fun _ h => h.elim) (fun _ _ => trivial) (Kd.R_below HR.out HBX.out) (below_trans HB.out (below_sub HBX.out HB.out.size)) (Nat.le_trans HB.out.size HBX.out.size) (by have := HTL.out; omega) ?_
             intro v1 w5 hR hB5 hG5 _
             have HR5 := Aside0.mk hR; have HB5 := Aside0.mk hB5
             clear hR hB5 hG5 HG))
        have hcut := cut_from 158 161 .i64 (P := Try.prog) Try.underlying158 (show Try.prog.info? 161 = some _ from rfl) 2 rfl (some ad) M.length c2 (n : Int) (by omega) (by omega)
        rw [Int.toNat_natCast] at hcut
        have hdr := Kd.C_drop (m := n) HCH.out hnm HLC.out
        obtain ⟨A3, hA3⟩ : ∃ A3, (if c2 = n then some ad else (some ad).map (·.add (n * 2))) = A3 := ⟨_, rfl⟩
        rw [hA3] at hcut
        rw [show (Kd.sz k161) = 2 from rfl, hA3] at hdr
        have HDR := Aside0.mk hdr
        have hn0 : (0 : Int) ≤ (n : Int) := by omega
        have hn1 : (n : Int) ≤ (M.length : Int) := by omega
        clear hdr hA3
        go_wp2
        go_roundw
        case measure => simp [sliceLen]; omega
        case rel =>
          have hjn : L.drop (j + n) = M.drop n := by rw [← HM.out, List.drop_drop]
          have hlm : (M.drop n).length = M.length - n := List.length_drop
          exact ⟨j + n, A3, c2 - n, ts ++ [T], by omega, by rw [hjn, hlm], ⟨by rw [hjn, hlm]; have := HLC.out; omega⟩, ⟨by rw [hjn]; exact HDR.out⟩, ⟨by rw [hjn, HTS.out, HT.out]; simp⟩, ⟨by have := HTL.out; simp; omega⟩, HR5, HB5⟩
end Go.Proofs.Ytkepmbkghmkodaa.Pat
