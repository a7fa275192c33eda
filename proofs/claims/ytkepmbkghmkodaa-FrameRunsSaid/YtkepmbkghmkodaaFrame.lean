/- frame: items, the stack, and the contracts of what looks at an item. -/
import Derived.Test.YtkepmbkghmkodaaBase
namespace Go.Proofs.Ytkepmbkghmkodaa.Frame
open Go.RowKit Go.Proofs.YtkepmbkghmkodaaW.PrintWords Go.Proofs.YtkepmbkghmkodaaW.PrintLast Go.Proofs.Ytkepmbkghmkodaa.Base
set_option linter.unusedVariables false
set_option linter.unusedSimpArgs false
/-- A slice's three words. -/
structure Sl where
  a : Option Addr
  n : Nat
  c : Nat
instance : Inhabited Sl := ⟨⟨none, 0, 0⟩⟩
/-- frame.Item, its node by its words. -/
structure It where
  kind : Int
  nk : Int
  nname : ByteArray
  ngiven : Bool
  s1 : Sl
  s2 : Sl
  s3 : Sl
  s4 : Sl
  s5 : Sl
  at_ : Int
  status : Int
  free : Bool
  s6 : Sl
  s7 : Sl
instance : Inhabited It := ⟨⟨0, 0, ⟨#[]⟩, false, default, default, default, default, default, 0, 0, false, default, default⟩⟩
def It.cells (x : It) : List Value := [.int .i64 x.kind, .int .i64 x.nk, .string x.nname, .bool x.ngiven, .slice x.s1.a x.s1.n x.s1.c, .slice x.s2.a x.s2.n x.s2.c, .slice x.s3.a x.s3.n x.s3.c, .slice x.s4.a x.s4.n x.s4.c, .slice x.s5.a x.s5.n x.s5.c, .int .i64 x.at_, .int .i64 x.status, .bool x.free, .slice x.s6.a x.s6.n x.s6.c, .slice x.s7.a x.s7.n x.s7.c]
def It.val (x : It) : Value := .agg x.cells.toArray
theorem It.cells_one (x : It) : ∀ u ∈ x.cells, u.oneCell' = true := by
  intro u hu
  simp only [It.cells, List.mem_cons, List.not_mem_nil, or_false] at hu
  rcases hu with rfl | rfl | rfl | rfl | rfl | rfl | rfl | rfl | rfl | rfl | rfl | rfl | rfl | rfl <;> rfl
def kIt : Kd It where
  sz := 14
  E := []
  K := fun _ x cs => cs = x.cells
  M := fun _ _ _ x cs => cs = x.cells
  K_len := fun h => by rw [h]; rfl
  K_one := fun h => by rw [h]; exact It.cells_one _
  K_below := fun _ h => h
  K_of_M := fun h => h
  M_mono := fun _ h => h
  M_bound := fun h => h
  M_move := fun _ h => h
  M_lower := fun _ h => h
theorem flat_it : Flat kIt := fun _ _ _ _ _ _ h => h
/-- What an item is. -/
def isLoop (k : Int) : Bool := k == 6 || k == 7 || k == 8
def isAct (k : Int) : Bool := k == 12 || k == 13
def isBack (k : Int) : Bool := k == 9
def isWall (k : Int) : Bool := k == 9 || isAct k
/-- The stack at block g. -/
def St (w : World) (base g : Nat) (l : List It) : Prop :=
  ∃ v, w.heap[g]? = some (.cells #[v] 56 (0, 0)) ∧ base ≤ g ∧ kIt.R 60 w base ok0 v l
theorem ret_b {a b : Bool} (h : a = b) : Ending.returned (.bool a) = .returned (.bool b) := by rw [h]
set_option maxHeartbeats 400000 in
theorem loop_any (x : It) (w : World) : Calls Try.prog 81 #[x.val] w fun e w' => e = .returned (.bool (isLoop x.kind)) ∧ Below w.heap.size w w' := by
  have HA := Aside0.mk (below_alloc (Below.refl w.heap.size w) (.cells x.cells.toArray 60))
  have hg := blk_new w (.cells x.cells.toArray 60)
  have c0 : (w.alloc (.cells x.cells.toArray 60)).cell? ⟨w.heap.size, 0, none⟩ = some (.int .i64 x.kind) := (blk_cell hg 0).trans rfl
  clear hg
  unfold isLoop
  unfold It.val
  unfold It.cells at *
  go_enter Try.func81, Try.ntmps81
  go_wp2
  all_goals
    go_ret
    exact ⟨ret_b (by simp [*]), below_alloc (Below.refl _ _) _⟩
set_option maxHeartbeats 400000 in
theorem act_any (x : It) (w : World) : Calls Try.prog 83 #[x.val] w fun e w' => e = .returned (.bool (isAct x.kind)) ∧ Below w.heap.size w w' := by
  have HA := Aside0.mk (below_alloc (Below.refl w.heap.size w) (.cells x.cells.toArray 60))
  have hg := blk_new w (.cells x.cells.toArray 60)
  have c0 : (w.alloc (.cells x.cells.toArray 60)).cell? ⟨w.heap.size, 0, none⟩ = some (.int .i64 x.kind) := (blk_cell hg 0).trans rfl
  clear hg
  unfold isAct
  unfold It.val
  unfold It.cells at *
  go_enter Try.func83, Try.ntmps83
  go_wp2
  all_goals
    go_ret
    exact ⟨ret_b (by simp [*]), below_alloc (Below.refl _ _) _⟩
set_option maxHeartbeats 400000 in
theorem back_any (x : It) (w : World) : Calls Try.prog 82 #[x.val] w fun e w' => e = .returned (.bool (isBack x.kind)) ∧ Below w.heap.size w w' := by
  have HA := Aside0.mk (below_alloc (Below.refl w.heap.size w) (.cells x.cells.toArray 60))
  have hg := blk_new w (.cells x.cells.toArray 60)
  have c0 : (w.alloc (.cells x.cells.toArray 60)).cell? ⟨w.heap.size, 0, none⟩ = some (.int .i64 x.kind) := (blk_cell hg 0).trans rfl
  clear hg
  unfold isBack
  unfold It.val
  unfold It.cells at *
  go_enter Try.func82, Try.ntmps82
  go_wp2
  all_goals
    go_ret
    exact ⟨ret_b (by simp [*]), below_alloc (Below.refl _ _) _⟩
/-- An item's cells at an address. -/
def Cells (w : World) (p : Addr) (x : It) : Prop := w.cell? p = some (.int .i64 x.kind) ∧ w.cell? ⟨p.block, p.off + 1, none⟩ = some (.int .i64 x.nk) ∧ w.cell? ⟨p.block, p.off + 2, none⟩ = some (.string x.nname) ∧ w.cell? ⟨p.block, p.off + 3, none⟩ = some (.bool x.ngiven) ∧ w.cell? ⟨p.block, p.off + 4, none⟩ = some (.slice x.s1.a x.s1.n x.s1.c) ∧ w.cell? ⟨p.block, p.off + 5, none⟩ = some (.slice x.s2.a x.s2.n x.s2.c) ∧ w.cell? ⟨p.block, p.off + 6, none⟩ = some (.slice x.s3.a x.s3.n x.s3.c) ∧ w.cell? ⟨p.block, p.off + 7, none⟩ = some (.slice x.s4.a x.s4.n x.s4.c) ∧ w.cell? ⟨p.block, p.off + 8, none⟩ = some (.slice x.s5.a x.s5.n x.s5.c) ∧ w.cell? ⟨p.block, p.off + 9, none⟩ = some (.int .i64 x.at_) ∧ w.cell? ⟨p.block, p.off + 10, none⟩ = some (.int .i64 x.status) ∧ w.cell? ⟨p.block, p.off + 11, none⟩ = some (.bool x.free) ∧ w.cell? ⟨p.block, p.off + 12, none⟩ = some (.slice x.s6.a x.s6.n x.s6.c) ∧ w.cell? ⟨p.block, p.off + 13, none⟩ = some (.slice x.s7.a x.s7.n x.s7.c)
theorem cells_box {w : World} {g t : Nat} {x : It} (hg : w.heap[g]? = some (.cells x.cells.toArray t (0, 0))) : Cells w ⟨g, 0, none⟩ x :=
  ⟨(blk_cell hg 0).trans rfl, (blk_cell hg 1).trans rfl, (blk_cell hg 2).trans rfl, (blk_cell hg 3).trans rfl, (blk_cell hg 4).trans rfl, (blk_cell hg 5).trans rfl, (blk_cell hg 6).trans rfl, (blk_cell hg 7).trans rfl, (blk_cell hg 8).trans rfl, (blk_cell hg 9).trans rfl, (blk_cell hg 10).trans rfl, (blk_cell hg 11).trans rfl, (blk_cell hg 12).trans rfl, (blk_cell hg 13).trans rfl⟩
set_option maxHeartbeats 400000 in
theorem wall_any (x : It) (w : World) : Calls Try.prog 111 #[x.val] w fun e w' => e = .returned (.bool (isWall x.kind)) ∧ Below w.heap.size w w' := by
  have HA := Aside0.mk (below_alloc (Below.refl w.heap.size w) (.cells x.cells.toArray 60))
  have hg := blk_new w (.cells x.cells.toArray 60)
  unfold isWall
  unfold It.val
  go_enter Try.func111, Try.ntmps111
  go_upto_region 1 with (fail)
  generalize w.alloc (.cells x.cells.toArray 60) = wb at *
  obtain ⟨c0, c1, c2, c3, c4, c5, c6, c7, c8, c9, c10, c11, c12, c13⟩ := cells_box hg
  clear hg
  cases hk : (x.kind == 9) with
  | true =>
    go_wp2
    go_ret
    exact ⟨ret_b (by first | rfl | (rw [hk]; rfl)), HA.out⟩
  | false =>
    go_wp2_with (go_at_call 83; refine (act_any x _).mono ?_; rintro e w1 ⟨rfl, hB⟩; have HB := Aside0.mk (below_trans HA.out (below_sub hB HA.out.size)); clear hB)
    go_ret
    exact ⟨ret_b (by rw [hk]; rfl), HB.out⟩
/-- The stack's search, from the upper end. -/
def findR (p : Int → Bool) : List It → Int → Int
  | [], _ => -1
  | x :: r, n => if p x.kind = true then (if n = 0 then (r.length : Int) else findR p r (n - 1)) else if isWall x.kind = true then -1 else findR p r n
theorem findR_skip {p : Int → Bool} {x : It} (r : List It) {n : Int} (h : p x.kind = true) (hn : ¬ n = 0) : findR p (x :: r) n = findR p r (n - 1) := by
  show (if p x.kind = true then _ else _) = _
  rw [if_pos h, if_neg hn]
theorem findR_wall {p : Int → Bool} {x : It} (r : List It) {n : Int} (h : p x.kind = false) (hw : isWall x.kind = true) : findR p (x :: r) n = -1 := by
  show (if p x.kind = true then _ else _) = _
  rw [if_neg (by rw [h]; decide), if_pos hw]
theorem findR_go {p : Int → Bool} {x : It} (r : List It) {n : Int} (h : p x.kind = false) (hw : isWall x.kind = false) : findR p (x :: r) n = findR p r n := by
  show (if p x.kind = true then _ else _) = _
  rw [if_neg (by rw [h]; decide), if_neg (by rw [hw]; decide)]
theorem take_rev {l : List It} {k : Nat} (h : k < l.length) : (l.take (k + 1)).reverse = l[k] :: (l.take k).reverse := by
  rw [List.take_succ_eq_append_getElem h, List.reverse_append]
  rfl
theorem at_it {w : World} {A : Option Addr} {n : Nat} {xs : List It} (h : Kd.C kIt w A n xs) (i : Nat) (hi : i < xs.length) : ∃ ad, A = some ad ∧ Cells w (ad.add (i * 14)) xs[i] := by
  obtain ⟨ad, c, e, _, hK, hc0⟩ := Kd.C_get h default (i : Int) (by omega) (by have := h.1; omega)
  rw [Int.toNat_natCast] at hK hc0
  have hc : ∀ j u, c[j]? = some u → w.cell? (ad.add (i * 14 + j)) = some u := hc0
  have hd : xs.getD i default = xs[i] := by simp [List.getD_eq_getElem?_getD, List.getElem?_eq_getElem hi]
  rw [hd] at hK
  obtain rfl : c = xs[i].cells := hK
  exact ⟨ad, e, hc 0 _ rfl, by rw [← add_field _ _ 1 (by omega)]; exact hc 1 _ rfl, by rw [← add_field _ _ 2 (by omega)]; exact hc 2 _ rfl, by rw [← add_field _ _ 3 (by omega)]; exact hc 3 _ rfl, by rw [← add_field _ _ 4 (by omega)]; exact hc 4 _ rfl, by rw [← add_field _ _ 5 (by omega)]; exact hc 5 _ rfl, by rw [← add_field _ _ 6 (by omega)]; exact hc 6 _ rfl, by rw [← add_field _ _ 7 (by omega)]; exact hc 7 _ rfl, by rw [← add_field _ _ 8 (by omega)]; exact hc 8 _ rfl, by rw [← add_field _ _ 9 (by omega)]; exact hc 9 _ rfl, by rw [← add_field _ _ 10 (by omega)]; exact hc 10 _ rfl, by rw [← add_field _ _ 11 (by omega)]; exact hc 11 _ rfl, by rw [← add_field _ _ 12 (by omega)]; exact hc 12 _ rfl, by rw [← add_field _ _ 13 (by omega)]; exact hc 13 _ rfl⟩
set_option maxHeartbeats 1000000 in
set_option maxRecDepth 100000 in
theorem find_loop (base g : Nat) (l : List It) (n : Int) (w : World) (h : St w base g l) (h0 : 0 ≤ n) (h1 : n ≤ 9223372036854775807) (hl : l.length ≤ 4294967296) :
    Calls Try.prog 80 #[.pointer (some ⟨g, 0, none⟩), .func (.func 81) #[] #[], .int .i64 n] w fun e w' => e = .returned (.int .i64 (findR isLoop l.reverse n)) ∧ Below w.heap.size w w' := by
  obtain ⟨v, hg, hb, hR⟩ := h
  obtain ⟨A, c, rfl, hlc, hC⟩ := Kd.R_reads hR
  have c0 : w.cell? ⟨g, 0, none⟩ = some (.slice A l.length c) := (blk_cell hg 0).trans rfl
  have HG := Aside0.mk hg
  have HC := Aside0.mk hC
  clear hg hC hR
  go_enter Try.func80, Try.ntmps80
  go_wp2
  go_loopw [7, 2] (fun v7 v2 w' => ∃ (k : Nat) (m : Int), k ≤ l.length ∧ v7 = .int .i64 ((k : Int) - 1) ∧ v2 = .int .i64 m ∧ 0 ≤ m ∧ m ≤ n ∧ Aside0 (findR isLoop l.reverse n = findR isLoop (l.take k).reverse m) ∧ Aside0 (Below w.heap.size w w')) (fun v7 _ _ => (intOf v7 + 1).toNat)
  case atStart => exact ⟨l.length, n, Nat.le_refl _, rfl, rfl, h0, Int.le_refl _, ⟨by rw [List.take_length]⟩, ⟨Below.refl _ _⟩⟩
  case round =>
    obtain ⟨k, m, hk, rfl, rfl, hm0, hm1, HF, HB⟩ := hrel
    have cs := pw_cell_below HB.out c0
    rcases k with _ | j
    · have ht : decide ((0 : Int) ≤ ((0 : Nat) : Int) - 1) = false := rfl
      go_wp2
      go_ret
      exact ⟨by rw [HF.out]; rfl, HB.out⟩
    · have ej : ((j + 1 : Nat) : Int) - 1 = (j : Int) := by omega
      rw [ej]
      have hlt : j < l.length := hk
      have hi0 : (0 : Int) ≤ (j : Int) := by omega
      have hi1 : (j : Int) < (l.length : Int) := by omega
      have htr := take_rev hlt
      obtain ⟨ad, rfl, k0, k1, k2, k3, k4, k5, k6, k7, k8, k9, k10, k11, k12, k13⟩ := at_it HC.out j hlt
      replace k0 := pw_cell_below HB.out k0
      replace k1 := pw_cell_below HB.out k1
      replace k2 := pw_cell_below HB.out k2
      replace k3 := pw_cell_below HB.out k3
      replace k4 := pw_cell_below HB.out k4
      replace k5 := pw_cell_below HB.out k5
      replace k6 := pw_cell_below HB.out k6
      replace k7 := pw_cell_below HB.out k7
      replace k8 := pw_cell_below HB.out k8
      replace k9 := pw_cell_below HB.out k9
      replace k10 := pw_cell_below HB.out k10
      replace k11 := pw_cell_below HB.out k11
      replace k12 := pw_cell_below HB.out k12
      replace k13 := pw_cell_below HB.out k13
      generalize l[j] = x at *
      rw [htr] at HF
      have HBX := cells_box (blk_new wr (.cells x.cells.toArray 60))
      have HBB := Aside0.mk (below_alloc HB.out (.cells x.cells.toArray 60))
      go_upto_region 5 with (fail)
      rw [show x.cells.toArray = #[.int .i64 x.kind, .int .i64 x.nk, .string x.nname, .bool x.ngiven, .slice x.s1.a x.s1.n x.s1.c, .slice x.s2.a x.s2.n x.s2.c, .slice x.s3.a x.s3.n x.s3.c, .slice x.s4.a x.s4.n x.s4.c, .slice x.s5.a x.s5.n x.s5.c, .int .i64 x.at_, .int .i64 x.status, .bool x.free, .slice x.s6.a x.s6.n x.s6.c, .slice x.s7.a x.s7.n x.s7.c] from rfl] at HBX HBB
      generalize wr.alloc (.cells #[.int .i64 x.kind, .int .i64 x.nk, .string x.nname, .bool x.ngiven, .slice x.s1.a x.s1.n x.s1.c, .slice x.s2.a x.s2.n x.s2.c, .slice x.s3.a x.s3.n x.s3.c, .slice x.s4.a x.s4.n x.s4.c, .slice x.s5.a x.s5.n x.s5.c, .int .i64 x.at_, .int .i64 x.status, .bool x.free, .slice x.s6.a x.s6.n x.s6.c, .slice x.s7.a x.s7.n x.s7.c] 60) = wb at *
      obtain ⟨c0', c1, c2, c3, c4, c5, c6, c7, c8, c9, c10, c11, c12, c13⟩ := HBX
      clear k0 k1 k2 k3 k4 k5 k6 k7 k8 k9 k10 k11 k12 k13 cs HB ej htr
      have hlen : ((l.take j).reverse).length = j := by rw [List.length_reverse, List.length_take]; omega
      have HLEN := Aside0.mk hlen
      clear hlen
      cases hL : isLoop x.kind with
      | true =>
        by_cases hm : m = 0
        · subst hm
          have e0 : ((0 : Int) == 0) = true := rfl
          go_wp2_with (go_at_call 81; refine (loop_any x _).mono ?_; rintro e w1 ⟨rfl, hB⟩; have n0 := Aside0.mk (below_trans HBB.out (below_sub hB HBB.out.size)); clear HBB; replace c0' := pw_cell_below hB c0'; replace c1 := pw_cell_below hB c1; replace c2 := pw_cell_below hB c2; replace c3 := pw_cell_below hB c3; replace c4 := pw_cell_below hB c4; replace c5 := pw_cell_below hB c5; replace c6 := pw_cell_below hB c6; replace c7 := pw_cell_below hB c7; replace c8 := pw_cell_below hB c8; replace c9 := pw_cell_below hB c9; replace c10 := pw_cell_below hB c10; replace c11 := pw_cell_below hB c11; replace c12 := pw_cell_below hB c12; replace c13 := pw_cell_below hB c13; have HBB := n0; clear hB n0; rw [hL])
          go_ret
          exact ⟨by rw [HF.out]; unfold findR; rw [if_pos hL, if_pos rfl, HLEN.out]; rfl, HBB.out⟩
        · have e0 : (m == 0) = false := beq_eq_false_iff_ne.2 hm
          go_wp2_with (go_at_call 81; refine (loop_any x _).mono ?_; rintro e w1 ⟨rfl, hB⟩; have n0 := Aside0.mk (below_trans HBB.out (below_sub hB HBB.out.size)); clear HBB; replace c0' := pw_cell_below hB c0'; replace c1 := pw_cell_below hB c1; replace c2 := pw_cell_below hB c2; replace c3 := pw_cell_below hB c3; replace c4 := pw_cell_below hB c4; replace c5 := pw_cell_below hB c5; replace c6 := pw_cell_below hB c6; replace c7 := pw_cell_below hB c7; replace c8 := pw_cell_below hB c8; replace c9 := pw_cell_below hB c9; replace c10 := pw_cell_below hB c10; replace c11 := pw_cell_below hB c11; replace c12 := pw_cell_below hB c12; replace c13 := pw_cell_below hB c13; have HBB := n0; clear hB n0; rw [hL])
          go_roundw
          case measure => simp [intOf]
          case rel => exact ⟨j, m - 1, by omega, by go_num, by go_num, by omega, by omega, ⟨HF.out.trans (findR_skip _ hL hm)⟩, ⟨HBB.out⟩⟩
      | false =>
        cases hW : isWall x.kind with
        | true =>
          go_wp2_with (first
            | (go_at_call 81; refine (loop_any x _).mono ?_; rintro e w1 ⟨rfl, hB⟩; have n0 := Aside0.mk (below_trans HBB.out (below_sub hB HBB.out.size)); clear HBB; replace c0' := pw_cell_below hB c0'; replace c1 := pw_cell_below hB c1; replace c2 := pw_cell_below hB c2; replace c3 := pw_cell_below hB c3; replace c4 := pw_cell_below hB c4; replace c5 := pw_cell_below hB c5; replace c6 := pw_cell_below hB c6; replace c7 := pw_cell_below hB c7; replace c8 := pw_cell_below hB c8; replace c9 := pw_cell_below hB c9; replace c10 := pw_cell_below hB c10; replace c11 := pw_cell_below hB c11; replace c12 := pw_cell_below hB c12; replace c13 := pw_cell_below hB c13; have HBB := n0; clear hB n0; rw [hL])
            | (go_at_call 111; refine (wall_any x _).mono ?_; rintro e w1 ⟨rfl, hB⟩; have n0 := Aside0.mk (below_trans HBB.out (below_sub hB HBB.out.size)); clear HBB; replace c0' := pw_cell_below hB c0'; replace c1 := pw_cell_below hB c1; replace c2 := pw_cell_below hB c2; replace c3 := pw_cell_below hB c3; replace c4 := pw_cell_below hB c4; replace c5 := pw_cell_below hB c5; replace c6 := pw_cell_below hB c6; replace c7 := pw_cell_below hB c7; replace c8 := pw_cell_below hB c8; replace c9 := pw_cell_below hB c9; replace c10 := pw_cell_below hB c10; replace c11 := pw_cell_below hB c11; replace c12 := pw_cell_below hB c12; replace c13 := pw_cell_below hB c13; have HBB := n0; clear hB n0; rw [hW]))
          all_goals
            go_ret
            exact ⟨by rw [HF.out, findR_wall _ hL hW]; rfl, HBB.out⟩
        | false =>
          go_wp2_with (first
            | (go_at_call 81; refine (loop_any x _).mono ?_; rintro e w1 ⟨rfl, hB⟩; have n0 := Aside0.mk (below_trans HBB.out (below_sub hB HBB.out.size)); clear HBB; replace c0' := pw_cell_below hB c0'; replace c1 := pw_cell_below hB c1; replace c2 := pw_cell_below hB c2; replace c3 := pw_cell_below hB c3; replace c4 := pw_cell_below hB c4; replace c5 := pw_cell_below hB c5; replace c6 := pw_cell_below hB c6; replace c7 := pw_cell_below hB c7; replace c8 := pw_cell_below hB c8; replace c9 := pw_cell_below hB c9; replace c10 := pw_cell_below hB c10; replace c11 := pw_cell_below hB c11; replace c12 := pw_cell_below hB c12; replace c13 := pw_cell_below hB c13; have HBB := n0; clear hB n0; rw [hL])
            | (go_at_call 111; refine (wall_any x _).mono ?_; rintro e w1 ⟨rfl, hB⟩; have n0 := Aside0.mk (below_trans HBB.out (below_sub hB HBB.out.size)); clear HBB; replace c0' := pw_cell_below hB c0'; replace c1 := pw_cell_below hB c1; replace c2 := pw_cell_below hB c2; replace c3 := pw_cell_below hB c3; replace c4 := pw_cell_below hB c4; replace c5 := pw_cell_below hB c5; replace c6 := pw_cell_below hB c6; replace c7 := pw_cell_below hB c7; replace c8 := pw_cell_below hB c8; replace c9 := pw_cell_below hB c9; replace c10 := pw_cell_below hB c10; replace c11 := pw_cell_below hB c11; replace c12 := pw_cell_below hB c12; replace c13 := pw_cell_below hB c13; have HBB := n0; clear hB n0; rw [hW]))
          go_roundw
          case measure => simp [intOf]
          case rel => exact ⟨j, m, by omega, by go_num, by go_num, by omega, by omega, ⟨HF.out.trans (findR_go _ hL hW)⟩, ⟨HBB.out⟩⟩
end Go.Proofs.Ytkepmbkghmkodaa.Frame
