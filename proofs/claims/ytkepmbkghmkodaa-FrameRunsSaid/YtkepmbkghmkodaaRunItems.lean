/- FrameRuns: items as values and as words; SameItem at one and the same item is 1. -/
import Derived.Test.YtkepmbkghmkodaaRunEv
import Derived.Test.YtkepmbkghmkodaaSameTree
namespace Go.Proofs.Ytkepmbkghmkodaa.Frame
open Go.RowKit Go.Proofs.YtkepmbkghmkodaaW.PrintWords Go.Proofs.YtkepmbkghmkodaaW.PrintLast Go.Proofs.Ytkepmbkghmkodaa.Base Go.Proofs.Ytkepmbkghmkodaa.Q Go.Proofs.Ytkepmbkghmkodaa.NodeOps Go.Proofs.Ytkepmbkghmkodaa.SameEq
set_option linter.unusedVariables false
set_option linter.unusedSimpArgs false
/-- An item's words are those of a value that a memory can hold. -/
structure Ok (w : World) (x : It) : Prop where
  ex : ∃ v : S74, k74.K w v x.cells ∧ FitItem v
theorem Ok.below {w w' : World} {x : It} (h : Ok w x) (hb : Below w.heap.size w w') : Ok w' x := by
  obtain ⟨v, hK, hF⟩ := h.ex
  exact ⟨v, Kd.K_below _ hb hK, hF⟩
def It.ncells (x : It) : List Value := [.int .i64 x.nk, .string x.nname, .bool x.ngiven, .slice x.s1.a x.s1.n x.s1.c, .slice x.s2.a x.s2.n x.s2.c, .slice x.s3.a x.s3.n x.s3.c, .slice x.s4.a x.s4.n x.s4.c, .slice x.s5.a x.s5.n x.s5.c]
theorem k_head {w : World} {v : S74} {x : It} (h : k74.K w v x.cells) : v.f0 = x.kind ∧ v.f3 = x.status := by
  obtain ⟨A4, c4, A5, c5, A6, c6, A7, c7, A8, c8, A12, c12, A13, c13, e, _⟩ := k74_open h
  simp only [It.cells, List.cons.injEq, Value.int.injEq, Value.string.injEq, Value.bool.injEq, Value.slice.injEq, true_and, and_true] at e
  obtain ⟨e0, e1, e2, e3, _, _, _, _, _, e9, e10, _⟩ := e
  exact ⟨e0.symm, e10.symm⟩
theorem ok_parts {w : World} {x : It} (h : Ok w x) : ∃ v : S74, FitItem v ∧ k52.K w v.f1 x.ncells ∧ x.s6.n ≤ x.s6.c ∧ Kd.string.C w x.s6.a x.s6.n v.f5 ∧ x.s7.n ≤ x.s7.c ∧ (Kd.int .i64).C w x.s7.a x.s7.n v.f6 := by
  obtain ⟨v, hK, hF⟩ := h.ex
  obtain ⟨A4, c4, A5, c5, A6, c6, A7, c7, A8, c8, A12, c12, A13, c13, e, l4, g4, l5, g5, l6, g6, l7, g7, l8, g8, l12, g12, l13, g13⟩ := k74_open hK
  simp only [It.cells, List.cons.injEq, Value.int.injEq, Value.string.injEq, Value.bool.injEq, Value.slice.injEq, true_and, and_true] at e
  obtain ⟨e0, e1, e2, e3, ⟨a4, n4, q4⟩, ⟨a5, n5, q5⟩, ⟨a6, n6, q6⟩, ⟨a7, n7, q7⟩, ⟨a8, n8, q8⟩, e9, e10, e11, ⟨a12, n12, q12⟩, ⟨a13, n13, q13⟩⟩ := e
  refine ⟨v, hF, ?_, ?_, ?_, ?_, ?_⟩
  · unfold It.ncells
    rw [e1, e2, e3, a4, n4, q4, a5, n5, q5, a6, n6, q6, a7, n7, q7, a8, n8, q8]
    exact k52_mk w v.f1 l4 g4 l5 g5 l6 g6 l7 g7 l8 g8
  · rw [n12, q12]; exact l12
  · rw [n12, a12]; exact g12
  · rw [n13, q13]; exact l13
  · rw [n13, a13]; exact g13
theorem C_nilz {α : Type} (d : Kd α) (w : World) : d.C w none 0 [] := ⟨rfl, by omega, fun h => absurd h (Nat.lt_irrefl 0)⟩
theorem fit_znode : FitNode z52 := .mk _ (show (0 : Nat) ≤ _ by omega) ⟨(show (0 : Nat) ≤ _ by omega), fun y h => by cases h⟩ ⟨(show (0 : Nat) ≤ _ by omega), fun y h => by cases h⟩ (show (0 : Nat) * 152 ≤ _ by omega) (fun y h => by cases h) (show (0 : Nat) ≤ _ by omega) (show (0 : Nat) ≤ _ by omega) (fun y h => by cases h) (fun y h => by cases h) (fun y h => by cases h)
theorem ok_mk {w : World} (k at_ st : Int) (free : Bool) (nd : S52) (x : It) (hn : k52.K w nd x.ncells) (hf : FitNode nd) (hx : x.cells = .int .i64 k :: (x.ncells ++ [.int .i64 at_, .int .i64 st, .bool free, .slice none 0 0, .slice none 0 0])) : Ok w x := by
  refine ⟨⟨k, nd, at_, st, free, [], []⟩, ?_, ⟨hf, by simp, by simp⟩⟩
  rw [hx]
  obtain ⟨A3, c3, A4, c4, A5, c5, A6, c6, A7, c7, e, l3, g3, l4, g4, l5, g5, l6, g6, l7, g7⟩ := k52_open hn
  rw [e]
  exact k74_mk w ⟨k, nd, at_, st, free, [], []⟩ l3 g3 l4 g4 l5 g5 l6 g6 l7 g7 (c12 := 0) (Nat.le_refl _) (C_nilz _ _) (c13 := 0) (Nat.le_refl _) (C_nilz _ _)
theorem ok_zero (w : World) : Ok w default := by
  refine ok_mk 0 0 0 false z52 default ?_ fit_znode rfl
  exact k52_mk w z52 (c3 := 0) (Nat.le_refl _) (C_nilz _ _) (c4 := 0) (Nat.le_refl _) (C_nilz _ _) (c5 := 0) (Nat.le_refl _) (C_nilz _ _) (c6 := 0) (Nat.le_refl _) (C_nilz _ _) (c7 := 0) (Nat.le_refl _) (C_nilz _ _)
theorem ok_again {w : World} {x : It} (h : Ok w x) : Ok w (again x) := by
  unfold again
  by_cases h8 : x.kind = 8
  · rw [if_pos h8]; exact h
  · rw [if_neg h8]
    obtain ⟨v, hF, hK, _⟩ := ok_parts h
    exact ok_mk 7 0 0 x.free v.f1 _ hK hF.node rfl
theorem build {α β : Type} : ∀ (vs : List α) (P : Nat → α → β → Prop), (∀ j p, vs[j]? = some p → ∃ x, P j p x) → ∃ xs : List β, xs.length = vs.length ∧ ∀ j p x, vs[j]? = some p → xs[j]? = some x → P j p x
  | [], P, h => ⟨[], rfl, fun j p x hj _ => by simp at hj⟩
  | v :: vs, P, h => by
    obtain ⟨x, hx⟩ := h 0 v rfl
    obtain ⟨xs, hl, hp⟩ := build vs (fun j => P (j + 1)) (fun j p hj => h (j + 1) p (by rw [List.getElem?_cons_succ]; exact hj))
    refine ⟨x :: xs, by simp [hl], fun j p y hj hy => ?_⟩
    cases j with
    | zero =>
      simp only [List.getElem?_cons_zero, Option.some.injEq] at hj hy
      subst hj; subst hy; exact hx
    | succ j =>
      rw [List.getElem?_cons_succ] at hj hy
      exact hp j p y hj hy
theorem words_of_row {w : World} {A : Option Addr} {n : Nat} {vs : List S74} (h : Kd.C k74 w A n vs) (hf : ∀ v ∈ vs, FitItem v) : ∃ xs, Kd.C kIt w A n xs ∧ ∀ x ∈ xs, Ok w x := by
  rcases Nat.eq_zero_or_pos n with hz | hpos
  · subst hz
    exact ⟨[], ⟨rfl, h.2.1, fun hp => absurd hp (Nat.lt_irrefl 0)⟩, fun x hx => by cases hx⟩
  · obtain ⟨ad, e, hc⟩ := h.2.2 hpos
    obtain ⟨xs, hl, hp⟩ := build vs (fun j p (x : It) => k74.K w p x.cells ∧ ∀ i u, x.cells[i]? = some u → w.cell? (ad.add (j * 14 + i)) = some u) (fun j p hj => by
      obtain ⟨c, h1, h2, h3⟩ := hc j p hj
      obtain ⟨A4, c4, A5, c5, A6, c6, A7, c7, A8, c8, A12, c12, A13, c13, ec, _⟩ := k74_open h2
      obtain ⟨x, hx⟩ : ∃ x : It, x = ⟨p.f0, p.f1.f0, p.f1.f1, p.f1.f2, ⟨A4, p.f1.f3.length, c4⟩, ⟨A5, p.f1.f4.length, c5⟩, ⟨A6, p.f1.f5.length, c6⟩, ⟨A7, p.f1.f6.length, c7⟩, ⟨A8, p.f1.f7.length, c8⟩, p.f2, p.f3, p.f4, ⟨A12, p.f5.length, c12⟩, ⟨A13, p.f6.length, c13⟩⟩ := ⟨_, rfl⟩
      have hex : x.cells = c := by rw [ec, hx]; rfl
      exact ⟨x, by rw [hex]; exact h2, by rw [hex]; exact h3⟩)
    refine ⟨xs, ⟨by rw [hl]; exact h.1, h.2.1, fun _ => ⟨ad, e, fun j x hx => ?_⟩⟩, fun x hx => ?_⟩
    · have hlt : j < vs.length := by have := (List.getElem?_eq_some_iff.1 hx).1; omega
      obtain ⟨h1, h2⟩ := hp j vs[j] x (List.getElem?_eq_getElem hlt) hx
      exact ⟨x.cells, rfl, rfl, h2⟩
    · obtain ⟨j, hj, rfl⟩ := List.getElem_of_mem hx
      have hlt : j < vs.length := by omega
      obtain ⟨h1, h2⟩ := hp j vs[j] xs[j] (List.getElem?_eq_getElem hlt) (List.getElem?_eq_getElem hj)
      exact ⟨vs[j], h1, hf _ (List.getElem_mem hlt)⟩
theorem row_of_words {w : World} {A : Option Addr} {n : Nat} {xs : List It} (h : Kd.C kIt w A n xs) (hok : ∀ x ∈ xs, Ok w x) : ∃ vs, Kd.C k74 w A n vs ∧ Likes vs xs ∧ ∀ v ∈ vs, FitItem v := by
  obtain ⟨vs, hl, hp⟩ := build xs (fun j x (v : S74) => k74.K w v x.cells ∧ FitItem v) (fun j x hj => (hok x (List.mem_of_getElem? hj)).ex)
  have hd : ∀ j (hj : j < xs.length), rd_T74 vs (j : Int) = vs[j]'(by omega) := fun j hj => rd_of vs _ j (by omega)
  have hq : ∀ j (hj : j < xs.length), k74.K w (vs[j]'(by omega)) xs[j].cells ∧ FitItem (vs[j]'(by omega)) := fun j hj => hp j xs[j] (vs[j]'(by omega)) (List.getElem?_eq_getElem hj) (List.getElem?_eq_getElem (by omega))
  refine ⟨vs, ⟨by rw [hl]; exact h.1, h.2.1, fun hpos => ?_⟩, ⟨hl, fun j hj => by rw [hd j hj]; exact (k_head (hq j hj).1).1, fun j hj => by rw [hd j hj]; exact (k_head (hq j hj).1).2⟩, fun v hv => ?_⟩
  · obtain ⟨ad, e, hc⟩ := h.2.2 hpos
    refine ⟨ad, e, fun j v hj => ?_⟩
    have hlt : j < xs.length := by have := (List.getElem?_eq_some_iff.1 hj).1; omega
    obtain ⟨c, h1, h2, h3⟩ := hc j xs[j] (List.getElem?_eq_getElem hlt)
    obtain rfl : c = xs[j].cells := h2
    exact ⟨xs[j].cells, rfl, (hp j xs[j] v (List.getElem?_eq_getElem hlt) hj).1, h3⟩
  · obtain ⟨j, hj, rfl⟩ := List.getElem_of_mem hv
    exact (hq j (by omega)).2
theorem sameTexts_eq (l : List ByteArray) (A : Option Addr) (n c : Nat) (w : World) (h : Kd.string.C w A n l) (hc : n ≤ c) (hl : l.length ≤ 9000000000000000000) :
    Calls Try.prog 16 #[.slice A n c, .slice A n c] w fun e w' => e = .returned (.bool true) ∧ Below w.heap.size w w' := by
  obtain rfl := h.1
  obtain ⟨k, hk⟩ := sameTexts_ev l hl
  exact (deadfallref09_SameTexts.calls k A c l A c l true w h hc h hc (hk k (Nat.le_refl _))).mono fun e w' q => ⟨q.1, q.2.below⟩
theorem sameInts_eq (l : List Int) (A B : Option Addr) (n c m d : Nat) (w : World) (h : (Kd.int .i64).C w A n l) (hc : n ≤ c) (h' : (Kd.int .i64).C w B m l) (hd : m ≤ d) (hl : l.length ≤ 9000000000000000000) :
    Calls Try.prog 87 #[.slice A n c, .slice B m d] w fun e w' => e = .returned (.bool true) ∧ Below w.heap.size w w' := by
  obtain rfl := h.1
  obtain rfl := h'.1
  obtain ⟨k, hk⟩ := sameInts_ev l hl
  exact (deadfallref12_SameInts.calls k A c l B d l true w h hc h' hd (hk k (Nat.le_refl _))).mono fun e w' q => ⟨q.1, q.2.below⟩
theorem same_node (x : It) (nd : S52) (w : World) (h : k52.K w nd x.ncells) : Calls Try.prog 86 #[.agg #[Value.int .i64 x.nk, .string x.nname, .bool x.ngiven, .slice x.s1.a x.s1.n x.s1.c, .slice x.s2.a x.s2.n x.s2.c, .slice x.s3.a x.s3.n x.s3.c, .slice x.s4.a x.s4.n x.s4.c, .slice x.s5.a x.s5.n x.s5.c], .agg #[Value.int .i64 x.nk, .string x.nname, .bool x.ngiven, .slice x.s1.a x.s1.n x.s1.c, .slice x.s2.a x.s2.n x.s2.c, .slice x.s3.a x.s3.n x.s3.c, .slice x.s4.a x.s4.n x.s4.c, .slice x.s5.a x.s5.n x.s5.c]] w fun e w' => e = .returned (.bool true) ∧ Below w.heap.size w w' := same05 _ nd (Nat.lt_succ_self _) x.ncells w h
set_option maxHeartbeats 8000000 in
set_option maxRecDepth 100000 in
theorem sameItem (x : It) (w : World) (h : Ok w x) : Calls Try.prog 37 #[.agg #[Value.int .i64 x.kind, .int .i64 x.nk, .string x.nname, .bool x.ngiven, .slice x.s1.a x.s1.n x.s1.c, .slice x.s2.a x.s2.n x.s2.c, .slice x.s3.a x.s3.n x.s3.c, .slice x.s4.a x.s4.n x.s4.c, .slice x.s5.a x.s5.n x.s5.c, .int .i64 x.at_, .int .i64 x.status, .bool x.free, .slice x.s6.a x.s6.n x.s6.c, .slice x.s7.a x.s7.n x.s7.c], .agg #[Value.int .i64 x.kind, .int .i64 x.nk, .string x.nname, .bool x.ngiven, .slice x.s1.a x.s1.n x.s1.c, .slice x.s2.a x.s2.n x.s2.c, .slice x.s3.a x.s3.n x.s3.c, .slice x.s4.a x.s4.n x.s4.c, .slice x.s5.a x.s5.n x.s5.c, .int .i64 x.at_, .int .i64 x.status, .bool x.free, .slice x.s6.a x.s6.n x.s6.c, .slice x.s7.a x.s7.n x.s7.c]] w fun e w' => e = .returned (.int .i64 1) ∧ Below w.heap.size w w' := by
  obtain ⟨v, hF, hK, l6, h6, l7, h7⟩ := ok_parts h
  have H1 := Aside0.mk (blk_below (blk_new w (.cells #[Value.int .i64 x.kind, .int .i64 x.nk, .string x.nname, .bool x.ngiven, .slice x.s1.a x.s1.n x.s1.c, .slice x.s2.a x.s2.n x.s2.c, .slice x.s3.a x.s3.n x.s3.c, .slice x.s4.a x.s4.n x.s4.c, .slice x.s5.a x.s5.n x.s5.c, .int .i64 x.at_, .int .i64 x.status, .bool x.free, .slice x.s6.a x.s6.n x.s6.c, .slice x.s7.a x.s7.n x.s7.c] 60)) (below_alloc (Below.refl _ _) (.cells #[Value.int .i64 x.kind, .int .i64 x.nk, .string x.nname, .bool x.ngiven, .slice x.s1.a x.s1.n x.s1.c, .slice x.s2.a x.s2.n x.s2.c, .slice x.s3.a x.s3.n x.s3.c, .slice x.s4.a x.s4.n x.s4.c, .slice x.s5.a x.s5.n x.s5.c, .int .i64 x.at_, .int .i64 x.status, .bool x.free, .slice x.s6.a x.s6.n x.s6.c, .slice x.s7.a x.s7.n x.s7.c] 74)))
  have hgg : (w.alloc (.cells #[Value.int .i64 x.kind, .int .i64 x.nk, .string x.nname, .bool x.ngiven, .slice x.s1.a x.s1.n x.s1.c, .slice x.s2.a x.s2.n x.s2.c, .slice x.s3.a x.s3.n x.s3.c, .slice x.s4.a x.s4.n x.s4.c, .slice x.s5.a x.s5.n x.s5.c, .int .i64 x.at_, .int .i64 x.status, .bool x.free, .slice x.s6.a x.s6.n x.s6.c, .slice x.s7.a x.s7.n x.s7.c] 60)).heap.size = w.heap.size + 1 := size_alloc _ _
  have H2 := Aside0.mk (blk_new (w.alloc (.cells #[Value.int .i64 x.kind, .int .i64 x.nk, .string x.nname, .bool x.ngiven, .slice x.s1.a x.s1.n x.s1.c, .slice x.s2.a x.s2.n x.s2.c, .slice x.s3.a x.s3.n x.s3.c, .slice x.s4.a x.s4.n x.s4.c, .slice x.s5.a x.s5.n x.s5.c, .int .i64 x.at_, .int .i64 x.status, .bool x.free, .slice x.s6.a x.s6.n x.s6.c, .slice x.s7.a x.s7.n x.s7.c] 60)) (.cells #[Value.int .i64 x.kind, .int .i64 x.nk, .string x.nname, .bool x.ngiven, .slice x.s1.a x.s1.n x.s1.c, .slice x.s2.a x.s2.n x.s2.c, .slice x.s3.a x.s3.n x.s3.c, .slice x.s4.a x.s4.n x.s4.c, .slice x.s5.a x.s5.n x.s5.c, .int .i64 x.at_, .int .i64 x.status, .bool x.free, .slice x.s6.a x.s6.n x.s6.c, .slice x.s7.a x.s7.n x.s7.c] 74))
  rw [hgg] at H2
  have HB := Aside0.mk (below_alloc (below_alloc (Below.refl w.heap.size w) (.cells #[Value.int .i64 x.kind, .int .i64 x.nk, .string x.nname, .bool x.ngiven, .slice x.s1.a x.s1.n x.s1.c, .slice x.s2.a x.s2.n x.s2.c, .slice x.s3.a x.s3.n x.s3.c, .slice x.s4.a x.s4.n x.s4.c, .slice x.s5.a x.s5.n x.s5.c, .int .i64 x.at_, .int .i64 x.status, .bool x.free, .slice x.s6.a x.s6.n x.s6.c, .slice x.s7.a x.s7.n x.s7.c] 60)) (.cells #[Value.int .i64 x.kind, .int .i64 x.nk, .string x.nname, .bool x.ngiven, .slice x.s1.a x.s1.n x.s1.c, .slice x.s2.a x.s2.n x.s2.c, .slice x.s3.a x.s3.n x.s3.c, .slice x.s4.a x.s4.n x.s4.c, .slice x.s5.a x.s5.n x.s5.c, .int .i64 x.at_, .int .i64 x.status, .bool x.free, .slice x.s6.a x.s6.n x.s6.c, .slice x.s7.a x.s7.n x.s7.c] 74))
  have HK := Aside0.mk (Kd.K_below _ HB.out hK)
  have K6 := Aside0.mk (Kd.C_below h6 HB.out)
  have K7 := Aside0.mk (Kd.C_below h7 HB.out)
  have L6 := Aside0.mk l6
  have L7 := Aside0.mk l7
  have HF := Aside0.mk hF
  clear h hK h6 h7 l6 l7 hF hgg
  go_enter Try.func37, Try.ntmps37
  go_upto_region 1 with (fail)
  generalize (w.alloc (.cells #[Value.int .i64 x.kind, .int .i64 x.nk, .string x.nname, .bool x.ngiven, .slice x.s1.a x.s1.n x.s1.c, .slice x.s2.a x.s2.n x.s2.c, .slice x.s3.a x.s3.n x.s3.c, .slice x.s4.a x.s4.n x.s4.c, .slice x.s5.a x.s5.n x.s5.c, .int .i64 x.at_, .int .i64 x.status, .bool x.free, .slice x.s6.a x.s6.n x.s6.c, .slice x.s7.a x.s7.n x.s7.c] 60)).alloc (.cells #[Value.int .i64 x.kind, .int .i64 x.nk, .string x.nname, .bool x.ngiven, .slice x.s1.a x.s1.n x.s1.c, .slice x.s2.a x.s2.n x.s2.c, .slice x.s3.a x.s3.n x.s3.c, .slice x.s4.a x.s4.n x.s4.c, .slice x.s5.a x.s5.n x.s5.c, .int .i64 x.at_, .int .i64 x.status, .bool x.free, .slice x.s6.a x.s6.n x.s6.c, .slice x.s7.a x.s7.n x.s7.c] 74) = w2 at *
  generalize w.heap.size + 1 = g2 at *
  obtain ⟨k0, k1, k2, k3, k4, k5, k6, k7, k8, k9, k10, k11, k12, k13⟩ := cells_box H1.out
  obtain ⟨q0, q1, q2, q3, q4, q5, q6, q7, q8, q9, q10, q11, q12, q13⟩ := cells_box H2.out
  clear k12 k13 q12 q13
  go_wp2_with (first
    | (go_at_call 86; (with_reducible refine (same_node x v.f1 _ HK.out).mono ?_); rintro r w7 ⟨rfl, hB⟩; have n1 := Aside0.mk (blk_below H1.out hB); have n2 := Aside0.mk (blk_below H2.out hB); have k12 : w7.cell? ⟨w.heap.size, 12, none⟩ = some (.slice x.s6.a x.s6.n x.s6.c) := (blk_cell n1.out 12).trans rfl; have q12 : w7.cell? ⟨g2, 12, none⟩ = some (.slice x.s6.a x.s6.n x.s6.c) := (blk_cell n2.out 12).trans rfl; have n3 := Aside0.mk (HB.out.trans (below_sub hB HB.out.size)); have J6 := Aside0.mk (Kd.C_below K6.out hB); have J7 := Aside0.mk (Kd.C_below K7.out hB); clear k0 k1 k2 k3 k4 k5 k6 k7 k8 k9 k10 k11 q0 q1 q2 q3 q4 q5 q6 q7 q8 q9 q10 q11 hB HB K6 K7 H1 H2 HK)
    | (go_at_call 16; (with_reducible refine (sameTexts_eq v.f5 _ _ _ _ J6.out L6.out HF.out.words).mono ?_); rintro r w8 ⟨rfl, hB⟩; have k13 : w8.cell? ⟨w.heap.size, 13, none⟩ = some (.slice x.s7.a x.s7.n x.s7.c) := (blk_cell (blk_below n1.out hB) 13).trans rfl; have q13 : w8.cell? ⟨g2, 13, none⟩ = some (.slice x.s7.a x.s7.n x.s7.c) := (blk_cell (blk_below n2.out hB) 13).trans rfl; have HBY := Aside0.mk (n3.out.trans (below_sub hB n3.out.size)); have I7 := Aside0.mk (Kd.C_below J7.out hB); clear k12 q12 hB n3 J6 J7 n1 n2)
    | (go_at_call 87; (with_reducible refine (sameInts_eq v.f6 _ _ _ _ _ _ _ I7.out L7.out I7.out L7.out HF.out.pids).mono ?_); rintro r w9 ⟨rfl, hB⟩; have HBZ := Aside0.mk (HBY.out.trans (below_sub hB HBY.out.size)); clear k13 q13 hB HBY I7))
  go_ret
  exact ⟨rfl, HBZ.out⟩
end Go.Proofs.Ytkepmbkghmkodaa.Frame
