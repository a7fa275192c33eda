/- deadfallref03.Weight, deadfallref05.Weight: each has an answer, from 0 to 100000. -/
import Derived.Test.YtkepmbkghmkodaaNodeOps
import Derived.Test.YtkepmbkghmkodaaQ3
namespace Go.Proofs.Ytkepmbkghmkodaa.Weights
open Go.RowKit Go.Proofs.YtkepmbkghmkodaaW.PrintWords Go.Proofs.Ytkepmbkghmkodaa.Q Go.Proofs.Ytkepmbkghmkodaa.NodeOps
set_option linter.unusedVariables false
set_option linter.unusedSimpArgs false
theorem wr (x : Int) (h0 : -9223372036854775808 ≤ x) (h1 : x ≤ 9223372036854775807) : wrap64 x = x := by unfold wrap64; omega
theorem via {α β : Type} {g h' : Nat → Option α} {h : Nat → Option β} {b : β} {r : α} (hb : Ev h b) (hk : Ev h' r) (e : ∀ k, h k = some b → g (k + 1) = h' k) : Ev g r := by
  obtain ⟨k0, h0⟩ := hb
  obtain ⟨k1, h1⟩ := hk
  refine ⟨max k0 k1 + 1, fun k hk => ?_⟩
  obtain ⟨j, rfl⟩ : ∃ j, k = j + 1 := ⟨k - 1, by omega⟩
  rw [e j (h0 j (by omega))]
  exact h1 j (by omega)
/-- An answer in bounds. -/
def Has (g : Nat → Option Int) : Prop := ∃ r, 0 ≤ r ∧ r ≤ 100000 ∧ Ev g r
theorem has_step {g f : Nat → Option Int} (h : Has f) (e : ∀ k, g (k + 1) = f k) : Has g := by
  obtain ⟨r, h0, h1, h2⟩ := h
  exact ⟨r, h0, h1, Ev.step e h2⟩
theorem has_via {β : Type} {g f : Nat → Option Int} {h : Nat → Option β} {b : β} (hb : Ev h b) (hf : Has f) (e : ∀ k, h k = some b → g (k + 1) = f k) : Has g := by
  obtain ⟨r, h0, h1, h2⟩ := hf
  exact ⟨r, h0, h1, via hb h2 e⟩
theorem has_now {g : Nat → Option Int} (r : Int) (h0 : 0 ≤ r) (h1 : r ≤ 100000) (e : ∀ k, g (k + 1) = some r) : Has g := has_step (f := fun _ => some r) ⟨r, h0, h1, Ev.now _⟩ e
theorem has_nowVia {β : Type} {g : Nat → Option Int} {h : Nat → Option β} {b : β} (hb : Ev h b) (r : Int) (h0 : 0 ≤ r) (h1 : r ≤ 100000) (e : ∀ k, h k = some b → g (k + 1) = some r) : Has g := has_via (f := fun _ => some r) hb ⟨r, h0, h1, Ev.now _⟩ e
theorem rd_mem {α : Type} (l : List α) (z : α) (i : Nat) (h : i < l.length) : l.getD (i : Int).toNat z ∈ l := by
  rw [Int.toNat_natCast, List.getD_eq_getElem?_getD, List.getElem?_eq_getElem h]
  exact List.getElem_mem h
theorem w03_loop (deep : Int) (l : List S154) (hl : l.length ≤ 10000) (hfit : ∀ y ∈ l, FitPart y) (hsub : ∀ y ∈ l, Has fun n => deadfallref03_Weight.f n y.f4 (wrap64 (deep + 1))) :
    ∀ (d i : Nat), l.length - i ≤ d → i ≤ l.length → ∀ n5 : Int, 0 ≤ n5 → n5 ≤ 10000 → Has fun n => deadfallref03_Weight.l0 n deep n5 l (l.length : Int) (i : Int) := by
  intro d
  induction d with
  | zero =>
    intro i hd hi n5 h0 h1
    refine has_now n5 h0 (by omega) fun k => ?_
    show deadfallref03_Weight.l0 (k + 1) deep n5 l (l.length : Int) (i : Int) = _
    rw [deadfallref03_Weight.l0, if_neg (by omega)]
  | succ d ih =>
    intro i hd hi n5 h0 h1
    by_cases hlt : i < l.length
    · have hm : rd_T154 l (i : Int) ∈ l := rd_mem l _ i hlt
      obtain ⟨t, t0, t1, ht⟩ := hsub _ hm
      obtain ⟨_, s2, s3, _, _⟩ := hfit _ hm
      unfold Lim at s2 s3
      have e : wrap64 (n5 + wrap64 (wrap64 (wrap64 (1 + ((rd_T154 l (i : Int)).f2.size : Int)) + ((rd_T154 l (i : Int)).f3.size : Int)) + t)) = n5 + (1 + ((rd_T154 l (i : Int)).f2.size : Int) + ((rd_T154 l (i : Int)).f3.size : Int) + t) := by
        rw [wr (1 + ((rd_T154 l (i : Int)).f2.size : Int)) (by omega) (by omega), wr (1 + ((rd_T154 l (i : Int)).f2.size : Int) + ((rd_T154 l (i : Int)).f3.size : Int)) (by omega) (by omega), wr (1 + ((rd_T154 l (i : Int)).f2.size : Int) + ((rd_T154 l (i : Int)).f3.size : Int) + t) (by omega) (by omega)]
        exact wr _ (by omega) (by omega)
      obtain ⟨n', hn'⟩ : ∃ n', n' = n5 + (1 + ((rd_T154 l (i : Int)).f2.size : Int) + ((rd_T154 l (i : Int)).f3.size : Int) + t) := ⟨_, rfl⟩
      rw [← hn'] at e
      by_cases hb : n' > 10000
      · refine has_nowVia ht 100000 (by omega) (by omega) fun k hk => ?_
        show deadfallref03_Weight.l0 (k + 1) deep n5 l (l.length : Int) (i : Int) = _
        rw [deadfallref03_Weight.l0, if_pos (by omega), if_pos (by omega), if_pos (by omega), hk, Option.bind_some, e, if_pos hb]
      · refine has_via ht (ih (i + 1) (by omega) (by omega) n' (by omega) (by omega)) fun k hk => ?_
        show deadfallref03_Weight.l0 (k + 1) deep n5 l (l.length : Int) (i : Int) = _
        rw [deadfallref03_Weight.l0, if_pos (by omega), if_pos (by omega), if_pos (by omega), hk, Option.bind_some, e, if_neg hb, wr ((i : Int) + 1) (by omega) (by omega)]
        rfl
    · refine has_now n5 h0 (by omega) fun k => ?_
      show deadfallref03_Weight.l0 (k + 1) deep n5 l (l.length : Int) (i : Int) = _
      rw [deadfallref03_Weight.l0, if_neg (by omega)]
theorem w03_any : ∀ (d : Nat), d ≤ 251 → ∀ l, FitWord l → Has fun n => deadfallref03_Weight.f n l (251 - (d : Int)) := by
  intro d
  induction d with
  | zero =>
    intro _ l _
    refine has_step (f := fun k => deadfallref03_Weight.j0 k l (251 - ((0 : Nat) : Int)) true) (has_now 100000 (by omega) (by omega) fun k => ?_) fun k => ?_
    · show deadfallref03_Weight.j0 (k + 1) l (251 - ((0 : Nat) : Int)) true = _
      rw [deadfallref03_Weight.j0, if_pos rfl]
    · show deadfallref03_Weight.f (k + 1) l (251 - ((0 : Nat) : Int)) = _
      rw [deadfallref03_Weight.f, if_pos (by omega)]
  | succ d ih =>
    intro hd l hl
    have hw : wrap64 (251 - ((d + 1 : Nat) : Int) + 1) = 251 - (d : Int) := by unfold wrap64; omega
    refine has_step (f := fun k => deadfallref03_Weight.j0 k l (251 - ((d + 1 : Nat) : Int)) (decide ((l.length : Int) > 10000))) ?_ (fun k => ?_)
    · by_cases hb : (l.length : Int) > 10000
      · refine has_now 100000 (by omega) (by omega) fun k => ?_
        show deadfallref03_Weight.j0 (k + 1) l (251 - ((d + 1 : Nat) : Int)) (decide ((l.length : Int) > 10000)) = _
        rw [deadfallref03_Weight.j0, if_pos (decide_eq_true hb)]
      · refine has_step (w03_loop (251 - ((d + 1 : Nat) : Int)) l (by omega) hl.2 (fun y hy => ?_) l.length 0 (by omega) (by omega) 0 (by omega) (by omega)) fun k => ?_
        · rw [hw]
          have hf := hl.2 y hy
          exact ih (by omega) y.f4 (by cases hf with | mk _ _ _ a b => exact ⟨a, b⟩)
        · show deadfallref03_Weight.j0 (k + 1) l (251 - ((d + 1 : Nat) : Int)) (decide ((l.length : Int) > 10000)) = _
          rw [deadfallref03_Weight.j0, if_neg (by simpa using hb)]
          rfl
    · show deadfallref03_Weight.f (k + 1) l (251 - ((d + 1 : Nat) : Int)) = _
      rw [deadfallref03_Weight.f, if_neg (by omega)]
theorem w03 (l : List S154) (h : FitWord l) : Has fun n => deadfallref03_Weight.f n l 0 := w03_any 251 (by omega) l h
/-- Within: the nodes of all bodies, behind the kids. -/
theorem within_loop (cs : List S116) (hl : cs.length ≤ 5000) : ∀ (d i : Nat), cs.length - i ≤ d → i ≤ cs.length → ∀ ns : List S52, ns.length + ((cs.drop i).map fun c => c.f1.length).sum ≤ 925904528652 →
    Ev (fun n => deadfallref05_Within.l0 n ns cs (cs.length : Int) (i : Int)) (ns ++ (cs.drop i).flatMap fun c => c.f1) := by
  intro d
  induction d with
  | zero =>
    intro i hd hi ns hn
    rw [List.drop_eq_nil_of_le (by omega), List.flatMap_nil, List.append_nil]
    refine Ev.step (f := fun _ => some ns) (fun k => ?_) (Ev.now _)
    show deadfallref05_Within.l0 (k + 1) ns cs (cs.length : Int) (i : Int) = _
    rw [deadfallref05_Within.l0, if_neg (by omega)]
  | succ d ih =>
    intro i hd hi ns hn
    by_cases hlt : i < cs.length
    · have hdr : cs.drop i = cs[i] :: cs.drop (i + 1) := List.drop_eq_getElem_cons hlt
      have hrd : rd_T116 cs (i : Int) = cs[i] := by
        simp [rd_T116, List.getD_eq_getElem?_getD, List.getElem?_eq_getElem hlt]
      rw [hdr, List.map_cons, List.sum_cons] at hn
      rw [hdr, List.flatMap_cons, ← List.append_assoc]
      refine Ev.step (fun k => ?_) (ih (i + 1) (by omega) (by omega) (ns ++ cs[i].f1) (by rw [List.length_append]; omega))
      show deadfallref05_Within.l0 (k + 1) ns cs (cs.length : Int) (i : Int) = _
      rw [deadfallref05_Within.l0, if_pos (by omega), if_pos (by omega), if_pos (by omega), hrd, if_pos (by omega), wr ((i : Int) + 1) (by omega) (by omega)]
      rfl
    · rw [List.drop_eq_nil_of_le (by omega), List.flatMap_nil, List.append_nil]
      refine Ev.step (f := fun _ => some ns) (fun k => ?_) (Ev.now _)
      show deadfallref05_Within.l0 (k + 1) ns cs (cs.length : Int) (i : Int) = _
      rw [deadfallref05_Within.l0, if_neg (by omega)]
end Go.Proofs.Ytkepmbkghmkodaa.Weights
