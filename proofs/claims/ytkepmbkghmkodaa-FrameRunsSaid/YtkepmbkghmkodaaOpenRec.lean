/- What comes in, read kind by kind: kinds that hold themselves. -/
import Derived.Test.YtkepmbkghmkodaaOpen
namespace Go.Proofs.Ytkepmbkghmkodaa.Open
open Go.RowKit Go.ChangeShapes Go.WideShapes Go.Deep Go.Proofs.YtkepmbkghmkodaaW.PrintWords
set_option linter.unusedVariables false
/-- .. with so much fuel at most. -/
def OpU (N : Nat) {α : Type} (P : Program) (w : World) (d : Kd α) (t : TypeId) (V : α → Prop) : Prop :=
  ∀ (H : Type) (enc : TypeId × Value → H) (base : Nat) (spare : Nat → Bool) (held : Bool) (fuel : Nat) (cs : List Value) (x : DataW H × List MemPlace), fuel ≤ N → DataW.trod enc P w base spare held fuel t cs = some x → (∀ n ∈ x.1.weights P t, n ≤ reachBytes) → ∃ v, d.K w v cs ∧ V v
section
variable {P : Program} {w : World}
theorem opu_of {α : Type} {d : Kd α} {t : TypeId} {V : α → Prop} (N : Nat) (h : Op P w d t V) : OpU N P w d t V := fun H enc base spare held fuel cs x _ hx hz => h H enc base spare held fuel cs x hx hz
theorem op_ofu {α : Type} {d : Kd α} {t : TypeId} {V : α → Prop} (h : ∀ N, OpU N P w d t V) : Op P w d t V := fun H enc base spare held fuel cs x hx hz => h fuel H enc base spare held fuel cs x (Nat.le_refl _) hx hz
theorem opu_mono {α : Type} {d : Kd α} {t : TypeId} {V V' : α → Prop} {N N' : Nat} (h : OpU N P w d t V) (hN : N' ≤ N) (hV : ∀ x, V x → V' x) : OpU N' P w d t V' := fun H enc base spare held fuel cs x hf hx hz =>
  let ⟨v, hv, hh⟩ := h H enc base spare held fuel cs x (Nat.le_trans hf hN) hx hz; ⟨v, hv, hV v hh⟩
theorem open_sliceN {H : Type} {enc : TypeId × Value → H} {base : Nat} {spare : Nat → Bool} {held : Bool} {t e : TypeId} {fuel : Nat} {cs : List Value} {x : DataW H × List MemPlace} (ht : P.underlying t = some (.slice e)) (h : DataW.trod enc P w base spare held fuel t cs = some x) :
    (cs = [.slice none 0 0] ∧ x = (.nil, [])) ∨
    ∃ (a : Addr) (len cap m n : Nat) (D : Nat → DataW H) (rest : List (DataW H)) (pl : List MemPlace), fuel = n + 1 ∧ cs = [.slice (some a) len cap] ∧ len ≤ cap ∧ cap ≤ maxLen ∧
      x = (.slice ((List.range len).map D) rest, pl) ∧
      ∀ i, i < len → ∃ cs' p, w.cells? base (a.add (i * P.cellsOf e)) (P.cellsOf e) = some cs' ∧ DataW.trod enc P w base spare held n e cs' = some (D i, p) := by
  rcases DataW.trod_slice ht h with h0 | ⟨a, len, cap, elems, rest, n, hn, rfl, rfl, hb, hl, hm, hlen, hel, hsp, hns⟩
  · exact Or.inl h0
  right
  refine ⟨a, len, cap, 0, n, fun i => (elems.getD i (.nil, [])).1, rest.map (·.1), MemPlace.row a ((elems.length + rest.length) * P.cellsOf e) ++ (elems ++ rest).flatMap (·.2), hn, rfl, hl, hm, ?_, fun i hi => ?_⟩
  · refine Prod.ext ?_ rfl
    show DataW.slice (elems.map (·.1)) _ = _
    congr 1
    refine List.ext_getElem (by simp [hlen]) fun i h1 h2 => ?_
    have hi : i < elems.length := by simpa using h1
    simp [List.getD_eq_getElem?_getD, List.getElem?_eq_getElem hi]
  · have key := hel i hi
    have hie : i < elems.length := by omega
    rw [List.getElem?_eq_getElem hie] at key
    obtain ⟨cs', h1, h2⟩ := Option.bind_eq_some_iff.1 key
    exact ⟨cs', elems[i].2, h1, by rw [h2]; simp [List.getD_eq_getElem?_getD, List.getElem?_eq_getElem hie]⟩
theorem opu_slice {N : Nat} {α : Type} {d : Kd α} {t e : TypeId} {V : α → Prop} (ht : P.underlying t = some (.slice e)) (hsz : P.cellsOf e = d.sz) (h : OpU N P w d e V) : OpU (N + 1) P w (Kd.slice e d) t (fun l => l.length * P.bytesOf e ≤ reachBytes ∧ ∀ x ∈ l, V x) := by
  intro H enc base spare held fuel cs x hN hx hz
  rcases open_sliceN ht hx with ⟨rfl, _⟩ | ⟨a, len, cap, _, n, D, rest, pl, hn, rfl, hl, hm, rfl, hi⟩
  · exact ⟨[], ⟨none, 0, rfl, Nat.le_refl _, Kd.C_nil _ _⟩, by simp, by simp⟩
  · simp only [DataW.weights, ht] at hz
    have hz1 := hz _ (List.mem_cons_self)
    have hz2 : ∀ i, i < len → ∀ n ∈ (D i).weights P e, n ≤ reachBytes := fun i hi n hn => hz n (List.mem_cons_of_mem _ (List.mem_append_left _ (weightsAll_mem (List.mem_map.2 ⟨i, List.mem_range.2 hi, rfl⟩) n hn)))
    simp only [List.length_map, List.length_range] at hz1
    have key : ∀ k, k ≤ len → ∃ l : List α, l.length = k ∧ ∀ i p, l[i]? = some p → V p ∧ ∃ c : List Value, c.length = d.sz ∧ d.K w p c ∧ ∀ j u, c[j]? = some u → w.cell? (a.add (i * d.sz + j)) = some u := by
      intro k
      induction k with
      | zero => exact fun _ => ⟨[], rfl, by simp⟩
      | succ k ih =>
        intro hk
        obtain ⟨l, hlen, hh⟩ := ih (by omega)
        obtain ⟨cs', p, hc, ht'⟩ := hi k (by omega)
        obtain ⟨v, hK, hV⟩ := h H enc base spare held n cs' _ (by omega) ht' (hz2 k (by omega))
        obtain ⟨_, hcl, hat⟩ := World.cells?_some hc
        refine ⟨l ++ [v], by simp [hlen], fun i p hp => ?_⟩
        rcases Nat.lt_or_ge i l.length with hil | hil
        · rw [List.getElem?_append_left hil] at hp
          exact hh i p hp
        · obtain rfl : i = l.length := by
            have := (List.getElem?_eq_some_iff.1 hp).1
            rw [List.length_append, List.length_singleton] at this
            omega
          have hp' : v = p := by simpa using hp
          subst hp'
          refine ⟨hV, cs', d.K_len hK, hK, fun j u hu => ?_⟩
          have hj : j < cs'.length := (List.getElem?_eq_some_iff.1 hu).1
          have := hat j (by omega)
          rw [← Go.Deep.add_add, hlen, ← hsz, this, hu]
    obtain ⟨l, hll, hh⟩ := key len (Nat.le_refl _)
    have hml : len ≤ maxLen := Nat.le_trans hl hm
    refine ⟨l, ⟨some a, cap, by rw [hll], by omega, rfl, by unfold maxLen at hml; omega, fun _ => ⟨a, rfl, fun j p hp => ?_⟩⟩, ?_, fun p hp => ?_⟩
    · obtain ⟨_, c, h1, h2, h3⟩ := hh j p hp
      exact ⟨c, h1, h2, h3⟩
    · rw [hll]
      exact Nat.le_trans (Nat.mul_le_mul_right _ (by omega)) hz1
    · obtain ⟨i, hi', rfl⟩ := List.getElem_of_mem hp
      exact (hh i _ (List.getElem?_eq_getElem hi')).1
/-- The fields from one on. -/
def OpFU (N : Nat) {α : Type} (P : Program) (w : World) (d : Kd α) (fs : List Field) (o : Nat) (V : α → Prop) : Prop :=
  ∀ (H : Type) (enc : TypeId × Value → H) (base : Nat) (spare : Nat → Bool) (held : Bool) (n : Nat) (cs : List Value), n ≤ N → cs.length = o + d.sz →
    (∀ f, f ∈ fs → ∃ y, DataW.trod enc P w base spare held n f.type ((cs.drop f.offset).take (P.cellsOf f.type)) = some y ∧ ∀ n ∈ y.1.weights P f.type, n ≤ reachBytes) → ∃ v, d.K w v (cs.drop o) ∧ V v
theorem opfu_one {N : Nat} {α : Type} {d : Kd α} {f : Field} {o : Nat} {V : α → Prop} (hfo : f.offset = o) (h : OpU N P w d f.type V) (hsz : P.cellsOf f.type = d.sz) : OpFU N P w d [f] o V := by
  subst hfo
  intro H enc base spare held n cs hN hl hf
  obtain ⟨y, hy, hz⟩ := hf f (by simp)
  rw [List.take_of_length_le (by rw [List.length_drop]; omega)] at hy
  exact h H enc base spare held n _ y hN hy hz
theorem opfu_cons {N : Nat} {α β : Type} {d : Kd α} {d' : Kd β} {f : Field} {fs : List Field} {o o' : Nat} {V : α → Prop} {V' : β → Prop} (hfo : f.offset = o) (h : OpU N P w d f.type V) (hsz : P.cellsOf f.type = d.sz) (ho : o' = o + d.sz) (hr : OpFU N P w d' fs o' V') : OpFU N P w (Kd.pair d d') (f :: fs) o (fun x => V x.1 ∧ V' x.2) := by
  subst hfo
  intro H enc base spare held n cs hN hl hf
  have hl' : cs.length = f.offset + (d.sz + d'.sz) := hl
  obtain ⟨y, hy, hz⟩ := hf f (by simp)
  obtain ⟨v, hK, hV⟩ := h H enc base spare held n _ y hN hy hz
  obtain ⟨v', hK', hV'⟩ := hr H enc base spare held n cs hN (by omega) (fun g hg => hf g (by simp [hg]))
  refine ⟨(v, v'), ⟨_, _, ?_, hK, hK'⟩, hV, hV'⟩
  rw [hsz, ho, ← List.drop_drop, List.take_append_drop]
theorem opu_struct {N : Nat} {α β : Type} {d : Kd α} {t : TypeId} {fs : Array Field} {V : α → Prop} {V' : β → Prop} (g : β → α) (gi : α → β) (hg : ∀ x, g (gi x) = x) (ht : P.underlying t = some (.struct fs)) (hsz : P.cellsOf t = d.sz) (h : OpFU N P w d fs.toList 0 V) (hV : ∀ x, V (g x) → V' x) : OpU (N + 1) P w (Kd.iso d g) t V' := by
  intro H enc base spare held fuel cs x hN hx hz
  obtain ⟨xs, n, hn, rfl, hl, hxl, hf⟩ := DataW.trod_struct ht hx
  simp only [DataW.weights, ht] at hz
  obtain ⟨v, hK, hv⟩ := h H enc base spare held n cs (by omega) (by omega) (fun f hm => by
    obtain ⟨i, hi, rfl⟩ := List.getElem_of_mem hm
    have hi' : i < fs.size := by simpa using hi
    have := hf i fs[i] (Array.getElem?_eq_getElem hi')
    refine ⟨xs[i]'(by omega), ?_, fun m hm => hz m (DataW.weights_mem_each (j := i) (t := fs[i].type) (d := (xs[i]'(by omega)).1) (by simp [hi']) (by simp [List.getElem?_eq_getElem (show i < xs.length by omega)]) m (by simpa using hm))⟩
    rw [List.getElem?_eq_getElem (by omega)] at this
    simpa using this)
  exact ⟨gi v, by rw [show (Kd.iso d g).K = fun w x cs => d.K w (g x) cs from rfl]; simp only; rw [hg]; simpa using hK, hV _ (by rw [hg]; exact hv)⟩
/-- A kind that holds itself. -/
theorem op_fix {α : Type} {F : Kd α → Kd α} {sz : Nat} {E : List Nat} {hs : ∀ n, (Kd.upto F sz E n).sz = sz} {hE : ∀ n q, q ∈ (Kd.upto F sz E n).E → q ∈ E} {t : TypeId} {V : α → Prop}
    (step : ∀ N (d : Kd α), d.sz = sz → OpU N P w d t V → OpU (N + 1) P w (F d) t V) : Op P w (Kd.fix F sz E hs hE) t V := by
  have h : ∀ N, OpU N P w (Kd.upto F sz E N) t V := by
    intro N
    induction N with
    | zero =>
      intro H enc base spare held fuel cs x hN hx _
      obtain rfl : fuel = 0 := by omega
      simp [DataW.trod] at hx
    | succ N ih => exact step N _ (hs N) ih
  intro H enc base spare held fuel cs x hx hz
  obtain ⟨v, hK, hV⟩ := h fuel H enc base spare held fuel cs x (Nat.le_refl _) hx hz
  exact ⟨v, ⟨fuel, hK⟩, hV⟩
end
end Go.Proofs.Ytkepmbkghmkodaa.Open
