/- kern: Exit: its contract. -/
import Derived.Test.YtbgodajbdbgdfaaDoorProcPut
namespace Go.Proofs.YtbgodajbdbgdfaaDoor.Kern
open Go.RowKit Go.Proofs.YtbgodajbdbgdfaaDoorW.PrintWords Go.Proofs.YtbgodajbdbgdfaaDoorW.PrintLast Go.Proofs.YtbgodajbdbgdfaaDoor.Sig Go.Proofs.YtbgodajbdbgdfaaDoor.Base Go.Proofs.YtbgodajbdbgdfaaDoor.Seq Go.Maps
set_option linter.unusedVariables false
set_option linter.unusedSimpArgs false
section
variable {ops : Array Oper} {rest : List Oper} {o : Oper} {a : Act} {Q : Exit → Act → World → Prop}
/-- The step of a loop over the processes. -/
theorem next_procs (w : World) (hg : o.guard = none) (it : Operand) (hop : o.op = Op.next it false) (b r n : Nat) (D : Dm) (left : Lit → Bool) (cnt : Nat)
    (hD : ∀ x, Maps.has D (.int .i64 x) = true → ∃ bb : Nat, ∀ zd, D.atKey (.int .i64 x) zd = .lit (.int .i64 (bb : Int)))
    (hit : a.eval it = .pointer (some ⟨r, 0, none⟩)) (h : w.ranges Tryd.prog 3 Rp b r n D left cnt)
    (hDone : cnt = 0 → (∀ kl, left kl = false) → wpList Tryd.prog ops Q rest (a.put o.dst (.tuple #[.bool false])) w)
    (hMore : ∀ (x : Int) (bb : Nat) (w' : World) (cnt' : Nat), (Lit.int .i64 x).wf = true → left (.int .i64 x) = true → (∀ zd, D.atKey (.int .i64 x) zd = .lit (.int .i64 (bb : Int))) → w'.ranges Tryd.prog 3 Rp b r n D (fun z => left z && !z.sameKey (.int .i64 x)) cnt' → cnt' < cnt →
      w.grownBy w' (some r) → w'.heap.size = w.heap.size → (Instr.entry (.pointer (some ⟨r, 0, none⟩))).run Tryd.prog w' = .ok (.tuple #[.int .i64 x, .pointer (some ⟨bb, 0, none⟩)]) w' → wpList Tryd.prog ops Q rest (a.put o.dst (.tuple #[.bool true, .int .i64 x, .pointer (some ⟨bb, 0, none⟩)])) w') :
    wpList Tryd.prog ops Q (o :: rest) a w :=
  wpList_next_ranges (β := Option Nat) w hg it hop 3 keyI Rp (Value.int .i64) (fun c => .pointer (c.map fun b => ⟨b, 0, none⟩)) (fun key kl hkey => by obtain ⟨x, rfl, _⟩ := Maps.keyOf_int_inv Tryd.underlying3 hkey; exact ⟨x, rfl⟩)
    (fun v y hv => by
      rcases Rp_inv hv with ⟨rfl, _⟩ | ⟨b, rfl, _⟩
      · exact ⟨none, rfl⟩
      · exact ⟨some b, rfl⟩)
    b r n D left cnt hit h hDone (fun x c kl y w' cnt' hkey hlk hv hat hrg hlt hgr hsz hen => by
      obtain ⟨x', ex, rfl, hwx⟩ := Maps.keyOf_int_inv Tryd.underlying3 hkey
      cases ex
      obtain ⟨bb, hbb⟩ := hD x (has_true_of_atKey hat)
      have e : y.1 = .lit (.int .i64 (bb : Int)) := (hat .nil).symm.trans (hbb .nil)
      cases c with
      | none =>
        have : y = (.nil, []) := (Option.some.inj hv).symm
        rw [this] at e
        cases e
      | some b' =>
        have h1 : y = (.lit (.int .i64 (b' : Int)), []) := (Option.some.inj hv).symm
        rw [h1] at e
        have h2 : b' = bb := by
          simp only [DataW.lit.injEq, Lit.int.injEq] at e
          omega
        subst h2
        exact hMore x b' w' cnt' hwx hlk hbb hrg hlt hgr hsz hen)
theorem app_end {w0 W : World} (base : Nat) (hgd : o.guard = none) (s x : Operand) (ho : o.op = .call { callee := .builtin .append, args := #[s, x], argTypes := #[34, 34] })
    (v : Value) (xs : List (Int × Int)) (p q : Int) (hs : a.eval s = v) (hx : a.eval x = .slice (some ⟨W.heap.size, 0, none⟩) 1 1)
    (HO : kEnd.R 73 W base ok0 v xs) (HB : Below base w0 W) (hbase : base ≤ W.heap.size) (hl : xs.length + 1 ≤ 1000000000000)
    (h : ∀ A n c w1, kEnd.R 73 w1 base ok0 (.slice A n c) (xs ++ [(p, q)]) → Below base w0 w1 → W.grownBy w1 v.ownBlock → wpList Tryd.prog ops Q rest (a.put o.dst (.slice A n c)) w1) :
    wpList Tryd.prog ops Q (o :: rest) a (W.alloc (.cells #[.int .i64 p, .int .i64 q] 73)) := by
  refine Kd.R_append kEnd (w0 := w0) base hgd s x 34 73 (.agg #[.int .i64 0, .int .i64 0]) 16 ho Tryd.underlying34 (by kernel_rfl) rfl (by decide) (by decide) v xs (p, q) [.int .i64 p, .int .i64 q] ok0 (fun _ => False) hs hx ⟨[.int .i64 p], [.int .i64 q], rfl, rfl, rfl⟩ (fun _ h => h.elim) (fun _ _ => trivial) HO HB hbase (by omega) ?_
  intro v1 w1 hR hB hG _
  obtain ⟨A, n, c, rfl⟩ := R_slice3 hR
  exact h A n c w1 hR hB hG
end
/-- What the loop has done, as what is left says. -/
def fl (f0 : Tb) (pid : Int) (left : Lit → Bool) : Tb := fun q => if left (.int .i64 q) = true then f0 q else (f0 q).bind (aft pid q)
theorem fl_start {f0 : Tb} {pid : Int} {D : Dm} (h : ∀ q, f0 q ≠ none → Maps.has D (.int .i64 q) = true) : fl f0 pid (Maps.has D) = f0 := by
  funext q
  unfold fl
  cases hf : f0 q with
  | none => split <;> rfl
  | some r => rw [if_pos (h q (by rw [hf]; simp))]
theorem fl_end {f0 : Tb} {pid : Int} {left : Lit → Bool} (h : ∀ kl, left kl = false) : fl f0 pid left = fun q => (f0 q).bind (aft pid q) := by
  funext q
  unfold fl
  rw [h, if_neg (by decide)]
theorem fl_step {f0 : Tb} {pid x : Int} {left : Lit → Bool} (hl : left (.int .i64 x) = true) : fl f0 pid (fun z => left z && !z.sameKey (.int .i64 x)) = upd (fl f0 pid left) x ((f0 x).bind (aft pid x)) := by
  funext q
  unfold upd
  by_cases e : q = x
  · subst e
    rw [if_pos rfl]
    show (if (left (.int .i64 q) && !(Lit.int .i64 q).sameKey (.int .i64 q)) = true then f0 q else (f0 q).bind (aft pid q)) = _
    rw [WideAt.sameKey_self (a := .int .i64 q) (by trivial), Bool.not_true, Bool.and_false, if_neg (by decide)]
  · rw [if_neg e]
    show (if (left (.int .i64 q) && !(Lit.int .i64 q).sameKey (.int .i64 x)) = true then f0 q else (f0 q).bind (aft pid q)) = if left (.int .i64 q) = true then f0 q else (f0 q).bind (aft pid q)
    rw [sameKey_ne (show Lit.int .i64 q ≠ .int .i64 x by simp only [ne_eq, Lit.int.injEq, not_and]; exact fun _ => e), Bool.not_false, Bool.and_true]
theorem upd_self {f : Tb} {p : Int} {r : Option Pr} (h : f p = r) : upd f p r = f := by
  funext q
  unfold upd
  split
  · rename_i e; rw [e, h]
  · rfl
theorem grown_set (w : World) (p : Addr) (u : Value) : w.grownBy (w.setCell p u) (some p.block) :=
  ⟨rfl, rfl, rfl, by simp [World.setCell], fun i hi hne => Below.heap_setCell w p u i (fun e => hne (by rw [e]))⟩
section
variable {w : World} {base g m n : Nat} {D : Dm} {B : Int → Nat} {v : Value} {f : Tb} {last : Int} {ends : List (Int × Int)}
/-- How processes ended: one more. -/
theorem TV.more (h : TV w base g m n D B v f last ends) {w' : World} {v' : Value} {ends' : List (Int × Int)} (hgr : w.grownBy w' v.ownBlock) (hr : kEnd.R 73 w' base ok0 v' ends') : TV (w'.setCell ⟨g, 2, none⟩ v') base g m n D B v' f last ends' := by
  have hg' : w'.heap[g]? = some (.cells #[.map (some m), .int .i64 last, v] 70 (0, 0)) := blk_grown h.hg hgr (Kd.R_ne h.row h.hg (by decide))
  have own' : w'.ownsMap Tryd.prog 3 Rp m n D := h.own.kept hgr h.rowM
  have neM' : ∀ {k t : Nat} {cs : Array Value}, w'.heap[k]? = some (.cells cs t (0, 0)) → k ≠ m := by
    intro k t cs hk
    rintro rfl
    obtain ⟨es, clock, hb, _⟩ := own'
    rw [hk] at hb
    cases hb
  exact {
    hg := blk_put hg' 2 _ rfl
    bg := h.bg
    bm := h.bm
    own := own'.setCell (a := ⟨g, 2, none⟩) (neM' hg').symm _
    cnt := h.cnt
    lmt := h.lmt
    top := h.top
    no := h.no
    yes := fun q r hq => by
      have p := h.yes q r hq
      exact ⟨p.key, p.low, blk_far (blk_grown p.blk hgr (Kd.R_ne h.row p.blk (by decide))) (h.neT hq).symm _, p.par, p.ign, p.ca, p.pen⟩
    inj := h.inj
    row := Kd.R_set hr hg' (kEnd_E (by decide)) 2 _ }
/-- The loop's own block has turned. -/
theorem TV.iter (h : TV w base g m n D B v f last ends) {w' : World} {k : Nat} (hgr : w.grownBy w' (some k)) (hk : ∀ t cs, w.heap[k]? ≠ some (.cells cs t (0, 0))) (own' : w'.ownsMap Tryd.prog 3 Rp m n D) : TV w' base g m n D B v f last ends where
  hg := blk_grown h.hg hgr (fun e => hk _ _ (by cases e; exact h.hg))
  bg := h.bg
  bm := h.bm
  own := own'
  cnt := h.cnt
  lmt := h.lmt
  top := h.top
  no := h.no
  yes := fun q r hq => by
    have p := h.yes q r hq
    exact ⟨p.key, p.low, blk_grown p.blk hgr (fun e => hk _ _ (by cases e; exact p.blk)), p.par, p.ign, p.ca, p.pen⟩
  inj := h.inj
  row := Kd.R_grown1 h.row rfl hgr (fun e => by
    obtain ⟨cells, hc⟩ := Kd.R_typed h.row k e.symm
    exact hk _ _ hc)
theorem ranges_iter {b r n : Nat} {D : Dm} {left : Lit → Bool} {cnt : Nat} (h : w.ranges Tryd.prog 3 Rp b r n D left cnt) : ∀ t cs, w.heap[r]? ≠ some (.cells cs t (0, 0)) := by
  obtain ⟨es, clock, since, seen, c0, _, _, _, _, hr, _⟩ := h
  intro t cs e
  rw [e] at hr
  cases hr
theorem TV.hasD (h : TV w base g m n D B v f last ends) (x : Int) (hx : Maps.has D (.int .i64 x) = true) : ∃ r, f x = some r := by
  cases hf : f x with
  | none => rw [h.no x hf] at hx; cases hx
  | some r => exact ⟨r, rfl⟩
/-- What is left of all behind the loop. -/
theorem after_self {f : Tb} {pid : Int} {r r1 : Pr} (hr1 : r1.par = r.par) (hp : r.par < pid) : (upd f pid (some r1) pid).bind (aft pid pid) = some r1 := by
  rw [upd_same]
  show aft pid pid r1 = some r1
  unfold aft
  rw [if_neg (by omega)]
theorem liv_after {f : Tb} {pid : Int} {r r1 : Pr} (hpar : ∀ q c, f q = some c → c.par < q) (hp : r.par < pid) : liv (fun q => (upd f pid (some r1) q).bind (aft pid q)) r.par = liv f r.par := by
  unfold liv
  show (match (upd f pid (some r1) r.par).bind (aft pid r.par) with | some r => r.live | none => false) = _
  rw [upd_other (show r.par ≠ pid by omega)]
  cases hf : f r.par with
  | none => rfl
  | some c =>
    have := hpar _ _ hf
    show (match aft pid r.par c with | some r => r.live | none => false) = c.live
    unfold aft
    rw [if_neg (by omega)]
theorem endd_live {f : Tb} {pid S : Int} {r : Pr} (hf : f pid = some r) (hp : r.par < pid) (hl : liv f r.par = true) : (fun q => (upd f pid (some { r with live := false, status := S }) q).bind (aft pid q)) = endd f pid S := by
  funext q
  unfold endd
  rw [hf]
  show _ = if q = pid then (if liv f r.par = true then some { r with live := false, status := S } else none) else (f q).bind (aft pid q)
  by_cases e : q = pid
  · subst e
    rw [if_pos rfl, if_pos hl]
    exact after_self rfl hp
  · rw [if_neg e, upd_other e]
theorem endd_dead {f : Tb} {pid S : Int} {r : Pr} (hf : f pid = some r) (hl : liv f r.par = false) : upd (fun q => (upd f pid (some { r with live := false, status := S }) q).bind (aft pid q)) pid none = endd f pid S := by
  funext q
  unfold endd
  rw [hf]
  show _ = if q = pid then (if liv f r.par = true then some { r with live := false, status := S } else none) else (f q).bind (aft pid q)
  by_cases e : q = pid
  · subst e
    rw [if_pos rfl, if_neg (by rw [hl]; decide), upd_same]
  · rw [if_neg e, upd_other e]
    show (upd f pid _ q).bind (aft pid q) = _
    rw [upd_other e]
end
end Go.Proofs.YtbgodajbdbgdfaaDoor.Kern
