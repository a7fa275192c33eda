/- texts of this claim, one behind the other: TwinOps TwinKeep -/
import Derived.Test.YtbgodajbdbgdfaaDoorG4
/- kern beside the document: what both hold, and what one call on both sides leaves. -/
namespace Go.Proofs.YtbgodajbdbgdfaaDoor.Kern
open Go.RowKit Go.Proofs.YtbgodajbdbgdfaaDoorW.PrintWords Go.Proofs.YtbgodajbdbgdfaaDoorW.PrintLast Go.Proofs.YtbgodajbdbgdfaaDoor.Sig Go.Proofs.YtbgodajbdbgdfaaDoor.Base Go.Proofs.YtbgodajbdbgdfaaDoor.Seq Go.Proofs.YtbgodajbdbgdfaaDoor.V Go.Maps
set_option linter.unusedVariables false
set_option linter.unusedSimpArgs false
section
variable {w w' : World} {base g m n : Nat} {X : Gh} {D : Dm} {B : Int → Nat} {v v' : Value} {f : Tb} {last : Int} {ends : List (Int × Int)} {A E : Option Addr} {k c j d : Nat} {L : List S} {es : List SE}
/-- What the document's table holds, apart from kern's. -/
structure DR (w : World) (v : Value) (A : Option Addr) (k c : Nat) (L : List S) (E : Option Addr) (j d : Nat) (es : List SE) : Prop where
  p : k77.R 77 w 0 ok0 (.slice A k c) L
  e : k73.R 73 w 0 ok0 (.slice E j d) es
  sep : ∀ b, (Value.slice E j d).ownBlock = some b → v.ownBlock ≠ some b
theorem DR.rt (h : DR w v A k c L E j d es) : RT w A k c L E j d es := by
  obtain ⟨e1, e2, e3⟩ := Kd.R_reads' h.p
  obtain ⟨e4, e5, e6⟩ := Kd.R_reads' h.e
  rw [← e1] at e3
  rw [← e4] at e6
  exact ⟨e3, e2, e6, e5⟩
theorem DR.len (h : DR w v A k c L E j d es) : L.length = k := (Kd.R_reads' h.p).1.symm
theorem DR.below (h : DR w v A k c L E j d es) (hb : Below w.heap.size w w') : DR w' v A k c L E j d es :=
  ⟨Kd.R_below h.p hb, Kd.R_below h.e hb, h.sep⟩
abbrev AllOk (w : World) (v : Value) : Gh := fun k cs t => GhOk w v k cs t
theorem TV.all (h : TV w base X g m n D B v f last ends) : TV w base (AllOk w v) g m n D B v f last ends := h.reghost _ (fun _ _ _ h => h)
theorem TV.ltv (h : TV w base X g m n D B v f last ends) : ∀ b, v.ownBlock = some b → b < w.heap.size := Kd.R_lt h.row
theorem DR.carry (hT : TV w base X g m n D B v f last ends) (h : DR w v A k c L E j d es) (hc : ∀ k cs t, GhOk w v k cs t → GhOk w' v' k cs t) : DR w' v' A k c L E j d es where
  p := Kd.R_mono (Kd.R_step (Kd.R_tight2 rfl h.p) (fun b hb hlt => by
    obtain ⟨cs, hcs⟩ := Kd.R_typed h.p b hb.1.symm
    have h1 : GhOk w v b cs 77 := ⟨hcs, by decide, by decide, fun e => by
      obtain ⟨cs2, hcs2⟩ := Kd.R_typed hT.row b e
      rw [hcs] at hcs2
      cases hcs2⟩
    rw [(hc _ _ _ h1).1, hcs])) (fun _ _ => trivial)
  e := Kd.R_mono (Kd.R_step (Kd.R_tight2 rfl h.e) (fun b hb hlt => by
    obtain ⟨cs, hcs⟩ := Kd.R_typed h.e b hb.1.symm
    have h1 : GhOk w v b cs 73 := ⟨hcs, by decide, by decide, h.sep b hb.1.symm⟩
    rw [(hc _ _ _ h1).1, hcs])) (fun _ _ => trivial)
  sep := fun b hb => by
    obtain ⟨cs, hcs⟩ := Kd.R_typed h.e b hb
    have h1 : GhOk w v b cs 73 := ⟨hcs, by decide, by decide, h.sep b hb⟩
    exact (hc _ _ _ h1).2.2.2
theorem blk_carry (hT : TV w base X g m n D B v f last ends) {q t : Nat} {cs : Array Value} (hq : w.heap[q]? = some (.cells cs t (0, 0))) (h1 : t ≠ 65) (h2 : t ≠ 70) (h3 : t ≠ 73) (hc : ∀ k cs t, GhOk w v k cs t → GhOk w' v' k cs t) : w'.heap[q]? = some (.cells cs t (0, 0)) :=
  (hc _ _ _ ⟨hq, h1, h2, fun e => by
    obtain ⟨cs2, hcs2⟩ := Kd.R_typed hT.row q e
    rw [hq] at hcs2
    injection hcs2 with e1
    injection e1 with _ e2
    exact h3 e2⟩).1
/-- A block that is none of kern's is written. -/
theorem TV.away (h : TV w base X0 g m n D B v f last ends) {q t : Nat} {cs : Array Value} (hq : w.heap[q]? = some (.cells cs t (0, 0))) (h1 : t ≠ 65) (h2 : t ≠ 70) (h3 : t ≠ 73) (hgr : w.grownBy w' (some q)) : TV w' base X0 g m n D B v f last ends where
  hg := blk_grown h.hg hgr (fun e => by
    cases e
    have := h.hg
    rw [hq] at this
    injection this with e1
    injection e1 with _ e2
    exact h2 e2)
  bg := h.bg
  bm := h.bm
  own := h.own.kept hgr (fun e => by
    cases e
    exact h.neM hq rfl)
  cnt := h.cnt
  lmt := h.lmt
  top := h.top
  no := h.no
  yes := fun x r hx => by
    have p := h.yes x r hx
    exact ⟨p.key, p.low, blk_grown p.blk hgr (fun e => by
      have := p.blk
      injection e with e
      rw [e, hq] at this
      injection this with e1
      injection e1 with _ e2
      exact h1 e2), p.par, p.ign, p.ca, p.pen⟩
  inj := h.inj
  row := Kd.R_grown1 h.row rfl hgr (fun e => by
    obtain ⟨cells, hc⟩ := Kd.R_typed h.row q e.symm
    rw [hq] at hc
    injection hc with e1
    injection e1 with _ e2
    exact h3 e2)
  gh := fun _ _ _ hx => hx.elim
theorem DR.away (h : DR w v A k c L E j d es) {q t : Nat} {cs : Array Value} (hq : w.heap[q]? = some (.cells cs t (0, 0))) (h1 : t ≠ 77) (h3 : t ≠ 73) (hgr : w.grownBy w' (some q)) : DR w' v A k c L E j d es where
  p := Kd.R_grown1 h.p rfl hgr (fun e => by
    obtain ⟨cells, hc⟩ := Kd.R_typed h.p q e.symm
    rw [hq] at hc
    injection hc with e1
    injection e1 with _ e2
    exact h1 e2)
  e := Kd.R_grown1 h.e rfl hgr (fun e => by
    obtain ⟨cells, hc⟩ := Kd.R_typed h.e q e.symm
    rw [hq] at hc
    injection hc with e1
    injection e1 with _ e2
    exact h3 e2)
  sep := h.sep
/-- What a call of kern's leaves. -/
def KOut (w w' : World) (base g : Nat) (v : Value) (f' : Tb) (l' : Int) (en' : List (Int × Int)) : Prop := TW w' base (AllOk w v) g f' l' en' ∧ Below base w w'
theorem KOut.same (h : TV w base X0 g m n D B v f last ends) : KOut w w base g v f last ends := ⟨⟨m, n, D, B, v, h.all⟩, Below.refl _ _⟩
theorem KOut.below (h : TV w base X0 g m n D B v f last ends) (hb : Below w.heap.size w w') : KOut w w' base g v f last ends :=
  ⟨⟨m, n, D, B, v, h.all.below hb⟩, hb.mono (Nat.le_trans h.bg (Nat.le_of_lt h.lt))⟩
/-- What a call of the document's leaves. -/
def DocOut (w w' : World) (e : Ending) (t : Value → Value) (A : Option Addr) (k c : Nat) (L : List S) (E : Option Addr) (j d : Nat) (es : List SE) (f' : Tb) (l' : Int) (en' : List (Int × Int)) : Prop :=
  ∃ (A' : Option Addr) (k' c' : Nat) (E' : Option Addr) (j' d' : Nat) (L' : List S) (es' : List SE), e = .returned (t (.agg #[.slice A' k' c', .int .i64 l', .slice E' j' d'])) ∧ Rel f' L' ∧ es'.map prE = en' ∧
    (∀ v, DR w v A k c L E j d es → (∀ b, v.ownBlock = some b → b < w.heap.size) → DR w' v A' k' c' L' E' j' d' es') ∧ Below w.heap.size w w'
theorem rel_one {f : Tb} {L L' : List S} (h : Rel f L) (h' : Rel f L') : L = L' := by
  have nd : ∀ {M : List S}, Rel f M → M.Nodup := fun {M} hM => by
    rw [List.nodup_iff_pairwise_ne]
    exact hM.asc.imp (fun {a b} hxy e => by rw [e] at hxy; exact Int.lt_irrefl _ hxy)
  have hp : L.Perm L' := (List.perm_ext_iff_of_nodup (nd h) (nd h')).2 (fun x => (h.mem x).trans (h'.mem x).symm)
  refine List.Perm.eq_of_pairwise (le := fun x y => x.f0 ≤ y.f0) (fun a b ha hb h1 h2 => ?_) (h.asc.imp (fun hxy => Int.le_of_lt hxy)) (h'.asc.imp (fun hxy => Int.le_of_lt hxy)) hp
  obtain ⟨q, r, hf, rfl⟩ := (h.mem a).1 ha
  obtain ⟨q2, r2, hf2, rfl⟩ := (h'.mem b).1 hb
  have e : q = q2 := Int.le_antisymm h1 h2
  subst e
  rw [hf] at hf2
  cases hf2
  rfl
theorem doc_same {f' : Tb} (h : Rel f L) {e : Ending} {t : Value → Value} (he : e = .returned (t (.agg #[.slice A k c, .int .i64 last, .slice E j d]))) (hb : Below w.heap.size w w') : DocOut w w' e t A k c L E j d es f last (es.map prE) :=
  ⟨A, k, c, E, j, d, L, es, he, h, rfl, fun v hd _ => hd.below hb, hb⟩
theorem doc_new {f' : Tb} {l' : Int} {L' : List S} {A' : Option Addr} {k' c' : Nat} (h : Rel f' L') {e : Ending} {t : Value → Value} (he : e = .returned (t (.agg #[.slice A' k' c', .int .i64 l', .slice E j d]))) (hR : k77.R 77 w' w.heap.size ok0 (.slice A' k' c') L') (hb : Below w.heap.size w w') : DocOut w w' e t A k c L E j d es f' l' (es.map prE) :=
  ⟨A', k', c', E, j, d, L', es, he, h, rfl, fun v hd _ => ⟨Kd.R_lower hR (Nat.zero_le _), Kd.R_below hd.e hb, hd.sep⟩, hb⟩
theorem doc_two {f' : Tb} {l' : Int} {L' : List S} {es' : List SE} {A' E' : Option Addr} {k' c' j' d' : Nat} (h : Rel f' L') {e : Ending} {t : Value → Value} (he : e = .returned (t (.agg #[.slice A' k' c', .int .i64 l', .slice E' j' d']))) (hR : k77.R 77 w' w.heap.size ok0 (.slice A' k' c') L') (hE : k73.R 73 w' w.heap.size ok0 (.slice E' j' d') es') (hb : Below w.heap.size w w') : DocOut w w' e t A k c L E j d es f' l' (es'.map prE) :=
  ⟨A', k', c', E', j', d', L', es', he, h, rfl, fun v hd hlt => ⟨Kd.R_lower hR (Nat.zero_le _), Kd.R_lower hE (Nat.zero_le _), fun b hb2 e2 => Nat.lt_irrefl b (Nat.lt_of_lt_of_le (hlt b e2) (Kd.R_base hE b hb2))⟩, hb⟩
theorem doc_tab (h : Rel f L) {f' : Tb} {L' : List S} (h' : Rel f' L') {e : Ending} {b : Bool} (hT : TabB2 w w' e b A k c L' last E j d) (hb : b = false → f' = f) : DocOut w w' e (fun T => .tuple #[T, .bool b]) A k c L E j d es f' last (es.map prE) := by
  obtain ⟨A', k', c', he, hR, hB⟩ := hT
  cases b with
  | true => exact doc_new h' he hR hB
  | false =>
    obtain ⟨rfl, rfl, rfl⟩ := hR
    rw [hb rfl]
    exact doc_same (f' := f') h he hB
theorem doc_exit (h : Rel f L) {f' : Tb} {L' : List S} {es' : List SE} (h' : Rel f' L') {e : Ending} {b : Bool} (hT : ExitOut w w' e b A k c L' last E j d es') (hb : b = false → f' = f ∧ es' = es) : DocOut w w' e (fun T => .tuple #[T, .bool b]) A k c L E j d es f' last (es'.map prE) := by
  obtain ⟨A', k', c', E', j', d', he, hR, hB⟩ := hT
  cases b with
  | true => exact doc_two h' he hR.1 hR.2 hB
  | false =>
    obtain ⟨⟨rfl, rfl, rfl⟩, rfl, rfl, rfl⟩ := hR
    rw [(hb rfl).1, (hb rfl).2]
    exact doc_same (f' := f') h he hB
theorem doc_reap (h : Rel f L) {f' : Tb} {L' : List S} (h' : Rel f' L') {e : Ending} {b : Bool} {st : Int} (hT : ReapOut w w' e st b A k c L' last E j d) (hb : b = false → f' = f) : DocOut w w' e (fun T => .tuple #[T, .int .i64 st, .bool b]) A k c L E j d es f' last (es.map prE) := by
  obtain ⟨A', k', c', he, hR, hB⟩ := hT
  cases b with
  | true => exact doc_new h' he hR hB
  | false =>
    obtain ⟨rfl, rfl, rfl⟩ := hR
    rw [hb rfl]
    exact doc_same (f' := f') h he hB
theorem doc_fork (h : Rel f L) {f' : Tb} {L' : List S} {l' : Int} (h' : Rel f' L') {e : Ending} {b : Bool} {x y : Int} (hT : ForkOut w w' e x y b A k c L' l' E j d) (hb : b = false → f' = f ∧ l' = last) : DocOut w w' e (fun T => .tuple #[T, .int .i64 x, .int .i64 y]) A k c L E j d es f' l' (es.map prE) := by
  obtain ⟨A', k', c', he, hR, hB⟩ := hT
  cases b with
  | true => exact doc_new h' he hR hB
  | false =>
    obtain ⟨rfl, rfl, rfl⟩ := hR
    rw [(hb rfl).1]
    rw [(hb rfl).2] at he ⊢
    exact doc_same (f' := f') h he hB
end
section
variable {w : World} {base g m n : Nat} {D : Dm} {B : Int → Nat} {v : Value} {f : Tb} {last : Int} {A E : Option Addr} {k c j d : Nat} {L : List S} {es : List SE}
theorem live_some {f : Tb} {pid : Int} (h : liv f pid = true) : ∃ r, f pid = some r ∧ r.live = true := by
  unfold liv at h
  cases hf : f pid with
  | none => rw [hf] at h; cases h
  | some r => rw [hf] at h; exact ⟨r, rfl, h⟩
/-- Fork, on both sides. -/
theorem fork_pair (hT : TV w base X0 g m n D B v f last (es.map prE)) (h : Rel f L) (hk : L.length = k) (pid : Int) (hp : (Lit.int .i64 pid).wf = true) (hl : last < 1000000) :
    ∃ (x y : Int) (f' : Tb) (l' : Int), l' ≤ last + 1 ∧
      Calls Tryd.prog 7 #[.pointer (some ⟨g, 0, none⟩), .int .i64 pid] w (fun e w' => e = .returned (.tuple #[.int .i64 x, .int .i64 y]) ∧ KOut w w' base g v f' l' (es.map prE)) ∧
      ∀ W, RT W A k c L E j d es → Calls Tryd.prog 15 #[.agg #[.slice A k c, .int .i64 last, .slice E j d], .int .i64 pid] W (fun e W' => DocOut W W' e (fun T => .tuple #[T, .int .i64 x, .int .i64 y]) A k c L E j d es f' l' (es.map prE)) := by
  have hsz := size_eqL hT h
  cases hl0 : liv f pid with
  | false =>
    refine ⟨0, 3, f, last, by omega, ?_, fun W hr => ?_⟩
    · refine (forkno_any hT.all pid hp hl0).mono ?_
      rintro e w' ⟨rfl, rfl⟩
      exact ⟨rfl, KOut.same hT⟩
    · exact (rfork_nolive h hr last pid hl0).mono fun e W' hq => doc_fork h h hq (fun _ => ⟨rfl, rfl⟩)
  | true =>
    obtain ⟨r, hf, hlv⟩ := live_some hl0
    by_cases h64 : 64 ≤ k
    · refine ⟨0, 4, f, last, by omega, ?_, fun W hr => ?_⟩
      · refine (forkfull_any hT.all pid hp hl0 (by omega)).mono ?_
        rintro e w' ⟨rfl, rfl⟩
        exact ⟨rfl, KOut.same hT⟩
      · exact (rfork_full h hr last pid hl0 h64).mono fun e W' hq => doc_fork h h hq (fun _ => ⟨rfl, rfl⟩)
    · have h0 : 0 ≤ last := by
        have := hT.cnt
        omega
      refine ⟨last + 1, 0, upd f (last + 1) (some ⟨pid, true, 0, r.ign, 0, 0⟩), last + 1, by omega, ?_, fun W hr => ?_⟩
      · refine (fork_any hT.all pid r hp hf hlv hl (by omega)).mono ?_
        rintro e w' ⟨rfl, h1, h2⟩
        exact ⟨rfl, h1, h2⟩
      · exact (rfork_yes h hr last pid r hf hlv (by omega) h0 (by omega)).mono fun e W' hq => doc_fork (last := last) h (rel_fork h (fun q hq => (hT.top q hq).2) (by omega) _) hq (fun e => by cases e)
/-- Exit, on both sides. -/
theorem exit_pair (hT : TV w base X0 g m n D B v f last (es.map prE)) (h : Rel f L) (pid st : Int) (hp : (Lit.int .i64 pid).wf = true) (hst0 : -9223372036854775808 ≤ st) (hst1 : st ≤ 9223372036854775807) (hel : es.length ≤ 1000000) :
    ∃ (b : Bool) (f' : Tb) (en' : List (Int × Int)), en'.length ≤ es.length + 1 ∧
      Calls Tryd.prog 9 #[.pointer (some ⟨g, 0, none⟩), .int .i64 pid, .int .i64 st] w (fun e w' => e = .returned (.bool b) ∧ KOut w w' base g v f' last en') ∧
      ∀ W, RT W A k c L E j d es → Calls Tryd.prog 18 #[.agg #[.slice A k c, .int .i64 last, .slice E j d], .int .i64 pid, .int .i64 st] W (fun e W' => DocOut W W' e (fun T => .tuple #[T, .bool b]) A k c L E j d es f' last en') := by
  cases hl0 : liv f pid with
  | false =>
    refine ⟨false, f, es.map prE, by rw [List.length_map]; omega, ?_, fun W hr => ?_⟩
    · refine (exitno_any hT.all pid st hp hl0).mono ?_
      rintro e w' ⟨rfl, rfl⟩
      exact ⟨rfl, KOut.same hT⟩
    · exact (rexit_nolive h hr last pid st hl0).mono fun e W' hq => doc_exit h h hq (fun _ => ⟨rfl, rfl⟩)
  | true =>
    obtain ⟨r, hf, hlv⟩ := live_some hl0
    refine ⟨true, endd f pid (bits .and .i64 st 255), es.map prE ++ [(pid, bits .and .i64 st 255)], by simp, ?_, fun W hr => ?_⟩
    · refine (exit_any hT.all pid st r hp hf hlv (by rw [List.length_map]; exact hel)).mono ?_
      rintro e w' ⟨rfl, h1, h2⟩
      exact ⟨rfl, h1, h2⟩
    · refine (rexit_yes h hr last pid st r hf hlv hst0 hst1 hel).mono fun e W' hq => ?_
      have := doc_exit h (rel_end h hf (bits .and .i64 st 255)) hq (es := es) (fun e => by cases e)
      rwa [List.map_append] at this
/-- Send, on both sides. -/
theorem send_pair (hT : TV w base X0 g m n D B v f last (es.map prE)) (h : Rel f L) (pid s : Int) (hp : (Lit.int .i64 pid).wf = true) (hel : es.length ≤ 1000000) :
    ∃ (b : Bool) (f' : Tb) (en' : List (Int × Int)), en'.length ≤ es.length + 1 ∧
      Calls Tryd.prog 16 #[.pointer (some ⟨g, 0, none⟩), .int .i64 pid, .int .i64 s] w (fun e w' => e = .returned (.bool b) ∧ KOut w w' base g v f' last en') ∧
      ∀ W, RT W A k c L E j d es → Calls Tryd.prog 17 #[.agg #[.slice A k c, .int .i64 last, .slice E j d], .int .i64 pid, .int .i64 s] W (fun e W' => DocOut W W' e (fun T => .tuple #[T, .bool b]) A k c L E j d es f' last en') := by
  have hI : ∀ q r, f q = some r → r.ign < 4294967296 ∧ r.ca < 4294967296 ∧ r.pen < 4294967296 := fun q r hq => ⟨(hT.yes q r hq).ign, (hT.yes q r hq).ca, (hT.yes q r hq).pen⟩
  cases hl0 : liv f pid with
  | false =>
    refine ⟨false, f, es.map prE, by rw [List.length_map]; omega, ?_, fun W hr => ?_⟩
    · refine (sendno_any hT.all pid s hp hl0).mono ?_
      rintro e w' ⟨rfl, rfl⟩
      exact ⟨rfl, KOut.same hT⟩
    · exact (rsend_nolive h hr last pid s hl0).mono fun e W' hq => doc_exit h h hq (fun _ => ⟨rfl, rfl⟩)
  | true =>
    obtain ⟨r, hf, hlv⟩ := live_some hl0
    cases hs1 : isg s with
    | false =>
      refine ⟨false, f, es.map prE, by rw [List.length_map]; omega, ?_, fun W hr => ?_⟩
      · refine (sendnosig_any hT.all pid s hp hl0 hs1).mono ?_
        rintro e w' ⟨rfl, hB⟩
        exact ⟨rfl, KOut.below hT hB⟩
      · exact (rsend_nosig h hr last pid s hl0 hs1).mono fun e W' hq => doc_exit h h hq (fun _ => ⟨rfl, rfl⟩)
    | true =>
      have hhow : how f pid s = if hs r.ign s = true then 1 else if hs r.ca s = true then 2 else 0 := by
        unfold how
        rw [hf]
        exact if_pos hlv
      cases h1 : hs r.ign s with
      | true =>
        rw [h1, if_pos rfl] at hhow
        refine ⟨true, f, es.map prE, by rw [List.length_map]; omega, ?_, fun W hr => ?_⟩
        · refine (send_ign hT.all pid s r hp hf hlv hs1 h1).mono ?_
          rintro e w' ⟨rfl, hB⟩
          exact ⟨rfl, KOut.below hT hB⟩
        · refine (rsend_ign h hr last pid s r hf hlv hI hs1 hel hhow).mono ?_
          rintro e W' ⟨A', he, rfl, hB⟩
          exact doc_same (f' := f) h he hB
      | false =>
        rw [h1, if_neg (by decide)] at hhow
        cases h2 : hs r.ca s with
        | true =>
          rw [h2, if_pos rfl] at hhow
          refine ⟨true, upd f pid (some { r with pen := wth r.pen s }), es.map prE, by rw [List.length_map]; omega, ?_, fun W hr => ?_⟩
          · refine (send_ca hT.all pid s r hp hf hlv hs1 h1 h2).mono ?_
            rintro e w' ⟨rfl, hK⟩
            exact ⟨rfl, hK⟩
          · exact (rsend_ca h hr last pid s r hf hlv hI hs1 hel hhow).mono fun e W' hq => doc_tab h (rel_set h hf _) hq (fun e => by cases e)
        | false =>
          rw [h2, if_neg (by decide)] at hhow
          cases h3 : md s with
          | true =>
            refine ⟨true, f, es.map prE, by rw [List.length_map]; omega, ?_, fun W hr => ?_⟩
            · refine (send_mild hT.all pid s r hp hf hlv hs1 h1 h2 h3).mono ?_
              rintro e w' ⟨rfl, hB⟩
              exact ⟨rfl, KOut.below hT hB⟩
            · refine (rsend_mild h hr last pid s r hf hlv hI hs1 hel hhow h3).mono ?_
              rintro e W' ⟨A', he, rfl, hB⟩
              exact doc_same (f' := f) h he hB
          | false =>
            refine ⟨true, endd f pid (128 + s), es.map prE ++ [(pid, 128 + s)], by simp, ?_, fun W hr => ?_⟩
            · refine (send_end hT.all pid s r hp hf hlv hs1 h1 h2 h3 (by rw [List.length_map]; exact hel)).mono ?_
              rintro e w' ⟨rfl, h4, h5⟩
              exact ⟨rfl, h4, h5⟩
            · refine (rsend_end h hr last pid s r hf hlv hI hs1 hel hhow h3).mono fun e W' hq => ?_
              have := doc_exit h (rel_end h hf (128 + s)) hq (es := es) (fun e => by cases e)
              rwa [List.map_append] at this
/-- Reap, on both sides. -/
theorem reap_pair (hT : TV w base X0 g m n D B v f last (es.map prE)) (h : Rel f L) (par pid : Int) (hp : (Lit.int .i64 pid).wf = true) (hq : (Lit.int .i64 par).wf = true) :
    ∃ (st : Int) (b : Bool) (f' : Tb),
      Calls Tryd.prog 10 #[.pointer (some ⟨g, 0, none⟩), .int .i64 par, .int .i64 pid] w (fun e w' => e = .returned (.tuple #[.int .i64 st, .bool b]) ∧ KOut w w' base g v f' last (es.map prE)) ∧
      ∀ W, RT W A k c L E j d es → Calls Tryd.prog 19 #[.agg #[.slice A k c, .int .i64 last, .slice E j d], .int .i64 par, .int .i64 pid] W (fun e W' => DocOut W W' e (fun T => .tuple #[T, .int .i64 st, .bool b]) A k c L E j d es f' last (es.map prE)) := by
  cases hch : chB f par pid with
  | false =>
    refine ⟨0, false, f, ?_, fun W hr => ?_⟩
    · refine (reapno_any hT.all par pid hp hq hch).mono ?_
      rintro e w' ⟨rfl, rfl⟩
      exact ⟨rfl, KOut.same hT⟩
    · exact (rreap_nochild h hr last par pid hch).mono fun e W' hq => doc_reap h h hq (fun _ => rfl)
  | true =>
    obtain ⟨r, hf⟩ : ∃ r, f pid = some r := by
      unfold chB at hch
      cases hf : f pid with
      | none => rw [hf] at hch; cases hch
      | some r => exact ⟨r, rfl⟩
    cases hlv : r.live with
    | true =>
      refine ⟨0, false, f, ?_, fun W hr => ?_⟩
      · refine (reaplive_any hT.all par pid hp hq r hf hlv hch).mono ?_
        rintro e w' ⟨rfl, rfl⟩
        exact ⟨rfl, KOut.same hT⟩
      · exact (rreap_live h hr last par pid hch (by unfold liv; rw [hf]; exact hlv)).mono fun e W' hq => doc_reap h h hq (fun _ => rfl)
    | false =>
      refine ⟨r.status, true, upd f pid none, ?_, fun W hr => ?_⟩
      · refine (reap_any hT.all par pid r hp hq hf hlv hch).mono ?_
        rintro e w' ⟨rfl, h1, h2⟩
        exact ⟨rfl, h1, h2⟩
      · exact (rreap_yes h hr last par pid r hf hlv hch).mono fun e W' hq => doc_reap h (rel_del h pid) hq (fun e => by cases e)
/-- Put, on both sides. -/
theorem put_pair (hT : TV w base X0 g m n D B v f last (es.map prE)) (h : Rel f L) (pid s q : Int) (hp : (Lit.int .i64 pid).wf = true) :
    ∃ (b : Bool) (f' : Tb),
      Calls Tryd.prog 20 #[.pointer (some ⟨g, 0, none⟩), .int .i64 pid, .int .i64 s, .int .i64 q] w (fun e w' => e = .returned (.bool b) ∧ KOut w w' base g v f' last (es.map prE)) ∧
      ∀ W, RT W A k c L E j d es → Calls Tryd.prog 21 #[.agg #[.slice A k c, .int .i64 last, .slice E j d], .int .i64 pid, .int .i64 s, .int .i64 q] W (fun e W' => DocOut W W' e (fun T => .tuple #[T, .bool b]) A k c L E j d es f' last (es.map prE)) := by
  have hI : ∀ q r, f q = some r → r.ign < 4294967296 ∧ r.ca < 4294967296 ∧ r.pen < 4294967296 := fun q r hq => ⟨(hT.yes q r hq).ign, (hT.yes q r hq).ca, (hT.yes q r hq).pen⟩
  refine ⟨putB f pid s q, putT f pid s q, ?_, fun W hr => ?_⟩
  · cases hb : putB f pid s q with
    | false =>
      rw [put_off hb]
      have key : ∀ e w', (e = .returned (.bool false) ∧ Below w.heap.size w w') → (e = Ending.returned (.bool false) ∧ KOut w w' base g v f last (es.map prE)) := fun e w' hq => ⟨hq.1, KOut.below hT hq.2⟩
      cases hl0 : liv f pid with
      | false => exact (putnolive_any hT.all pid s q hp hl0).mono key
      | true =>
        cases hs1 : isg s with
        | false => exact (putnosig_any hT.all pid s q hp hl0 hs1).mono key
        | true =>
          cases hfx : fx s with
          | true => exact (putno_any hT.all pid s q hp hl0 hs1 hfx).mono key
          | false =>
            by_cases hq0 : q < 0
            · exact (putlow_any hT.all pid s q hp hl0 hs1 hfx hq0).mono key
            · by_cases hq2 : 2 < q
              · exact (puthigh_any hT.all pid s q hp hl0 hs1 hfx hq2).mono key
              · unfold putB at hb
                rw [hl0, hs1, hfx, decide_eq_true (show 0 ≤ q by omega), decide_eq_true (show q ≤ 2 by omega)] at hb
                cases hb
    | true =>
      have hb0 := hb
      unfold putB at hb
      rw [Bool.and_eq_true, Bool.and_eq_true, Bool.and_eq_true, Bool.and_eq_true, decide_eq_true_eq, decide_eq_true_eq, Bool.not_eq_true'] at hb
      obtain ⟨hl0, hs1, hfx, hq0, hq2⟩ := hb
      obtain ⟨r, hf, hlv⟩ := live_some hl0
      have hpt : putT f pid s q = upd f pid (some (putR r s q)) := by
        unfold putT
        rw [if_pos hb0, hf]
        rfl
      rw [hpt]
      have hcase : q = 0 ∨ q = 1 ∨ q = 2 := by omega
      rcases hcase with rfl | rfl | rfl
      · exact (put0_any hT.all pid s r hp hf hlv hs1 hfx).mono fun e w' hq => ⟨hq.1, hq.2⟩
      · exact (put1_any hT.all pid s r hp hf hlv hs1 hfx).mono fun e w' hq => ⟨hq.1, hq.2⟩
      · exact (put2_any hT.all pid s r hp hf hlv hs1 hfx).mono fun e w' hq => ⟨hq.1, hq.2⟩
  · refine (rput_any h hr last pid s q hI).mono ?_
    rintro e W' ⟨L', hL', hq⟩
    exact doc_tab h hL' hq (fun e => put_off e)
/-- Take, on both sides. -/
theorem take_pair (hT : TV w base X0 g m n D B v f last (es.map prE)) (h : Rel f L) (pid s : Int) (hp : (Lit.int .i64 pid).wf = true) :
    ∃ (b : Bool) (f' : Tb),
      Calls Tryd.prog 22 #[.pointer (some ⟨g, 0, none⟩), .int .i64 pid, .int .i64 s] w (fun e w' => e = .returned (.bool b) ∧ KOut w w' base g v f' last (es.map prE)) ∧
      ∀ W, RT W A k c L E j d es → Calls Tryd.prog 23 #[.agg #[.slice A k c, .int .i64 last, .slice E j d], .int .i64 pid, .int .i64 s] W (fun e W' => DocOut W W' e (fun T => .tuple #[T, .bool b]) A k c L E j d es f' last (es.map prE)) := by
  have hI : ∀ q r, f q = some r → r.pen < 4294967296 := fun q r hq => (hT.yes q r hq).pen
  refine ⟨hs (pend f pid) s, takeT f pid s, ?_, fun W hr => ?_⟩
  · cases hb : hs (pend f pid) s with
    | false =>
      rw [show takeT f pid s = f from if_neg (by rw [hb]; decide)]
      exact (takeno_any hT.all pid s hp hb).mono fun e w' hq => ⟨hq.1, KOut.below hT hq.2⟩
    | true =>
      have hb0 := hb
      obtain ⟨r, hf, hlv, hpn⟩ : ∃ r, f pid = some r ∧ r.live = true ∧ pend f pid = r.pen := by
        unfold pend at hb ⊢
        cases hf : f pid with
        | none => rw [hf] at hb; unfold hs at hb; rw [Bool.and_eq_true, Nat.zero_testBit] at hb; cases hb.2
        | some r =>
          rw [hf] at hb
          cases hlv : r.live with
          | true => exact ⟨r, rfl, hlv, if_pos hlv⟩
          | false =>
            replace hb : hs (if r.live = true then r.pen else 0) s = true := hb
            rw [if_neg (by rw [hlv]; decide)] at hb
            unfold hs at hb
            rw [Bool.and_eq_true, Nat.zero_testBit] at hb
            cases hb.2
      have htt : takeT f pid s = upd f pid (some { r with pen := wto r.pen s }) := by
        unfold takeT
        rw [if_pos hb0, hf]
        rfl
      rw [htt]
      exact (take_any hT.all pid s r hp hf hlv (by rw [← hpn]; exact hb0)).mono fun e w' hq => ⟨hq.1, hq.2⟩
  · refine (rtake_any h hr last pid s hI).mono ?_
    rintro e W' ⟨L', hL', hq⟩
    exact doc_tab h hL' hq (fun e => if_neg (by rw [e]; decide))
end
end Go.Proofs.YtbgodajbdbgdfaaDoor.Kern
/- kern beside the document: what the law's loop holds. -/
namespace Go.Proofs.YtbgodajbdbgdfaaDoor.Kern
open Go.RowKit Go.Proofs.YtbgodajbdbgdfaaDoorW.PrintWords Go.Proofs.YtbgodajbdbgdfaaDoorW.PrintLast Go.Proofs.YtbgodajbdbgdfaaDoor.Sig Go.Proofs.YtbgodajbdbgdfaaDoor.Base Go.Proofs.YtbgodajbdbgdfaaDoor.Seq Go.Proofs.YtbgodajbdbgdfaaDoor.V Go.Maps
set_option linter.unusedVariables false
set_option linter.unusedSimpArgs false
theorem i64_lo {x : Int} (h : (Lit.int .i64 x).wf = true) : -9223372036854775808 ≤ x := by
  simp only [Lit.wf, Bool.and_eq_true, decide_eq_true_eq] at h
  exact h.1
theorem i64_hi {x : Int} (h : (Lit.int .i64 x).wf = true) : x ≤ 9223372036854775807 := by
  simp only [Lit.wf, Bool.and_eq_true, decide_eq_true_eq] at h
  exact h.2
/-- What is done. -/
structure Ac where
  f0 : Int
  f1 : Int
  f2 : Int
  f3 : Int
  f4 : Int
  f5 : Int
def zAc : Ac := ⟨0, 0, 0, 0, 0, 0⟩
def kAc : Kd Ac := Kd.iso (Kd.pair (Kd.int .i64) (Kd.pair (Kd.int .i64) (Kd.pair (Kd.int .i64) (Kd.pair (Kd.int .i64) (Kd.pair (Kd.int .i64) (Kd.int .i64)))))) (fun x : Ac => (x.f0, x.f1, x.f2, x.f3, x.f4, x.f5))
theorem kAc_open {w : World} {x : Ac} {cs : List Value} (h : kAc.K w x cs) : cs = [.int .i64 x.f0, .int .i64 x.f1, .int .i64 x.f2, .int .i64 x.f3, .int .i64 x.f4, .int .i64 x.f5] := by
  obtain ⟨_, _, rfl, rfl, ⟨_, _, rfl, rfl, ⟨_, _, rfl, rfl, ⟨_, _, rfl, rfl, ⟨_, _, rfl, rfl, rfl⟩⟩⟩⟩⟩ := h
  exact rfl
theorem at_Ac {w : World} {A : Option Addr} {n : Nat} {xs : List Ac} (h : Kd.C kAc w A n xs) (i : Nat) (hi : i < xs.length) : ∃ ad, A = some ad ∧ w.cell? (ad.add (i * 6)) = some (.int .i64 xs[i].f0) ∧ w.cell? ⟨(ad.add (i * 6)).block, (ad.add (i * 6)).off + 1, none⟩ = some (.int .i64 xs[i].f1) ∧ w.cell? ⟨(ad.add (i * 6)).block, (ad.add (i * 6)).off + 2, none⟩ = some (.int .i64 xs[i].f2) ∧ w.cell? ⟨(ad.add (i * 6)).block, (ad.add (i * 6)).off + 3, none⟩ = some (.int .i64 xs[i].f3) ∧ w.cell? ⟨(ad.add (i * 6)).block, (ad.add (i * 6)).off + 4, none⟩ = some (.int .i64 xs[i].f4) ∧ w.cell? ⟨(ad.add (i * 6)).block, (ad.add (i * 6)).off + 5, none⟩ = some (.int .i64 xs[i].f5) := by
  obtain ⟨ad, c, e, _, hK, hc0⟩ := Kd.C_get h zAc (i : Int) (by omega) (by have := h.1; omega)
  rw [Int.toNat_natCast] at hc0
  have hc : ∀ j u, c[j]? = some u → w.cell? (ad.add (i * 6 + j)) = some u := hc0
  rw [Int.toNat_natCast, List.getD_eq_getElem?_getD, List.getElem?_eq_getElem hi] at hK
  obtain rfl := kAc_open hK
  exact ⟨ad, e, hc 0 _ rfl, by rw [← add_field _ _ 1 (by omega)]; exact hc 1 _ rfl, by rw [← add_field _ _ 2 (by omega)]; exact hc 2 _ rfl, by rw [← add_field _ _ 3 (by omega)]; exact hc 3 _ rfl, by rw [← add_field _ _ 4 (by omega)]; exact hc 4 _ rfl, by rw [← add_field _ _ 5 (by omega)]; exact hc 5 _ rfl⟩
abbrev acc (x : Ac) : Array Value := #[.int .i64 x.f0, .int .i64 x.f1, .int .i64 x.f2, .int .i64 x.f3, .int .i64 x.f4, .int .i64 x.f5]
structure AcOk (x : Ac) : Prop where
  h1 : (Lit.int .i64 x.f1).wf = true
  h2 : (Lit.int .i64 x.f2).wf = true
  h3 : (Lit.int .i64 x.f3).wf = true
  h4 : (Lit.int .i64 x.f4).wf = true
section
variable {ops : Array Oper} {rest : List Oper} {o : Oper} {a : Act} {Q : Exit → Act → World → Prop}
theorem tab_put2 {W : World} (hgd : o.guard = none) (p y : Tmp) (ho : o.op = .store 42 (.tmp p) (.tmp y)) (g : Nat) (cs : Array Value) (A : Option Addr) (n c : Nat) (last : Int) (E : Option Addr) (m d : Nat) (hcs : cs.size = 3) (hx : a.eval (.tmp p) = .pointer (some ⟨g, 0, none⟩)) (hy : a.eval (.tmp y) = .agg (tbc A n c last E m d))
    (hg : W.heap[g]? = some (.cells cs 42 (0, 0)))
    (h : ∀ w1, w1.heap[g]? = some (.cells (tbc A n c last E m d) 42 (0, 0)) → (∀ B, B ≤ g → Below B W w1) → W.grownBy w1 (some g) → wpList Tryd.prog ops Q rest (a.put o.dst undef) w1) : wpList Tryd.prog ops Q (o :: rest) a W := by
  refine wpList_store_row hgd 42 (.tmp p) (.tmp y) ho g (tbc A n c last E m d) hx hy 42 cs hg (by kernel_rfl) hcs (by rw [Array.all_eq_true_iff_forall_mem]; exact fun v hv => tbc_one A n c last E m d v (by simpa using hv)) ?_
  exact h _ (setRow_heap _ _ _ _ _ _ hg) (fun B hB => below_setRow (Below.refl _ _) hB _) ⟨rfl, rfl, rfl, (below_setRow (Below.refl 0 _) (Nat.zero_le _) _).size, fun k _ hk => setRow_other _ _ _ _ (fun e => hk (by rw [e]))⟩
end
section
variable {w1 W W' : World} {g gt i : Nat} {f : Tb} {last : Int} {en : List (Int × Int)} {A E : Option Addr} {k c j d : Nat} {L : List S} {es : List SE} {cs : Array Value}
/-- kern's table, the document's rows, the box at gt. -/
def KM (w1 W : World) (g gt : Nat) (cs : Array Value) (f : Tb) (last : Int) (en : List (Int × Int)) (A : Option Addr) (k c : Nat) (L : List S) (E : Option Addr) (j d : Nat) (es : List SE) : Prop :=
  ∃ m n D B v, TV W w1.heap.size X0 g m n D B v f last en ∧ DR W v A k c L E j d es ∧ W.heap[gt]? = some (.cells cs 42 (0, 0)) ∧ Below w1.heap.size w1 W
theorem KM.rt (h : KM w1 W g gt cs f last en A k c L E j d es) : RT W A k c L E j d es := by
  obtain ⟨m, n, D, B, v, h1, h2, h3, h4⟩ := h
  exact h2.rt
theorem KM.len (h : KM w1 W g gt cs f last en A k c L E j d es) : L.length = k := by
  obtain ⟨m, n, D, B, v, h1, h2, h3, h4⟩ := h
  exact h2.len
theorem KM.box (h : KM w1 W g gt cs f last en A k c L E j d es) : W.heap[gt]? = some (.cells cs 42 (0, 0)) := by
  obtain ⟨m, n, D, B, v, h1, h2, h3, h4⟩ := h
  exact h3
theorem KM.bel (h : KM w1 W g gt cs f last en A k c L E j d es) : Below w1.heap.size w1 W := by
  obtain ⟨m, n, D, B, v, h1, h2, h3, h4⟩ := h
  exact h4
theorem KM.tw (h : KM w1 W g gt cs f last en A k c L E j d es) : ∃ m n D B v, TV W w1.heap.size X0 g m n D B v f last en := by
  obtain ⟨m, n, D, B, v, h1, h2, h3, h4⟩ := h
  exact ⟨m, n, D, B, v, h1⟩
theorem KM.below (h : KM w1 W g gt cs f last en A k c L E j d es) (hb : Below W.heap.size W W') : KM w1 W' g gt cs f last en A k c L E j d es := by
  obtain ⟨m, n, D, B, v, h1, h2, h3, h4⟩ := h
  exact ⟨m, n, D, B, v, h1.below hb, h2.below hb, blk_below h3 hb, h4.trans (hb.mono h4.size)⟩
/-- Behind a call of kern's. -/
theorem KM.kern {m n : Nat} {D : Dm} {B : Int → Nat} {v : Value} (hT : TV W w1.heap.size X0 g m n D B v f last (es.map prE)) (hd : DR W v A k c L E j d es) (hb : W.heap[gt]? = some (.cells cs 42 (0, 0))) (hl : Below w1.heap.size w1 W) {f' : Tb} {l' : Int} {en' : List (Int × Int)} (hK : KOut W W' w1.heap.size g v f' l' en') :
    KM w1 W' g gt cs f' l' en' A k c L E j d es ∧ ∀ (q t : Nat) (cs : Array Value), W.heap[q]? = some (Obj.cells cs t (0, 0)) → t ≠ 65 → t ≠ 70 → t ≠ 73 → W'.heap[q]? = some (Obj.cells cs t (0, 0)) := by
  obtain ⟨⟨m', n', D', B', v', hT'⟩, hB⟩ := hK
  have hc : ∀ k cs t, GhOk W v k cs t → GhOk W' v' k cs t := hT'.gh
  exact ⟨⟨m', n', D', B', v', hT'.reghost X0 (fun _ _ _ h => h.elim), hd.carry hT hc, blk_carry hT hb (by decide) (by decide) (by decide) hc, hl.trans hB⟩, fun q t cs hq e1 e2 e3 => blk_carry hT hq e1 e2 e3 hc⟩
/-- Behind a call of the document's. -/
theorem KM.doc (h : KM w1 W g gt cs f last en A k c L E j d es) {A' E' : Option Addr} {k' c' j' d' : Nat} {L' : List S} {es' : List SE} (hd : ∀ v, DR W v A k c L E j d es → (∀ b, v.ownBlock = some b → b < W.heap.size) → DR W' v A' k' c' L' E' j' d' es') (hb : Below W.heap.size W W') : KM w1 W' g gt cs f last en A' k' c' L' E' j' d' es' := by
  obtain ⟨m, n, D, B, v, h1, h2, h3, h4⟩ := h
  exact ⟨m, n, D, B, v, h1.below hb, hd v h2 h1.ltv, blk_below h3 hb, h4.trans (hb.mono h4.size)⟩
/-- The box is written. -/
theorem KM.store (h : KM w1 W g gt cs f last en A k c L E j d es) {cs' : Array Value} (hg : W'.heap[gt]? = some (.cells cs' 42 (0, 0))) (hb : ∀ B, B ≤ gt → Below B W W') (hlt : w1.heap.size ≤ gt) (hgr : W.grownBy W' (some gt)) : KM w1 W' g gt cs' f last en A k c L E j d es := by
  obtain ⟨m, n, D, B, v, h1, h2, h3, h4⟩ := h
  exact ⟨m, n, D, B, v, h1.away h3 (by decide) (by decide) (by decide) hgr, h2.away h3 (by decide) (by decide) hgr, hg, h4.trans (hb _ hlt)⟩
/-- What the loop holds behind i rounds. -/
structure KS (w1 W : World) (g gt i m n : Nat) (D : Dm) (B : Int → Nat) (v : Value) (f : Tb) (last : Int) (A : Option Addr) (k c : Nat) (L : List S) (E : Option Addr) (j d : Nat) (es : List SE) : Prop where
  tv : TV W w1.heap.size X0 g m n D B v f last (es.map prE)
  rel : Rel f L
  dr : DR W v A k c L E j d es
  box : W.heap[gt]? = some (.cells #[.slice A k c, .int .i64 last, .slice E j d] 42 (0, 0))
  bel : Below w1.heap.size w1 W
  lst : last ≤ (i : Int) + 1
  len : es.length ≤ i
  gtb : w1.heap.size ≤ gt
def KSt (w1 W : World) (g gt i : Nat) : Prop := ∃ m n D B v f last A k c L E j d es, KS w1 W g gt i m n D B v f last A k c L E j d es
theorem KM.st {A E : Option Addr} (h : KM w1 W g gt #[.slice A k c, .int .i64 last, .slice E j d] f last en A k c L E j d es) (hr : Rel f L) (he : es.map prE = en) (hl : last ≤ (i : Int) + 1) (hn : en.length ≤ i) (hlt : w1.heap.size ≤ gt) : KSt w1 W g gt i := by
  obtain ⟨m, n, D, B, v, h1, h2, h3, h4⟩ := h
  subst he
  rw [List.length_map] at hn
  exact ⟨m, n, D, B, v, f, last, A, k, c, L, E, j, d, es, h1, hr, h2, h3, h4, hl, hn, hlt⟩
theorem KS.below {m n : Nat} {D : Dm} {B : Int → Nat} {v : Value} (h : KS w1 W g gt i m n D B v f last A k c L E j d es) (hb : Below W.heap.size W W') : KS w1 W' g gt i m n D B v f last A k c L E j d es :=
  ⟨h.tv.below hb, h.rel, h.dr.below hb, blk_below h.box hb, h.bel.trans (hb.mono h.bel.size), h.lst, h.len, h.gtb⟩
theorem KS.st {m n : Nat} {D : Dm} {B : Int → Nat} {v : Value} (h : KS w1 W g gt i m n D B v f last A k c L E j d es) : KSt w1 W g gt (i + 1) :=
  ⟨m, n, D, B, v, f, last, A, k, c, L, E, j, d, es, h.tv, h.rel, h.dr, h.box, h.bel, by have := h.lst; omega, by have := h.len; omega, h.gtb⟩
theorem KS.kern {m n : Nat} {D : Dm} {B : Int → Nat} {v : Value} (h : KS w1 W g gt i m n D B v f last A k c L E j d es) {f' : Tb} {l' : Int} {en' : List (Int × Int)} (hK : KOut W W' w1.heap.size g v f' l' en') :
    KM w1 W' g gt #[.slice A k c, .int .i64 last, .slice E j d] f' l' en' A k c L E j d es ∧ ∀ (q t : Nat) (cs : Array Value), W.heap[q]? = some (Obj.cells cs t (0, 0)) → t ≠ 65 → t ≠ 70 → t ≠ 73 → W'.heap[q]? = some (Obj.cells cs t (0, 0)) :=
  KM.kern h.tv h.dr h.box h.bel hK
theorem rel_first (y : Nat) : Rel (one y) [mkS 1 (p0 y)] where
  asc := List.pairwise_singleton _ _
  mem := fun x => by
    rw [List.mem_singleton]
    constructor
    · rintro rfl
      exact ⟨1, p0 y, if_pos rfl, rfl⟩
    · rintro ⟨q, r, hf, rfl⟩
      unfold one at hf
      by_cases hq : q = 1
      · subst hq
        rw [if_pos rfl] at hf
        cases hf
        rfl
      · rw [if_neg hq] at hf
        cases hf
  few := by simp
/-- The document's table at the beginning. -/
theorem rnew_any (x : Nat) (hx : x < 4294967296) (W : World) : Calls Tryd.prog 13 #[.int .u32 (x : Int)] W fun e W' => ∃ (A : Option Addr) (k c : Nat) (E : Option Addr) (j d : Nat), e = .returned (.agg #[.slice A k c, .int .i64 1, .slice E j d]) ∧
    k77.R 77 W' W.heap.size ok0 (.slice A k c) [mkS 1 (p0 (flt x))] ∧ k73.R 73 W' W.heap.size ok0 (.slice E j d) [] ∧ Below W.heap.size W W' := by
  obtain ⟨K, hK⟩ := new_ev x hx
  refine (deadfallref12_New.calls K (x : Int) _ _ _ W (hK K (Nat.le_refl _))).mono ?_
  rintro e W' ⟨v0, v2, rfl, h1, h2, hB⟩
  obtain ⟨A, k, c, rfl⟩ := R_slice3 h1
  obtain ⟨E, j, d, rfl⟩ := R_slice3 h2
  exact ⟨A, k, c, E, j, d, rfl, h1, h2, hB⟩
/-- At the beginning. -/
theorem KSt.first {W W' : World} {y : Nat} {A E : Option Addr} (hT : TW W w1.heap.size X0 g (one y) 1 []) (hl : Below w1.heap.size w1 W) (hb : Below W.heap.size W W') (h1 : k77.R 77 W' W.heap.size ok0 (.slice A k c) [mkS 1 (p0 y)]) (h2 : k73.R 73 W' W.heap.size ok0 (.slice E j d) []) :
    KSt w1 (W'.alloc (.cells #[.slice A k c, .int .i64 1, .slice E j d] 42)) g W'.heap.size 0 := by
  obtain ⟨m, n, D, B, v, hT⟩ := hT
  have hal := below_alloc (Below.refl W'.heap.size W') (.cells #[.slice A k c, .int .i64 1, .slice E j d] 42)
  have hb2 := hl.trans (hb.mono hl.size)
  refine ⟨m, n, D, B, v, one y, 1, A, k, c, [mkS 1 (p0 y)], E, j, d, [], (hT.below hb).below hal, rel_first y, DR.below ⟨Kd.R_lower h1 (Nat.zero_le _), Kd.R_lower h2 (Nat.zero_le _), fun b hb e => Nat.lt_irrefl b (Nat.lt_of_lt_of_le (hT.ltv b e) (Kd.R_base h2 b hb))⟩ hal, blk_new _ _, hb2.trans (hal.mono hb2.size), by decide, by simp, hb2.size⟩
end
end Go.Proofs.YtbgodajbdbgdfaaDoor.Kern
