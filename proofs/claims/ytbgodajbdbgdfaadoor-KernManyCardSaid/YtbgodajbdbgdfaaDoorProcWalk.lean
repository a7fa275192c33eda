/- kern: processes in memory; the contracts of what looks at them. -/
import Derived.Test.YtbgodajbdbgdfaaDoorSigSets
import Derived.Test.YtbgodajbdbgdfaaDoorProcPure
import Derived.Maps.RangeWalk
import Derived.Maps.OwnSet
namespace Go.Proofs.YtbgodajbdbgdfaaDoor.Kern
open Go.RowKit Go.Proofs.YtbgodajbdbgdfaaDoorW.PrintWords Go.Proofs.YtbgodajbdbgdfaaDoorW.PrintLast Go.Proofs.YtbgodajbdbgdfaaDoor.Sig Go.Proofs.YtbgodajbdbgdfaaDoor.Base Go.Maps
set_option linter.unusedVariables false
set_option linter.unusedSimpArgs false
abbrev Dm := DataW Unit
/-- A process's pointer, read as its block's number. -/
def Rp (v : Value) : Option (Dm × List MemPlace) := match v with
  | .pointer none => some (.nil, [])
  | .pointer (some ⟨b, 0, none⟩) => some (.lit (.int .i64 (b : Int)), [])
  | _ => none
theorem Rp_inv {v : Value} {y : Dm × List MemPlace} (h : Rp v = some y) : (v = .pointer none ∧ y = (.nil, [])) ∨ ∃ b : Nat, v = .pointer (some ⟨b, 0, none⟩) ∧ y = (.lit (.int .i64 (b : Int)), []) := by
  unfold Rp at h
  split at h
  · exact .inl ⟨rfl, (Option.some.inj h).symm⟩
  · exact .inr ⟨_, rfl, (Option.some.inj h).symm⟩
  · cases h
theorem keyI : Keyed Tryd.prog 3 := int_keyed Tryd.underlying3
theorem zeroP (w : World) : (zeroValue 63).run Tryd.prog w = .ok (.pointer none) w := by kernel_rfl
theorem grown_of {w w' : World} (h : Below w.heap.size w w') : w.grownBy w' none := ⟨h.os, h.tape, h.output, h.size, fun i hi _ => h.block i hi⟩
theorem own_below {w w' : World} {m n : Nat} {D : Dm} (h : w.ownsMap Tryd.prog 3 Rp m n D) (hb : Below w.heap.size w w') : w'.ownsMap Tryd.prog 3 Rp m n D := h.kept (grown_of hb) (by simp)
abbrev pcell (r : Pr) : Array Value := #[.int .i64 r.par, .bool r.live, .int .i64 r.status, .int .u32 (r.ign : Int), .int .u32 (r.ca : Int), .int .u32 (r.pen : Int)]
def kEnd : Kd (Int × Int) := Kd.pair (Kd.int .i64) (Kd.int .i64)
/-- What is so of each process. -/
structure PV (w : World) (base : Nat) (D : Dm) (B : Int → Nat) (q : Int) (r : Pr) : Prop where
  key : ∀ z, D.atKey (.int .i64 q) z = .lit (.int .i64 (B q : Int))
  low : base ≤ B q
  blk : w.heap[B q]? = some (.cells (pcell r) 65 (0, 0))
  par : 0 ≤ r.par ∧ r.par < q
  ign : r.ign < 4294967296
  ca : r.ca < 4294967296
  pen : r.pen < 4294967296
/-- All processes, in memory. -/
structure TV (w : World) (base g m n : Nat) (D : Dm) (B : Int → Nat) (v : Value) (f : Tb) (last : Int) (ends : List (Int × Int)) : Prop where
  hg : w.heap[g]? = some (.cells #[.map (some m), .int .i64 last, v] 70 (0, 0))
  bg : base ≤ g
  bm : base ≤ m
  own : w.ownsMap Tryd.prog 3 Rp m n D
  cnt : (n : Int) ≤ last
  lmt : last ≤ 1000000
  top : ∀ q, f q ≠ none → 1 ≤ q ∧ q ≤ last
  no : ∀ q, f q = none → Maps.has D (.int .i64 q) = false
  yes : ∀ q r, f q = some r → PV w base D B q r
  inj : ∀ q q', f q ≠ none → f q' ≠ none → B q = B q' → q = q'
  row : kEnd.R 73 w base ok0 v ends
theorem TV.lt {w : World} {base g m n : Nat} {D : Dm} {B : Int → Nat} {v : Value} {f : Tb} {last : Int} {ends : List (Int × Int)} (h : TV w base g m n D B v f last ends) : g < w.heap.size := blk_lt h.hg
theorem TV.below {w w' : World} {base g m n : Nat} {D : Dm} {B : Int → Nat} {v : Value} {f : Tb} {last : Int} {ends : List (Int × Int)} (h : TV w base g m n D B v f last ends) (hb : Below w.heap.size w w') : TV w' base g m n D B v f last ends where
  hg := blk_below h.hg hb
  bg := h.bg
  bm := h.bm
  own := own_below h.own hb
  cnt := h.cnt
  lmt := h.lmt
  top := h.top
  no := h.no
  yes := fun q r hq => by
    have hp := h.yes q r hq
    exact ⟨hp.key, hp.low, blk_below hp.blk hb, hp.par, hp.ign, hp.ca, hp.pen⟩
  inj := h.inj
  row := Kd.R_below h.row hb
abbrev ptr (B : Int → Nat) (pid : Int) (b : Bool) : Value := .pointer (if b = true then some ⟨B pid, 0, none⟩ else none)
theorem look {w : World} {base g m n : Nat} {D : Dm} {B : Int → Nat} {v : Value} {f : Tb} {last : Int} {ends : List (Int × Int)} (h : TV w base g m n D B v f last ends) (pid : Int) (hp : (Lit.int .i64 pid).wf = true) :
    (Instr.lookup 68 (.map (some m)) (.int .i64 pid) false).run Tryd.prog w = .ok (.pointer (if (f pid).isSome = true then some ⟨B pid, 0, none⟩ else none)) w := by
  obtain ⟨x, ps, hrun, hv⟩ := h.own.lookup keyI Tryd.underlying68 (zeroP w) (show Rp (.pointer none) = some (.nil, []) from rfl) (keyOf_int_mk Tryd.underlying3 hp)
  rw [hrun]
  cases hf : f pid with
  | none =>
    rw [atKey_of_not_has (h.no pid hf)] at hv
    rcases Rp_inv hv with ⟨rfl, _⟩ | ⟨b, rfl, e⟩
    · rfl
    · cases e
  | some r =>
    rw [(h.yes pid r hf).key] at hv
    rcases Rp_inv hv with ⟨rfl, e⟩ | ⟨b, rfl, e⟩
    · cases e
    · have : b = B pid := by
        simp only [Prod.mk.injEq, DataW.lit.injEq, Lit.int.injEq] at e
        omega
      rw [this]; rfl
set_option maxHeartbeats 1000000 in
set_option maxRecDepth 100000 in
theorem liv_ptr {w : World} {base g m n : Nat} {D : Dm} {B : Int → Nat} {v : Value} {f : Tb} {last : Int} {ends : List (Int × Int)} (h : TV w base g m n D B v f last ends) (pid : Int) (hp : (Lit.int .i64 pid).wf = true) :
    Calls Tryd.prog 35 #[.pointer (some ⟨g, 0, none⟩), .int .i64 pid] w fun e w' => e = .returned (ptr B pid (liv f pid)) ∧ w = w' := by
  have hrun := look h pid hp
  have c0 : w.cell? ⟨g, 0, none⟩ = some (.map (some m)) := (blk_cell h.hg 0).trans rfl
  unfold liv
  cases hf : f pid with
  | none =>
    rw [hf] at hrun
    simp only [Option.isSome_none, Bool.false_eq_true, if_false] at hrun
    clear h
    go_enter Tryd.func35, Tryd.ntmps35
    go_wp2
    go_ret
    exact ⟨rfl, rfl⟩
  | some r =>
    rw [hf] at hrun
    simp only [Option.isSome_some, if_true] at hrun
    have c1 : w.cell? ⟨B pid, 1, none⟩ = some (.bool r.live) := (blk_cell (h.yes pid r hf).blk 1).trans rfl
    clear h
    show Calls _ _ _ _ fun e w' => e = .returned (ptr B pid r.live) ∧ w = w'
    cases hl : r.live with
    | true =>
      rw [hl] at c1
      go_enter Tryd.func35, Tryd.ntmps35
      go_wp2
      go_ret
      exact ⟨rfl, rfl⟩
    | false =>
      rw [hl] at c1
      go_enter Tryd.func35, Tryd.ntmps35
      go_wp2
      go_ret
      exact ⟨rfl, rfl⟩
set_option maxHeartbeats 1000000 in
set_option maxRecDepth 100000 in
theorem liv_any {w : World} {base g m n : Nat} {D : Dm} {B : Int → Nat} {v : Value} {f : Tb} {last : Int} {ends : List (Int × Int)} (h : TV w base g m n D B v f last ends) (pid : Int) (hp : (Lit.int .i64 pid).wf = true) :
    Calls Tryd.prog 24 #[.pointer (some ⟨g, 0, none⟩), .int .i64 pid] w fun e w' => e = .returned (.bool (liv f pid)) ∧ w = w' := by
  have H := Aside0.mk h
  have HP := Aside0.mk hp
  clear h hp
  cases hl : liv f pid with
  | true =>
    go_enter Tryd.func24, Tryd.ntmps24
    go_wp2_with (go_at_call 35; (with_reducible refine (liv_ptr H.out pid HP.out).mono ?_); rintro e w1 ⟨rfl, rfl⟩; rw [hl]; simp only [ptr, if_true])
    go_ret
    exact ⟨rfl, rfl⟩
  | false =>
    go_enter Tryd.func24, Tryd.ntmps24
    go_wp2_with (go_at_call 35; (with_reducible refine (liv_ptr H.out pid HP.out).mono ?_); rintro e w1 ⟨rfl, rfl⟩; rw [hl]; simp only [ptr, Bool.false_eq_true, if_false])
    go_ret
    exact ⟨rfl, rfl⟩
end Go.Proofs.YtbgodajbdbgdfaaDoor.Kern
