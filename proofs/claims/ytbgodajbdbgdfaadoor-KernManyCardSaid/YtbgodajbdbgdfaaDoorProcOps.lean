/- kern: Pending, How, Len, Fork: their contracts. -/
import Derived.Test.YtbgodajbdbgdfaaDoorProcSet
import Derived.Test.YtbgodajbdbgdfaaDoorSeqMore
namespace Go.Proofs.YtbgodajbdbgdfaaDoor.Kern
open Go.RowKit Go.Proofs.YtbgodajbdbgdfaaDoorW.PrintWords Go.Proofs.YtbgodajbdbgdfaaDoorW.PrintLast Go.Proofs.YtbgodajbdbgdfaaDoor.Sig Go.Proofs.YtbgodajbdbgdfaaDoor.Base Go.Proofs.YtbgodajbdbgdfaaDoor.Seq Go.Maps
set_option linter.unusedVariables false
set_option linter.unusedSimpArgs false
theorem liv_true {f : Tb} {pid : Int} (h : liv f pid = true) : ∃ r, f pid = some r ∧ r.live = true := by
  unfold liv at h
  cases hf : f pid with
  | none => rw [hf] at h; cases h
  | some r => rw [hf] at h; exact ⟨r, rfl, h⟩
theorem pend_off {f : Tb} {pid : Int} (h : liv f pid = false) : pend f pid = 0 := by
  unfold liv at h
  unfold pend
  cases hf : f pid with
  | none => rfl
  | some r => rw [hf] at h; simp only at h; simp [h]
theorem how_off {f : Tb} {pid s : Int} (h : liv f pid = false) : how f pid s = 0 := by
  unfold liv at h
  unfold how
  cases hf : f pid with
  | none => rfl
  | some r => rw [hf] at h; simp only at h; simp [h]
section
variable {w : World} {base g m n : Nat} {D : Dm} {B : Int → Nat} {v : Value} {f : Tb} {last : Int} {ends : List (Int × Int)}
set_option maxHeartbeats 1000000 in
set_option maxRecDepth 100000 in
theorem pend_any (h : TV w base g m n D B v f last ends) (pid : Int) (hp : (Lit.int .i64 pid).wf = true) :
    Calls Tryd.prog 30 #[.pointer (some ⟨g, 0, none⟩), .int .i64 pid] w fun e w' => e = .returned (.int .u32 (pend f pid : Nat)) ∧ w = w' := by
  have H := Aside0.mk h
  have HP := Aside0.mk hp
  cases hl : liv f pid with
  | true =>
    obtain ⟨r, hf, hlv⟩ := liv_true hl
    have c5 : w.cell? ⟨B pid, 5, none⟩ = some (.int .u32 (r.pen : Int)) := (blk_cell (h.yes pid r hf).blk 5).trans rfl
    have e : pend f pid = r.pen := by unfold pend; rw [hf]; exact if_pos hlv
    rw [e]
    clear h hp hf hlv e
    go_enter Tryd.func30, Tryd.ntmps30
    go_wp2_with (go_at_call 35; (with_reducible refine (liv_ptr H.out pid HP.out).mono ?_); rintro e w1 ⟨rfl, rfl⟩; rw [hl]; simp only [ptr, if_true])
    go_ret
    exact ⟨rfl, rfl⟩
  | false =>
    rw [pend_off hl]
    clear h hp
    go_enter Tryd.func30, Tryd.ntmps30
    go_wp2_with (go_at_call 35; (with_reducible refine (liv_ptr H.out pid HP.out).mono ?_); rintro e w1 ⟨rfl, rfl⟩; rw [hl]; simp only [ptr, Bool.false_eq_true, if_false])
    go_ret
    exact ⟨rfl, rfl⟩
set_option maxHeartbeats 1000000 in
set_option maxRecDepth 100000 in
theorem how_any (h : TV w base g m n D B v f last ends) (pid s : Int) (hp : (Lit.int .i64 pid).wf = true) :
    Calls Tryd.prog 26 #[.pointer (some ⟨g, 0, none⟩), .int .i64 pid, .int .i64 s] w fun e w' => e = .returned (.int .i64 (how f pid s)) ∧ Below w.heap.size w w' := by
  have H := Aside0.mk h
  have HP := Aside0.mk hp
  have HB := Aside0.mk (Below.refl w.heap.size w)
  cases hl : liv f pid with
  | true =>
    obtain ⟨r, hf, hlv⟩ := liv_true hl
    have pv := h.yes pid r hf
    have HK := Aside0.mk pv.blk
    have HI := Aside0.mk pv.ign
    have HC := Aside0.mk pv.ca
    have c3 : w.cell? ⟨B pid, 3, none⟩ = some (.int .u32 (r.ign : Int)) := (blk_cell pv.blk 3).trans rfl
    have e : how f pid s = if hs r.ign s = true then 1 else if hs r.ca s = true then 2 else 0 := by unfold how; rw [hf]; exact if_pos hlv
    rw [e]
    clear h hp hf hlv e pv
    cases h1 : hs r.ign s with
    | true =>
      have H1 := Aside0.mk h1
      clear h1
      go_enter Tryd.func26, Tryd.ntmps26
      go_wp2_with (first
        | (go_at_call 35; (with_reducible refine (liv_ptr H.out pid HP.out).mono ?_); rintro e w1 ⟨rfl, rfl⟩; rw [hl]; simp only [ptr, if_true])
        | (go_at_call 49; (with_reducible refine (has_any r.ign s _ HI.out).mono ?_); rintro e w1 ⟨rfl, hB⟩; rw [H1.out]; have n1 := Aside0.mk (below_trans HB.out (below_sub hB HB.out.size)); clear hB HB; have HB := n1; clear n1))
      go_ret
      exact ⟨rfl, HB.out⟩
    | false =>
      have H1 := Aside0.mk h1
      clear h1
      cases h2 : hs r.ca s with
      | true =>
        have H2 := Aside0.mk h2
        clear h2
        go_enter Tryd.func26, Tryd.ntmps26
        go_wp2_with (first
          | (go_at_call 35; (with_reducible refine (liv_ptr H.out pid HP.out).mono ?_); rintro e w1 ⟨rfl, rfl⟩; rw [hl]; simp only [ptr, if_true])
          | (go_at_call 49; (with_reducible refine (has_any r.ign s _ HI.out).mono ?_); rintro e w1 ⟨rfl, hB⟩; rw [H1.out]; have n1 := Aside0.mk (below_trans HB.out (below_sub hB HB.out.size)); have c4 := (blk_cell (blk_below HK.out hB) 4).trans rfl; clear hB HB c3; have HB := n1; clear n1)
          | (go_at_call 49; (with_reducible refine (has_any r.ca s _ HC.out).mono ?_); rintro e w1 ⟨rfl, hB⟩; rw [H2.out]; have n1 := Aside0.mk (below_trans HB.out (below_sub hB HB.out.size)); clear hB HB; have HB := n1; clear n1))
        go_ret
        exact ⟨rfl, HB.out⟩
      | false =>
        have H2 := Aside0.mk h2
        clear h2
        go_enter Tryd.func26, Tryd.ntmps26
        go_wp2_with (first
          | (go_at_call 35; (with_reducible refine (liv_ptr H.out pid HP.out).mono ?_); rintro e w1 ⟨rfl, rfl⟩; rw [hl]; simp only [ptr, if_true])
          | (go_at_call 49; (with_reducible refine (has_any r.ign s _ HI.out).mono ?_); rintro e w1 ⟨rfl, hB⟩; rw [H1.out]; have n1 := Aside0.mk (below_trans HB.out (below_sub hB HB.out.size)); have c4 := (blk_cell (blk_below HK.out hB) 4).trans rfl; clear hB HB c3; have HB := n1; clear n1)
          | (go_at_call 49; (with_reducible refine (has_any r.ca s _ HC.out).mono ?_); rintro e w1 ⟨rfl, hB⟩; rw [H2.out]; have n1 := Aside0.mk (below_trans HB.out (below_sub hB HB.out.size)); clear hB HB; have HB := n1; clear n1))
        go_ret
        exact ⟨rfl, HB.out⟩
  | false =>
    rw [how_off hl]
    clear h hp
    go_enter Tryd.func26, Tryd.ntmps26
    go_wp2_with (go_at_call 35; (with_reducible refine (liv_ptr H.out pid HP.out).mono ?_); rintro e w1 ⟨rfl, rfl⟩; rw [hl]; simp only [ptr, Bool.false_eq_true, if_false])
    go_ret
    exact ⟨rfl, HB.out⟩
set_option maxHeartbeats 1000000 in
set_option maxRecDepth 100000 in
theorem len_any (h : TV w base g m n D B v f last ends) :
    Calls Tryd.prog 8 #[.pointer (some ⟨g, 0, none⟩)] w fun e w' => e = .returned (.int .i64 (Maps.size D : Nat)) ∧ w = w' := by
  have c0 : w.cell? ⟨g, 0, none⟩ = some (.map (some m)) := (blk_cell h.hg 0).trans rfl
  have HO := Aside0.mk h.own
  clear h
  go_enter Tryd.func8, Tryd.ntmps8
  go_wp2_with (first
    | (at_len; refine wpList_len_own _ rfl _ 68 rfl 3 63 Tryd.underlying68 Rp m n D rfl HO.out ?_)
    | go_in)
  go_ret
  exact ⟨rfl, rfl⟩
end
end Go.Proofs.YtbgodajbdbgdfaaDoor.Kern
