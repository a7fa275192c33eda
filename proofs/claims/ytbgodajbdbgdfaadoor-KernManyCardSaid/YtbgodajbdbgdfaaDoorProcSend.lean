/- kern: Send, Exit of nobody: their contracts. -/
import Derived.Test.YtbgodajbdbgdfaaDoorProcEnd
namespace Go.Proofs.YtbgodajbdbgdfaaDoor.Kern
open Go.RowKit Go.Proofs.YtbgodajbdbgdfaaDoorW.PrintWords Go.Proofs.YtbgodajbdbgdfaaDoorW.PrintLast Go.Proofs.YtbgodajbdbgdfaaDoor.Sig Go.Proofs.YtbgodajbdbgdfaaDoor.Base Go.Proofs.YtbgodajbdbgdfaaDoor.Seq Go.Maps
set_option linter.unusedVariables false
set_option linter.unusedSimpArgs false
theorem and_255 (s : Int) (h : isg s = true) : bits .and .i64 (128 + s) 255 = 128 + s := by
  have hi := isg_iff.1 h
  have key : ∀ i : Fin 32, bits .and .i64 (128 + (i.val : Int)) 255 = 128 + (i.val : Int) := by decide +kernel
  have := key ⟨s.toNat, by omega⟩
  rw [show ((s.toNat : Nat) : Int) = s by omega] at this
  exact this
section
variable {w : World} {base g m n : Nat} {D : Dm} {B : Int → Nat} {v : Value} {f : Tb} {last : Int} {ends : List (Int × Int)}
set_option maxHeartbeats 4000000 in
set_option maxRecDepth 100000 in
theorem exitno_any (h : TV w base g m n D B v f last ends) (pid st : Int) (hp : (Lit.int .i64 pid).wf = true) (hl : liv f pid = false) :
    Calls Tryd.prog 9 #[.pointer (some ⟨g, 0, none⟩), .int .i64 pid, .int .i64 st] w fun e w' => e = .returned (.bool false) ∧ w = w' := by
  have HT := Aside0.mk h
  have HP := Aside0.mk hp
  clear h hp
  go_enter Tryd.func9, Tryd.ntmps9
  go_wp2_with (go_at_call 35; (with_reducible refine (liv_ptr HT.out pid HP.out).mono ?_); rintro e w1 ⟨rfl, rfl⟩; rw [hl]; simp only [ptr, Bool.false_eq_true, if_false])
  go_ret
  exact ⟨rfl, rfl⟩
set_option maxHeartbeats 4000000 in
set_option maxRecDepth 100000 in
theorem sendno_any (h : TV w base g m n D B v f last ends) (pid s : Int) (hp : (Lit.int .i64 pid).wf = true) (hl : liv f pid = false) :
    Calls Tryd.prog 16 #[.pointer (some ⟨g, 0, none⟩), .int .i64 pid, .int .i64 s] w fun e w' => e = .returned (.bool false) ∧ w = w' := by
  have HT := Aside0.mk h
  have HP := Aside0.mk hp
  clear h hp
  go_enter Tryd.func16, Tryd.ntmps16
  go_wp2_with (go_at_call 35; (with_reducible refine (liv_ptr HT.out pid HP.out).mono ?_); rintro e w1 ⟨rfl, rfl⟩; rw [hl]; simp only [ptr, Bool.false_eq_true, if_false])
  go_ret
  exact ⟨rfl, rfl⟩
set_option maxHeartbeats 4000000 in
set_option maxRecDepth 100000 in
theorem send_ign (h : TV w base g m n D B v f last ends) (pid s : Int) (r : Pr) (hp : (Lit.int .i64 pid).wf = true) (hf : f pid = some r) (hlv : r.live = true) (hs1 : isg s = true) (h1 : hs r.ign s = true) :
    Calls Tryd.prog 16 #[.pointer (some ⟨g, 0, none⟩), .int .i64 pid, .int .i64 s] w fun e w' => e = .returned (.bool true) ∧ Below w.heap.size w w' := by
  have HT := Aside0.mk h
  have HP := Aside0.mk hp
  have HB := Aside0.mk (Below.refl w.heap.size w)
  have hl : liv f pid = true := by unfold liv; rw [hf]; exact hlv
  have HS := Aside0.mk hs1
  have HBS := Aside0.mk (show base ≤ w.heap.size from Nat.le_trans h.bg (Nat.le_of_lt (blk_lt h.hg)))
  have pv := h.yes pid r hf
  have HI := Aside0.mk pv.ign
  have HC := Aside0.mk pv.ca
  have HN := Aside0.mk pv.pen
  have HF := Aside0.mk hf
  have c3 : w.cell? ⟨B pid, 3, none⟩ = some (.int .u32 (r.ign : Int)) := (blk_cell pv.blk 3).trans rfl
  have c4 : w.cell? ⟨B pid, 4, none⟩ = some (.int .u32 (r.ca : Int)) := (blk_cell pv.blk 4).trans rfl
  have c5 : w.cell? ⟨B pid, 5, none⟩ = some (.int .u32 (r.pen : Int)) := (blk_cell pv.blk 5).trans rfl
  have f5 := blk_frozen pv.blk 5
  have H1 := Aside0.mk h1
  clear h1
  clear h hp pv hs1 hf
  go_enter Tryd.func16, Tryd.ntmps16
  go_wp2_with (first
    | (go_at_call 35; (with_reducible refine (liv_ptr HT.out pid HP.out).mono ?_); rintro e w1 ⟨rfl, rfl⟩; rw [hl]; simp only [ptr, if_true])
    | (go_at_call 48; (with_reducible refine (is_sg s _).mono ?_); rintro e w2 ⟨rfl, hB⟩; rw [HS.out]; have n0 := Aside0.mk (HT.out.below hB); have n1 := Aside0.mk (below_trans HB.out (below_sub hB HB.out.size)); clear hB HB HT; have HT := n0; have HB := n1; clear n0 n1; clear c3 c4 c5 f5; have c3 := (blk_cell (HT.out.yes pid r HF.out).blk 3).trans rfl; have c4 := (blk_cell (HT.out.yes pid r HF.out).blk 4).trans rfl; have c5 := (blk_cell (HT.out.yes pid r HF.out).blk 5).trans rfl; have f5 := blk_frozen (HT.out.yes pid r HF.out).blk 5)
    | (go_at_call 49; (with_reducible refine (has_any r.ign s _ HI.out).mono ?_); rintro e w3 ⟨rfl, hB⟩; rw [H1.out]; have n0 := Aside0.mk (HT.out.below hB); have n1 := Aside0.mk (below_trans HB.out (below_sub hB HB.out.size)); clear hB HB HT; have HT := n0; have HB := n1; clear n0 n1; clear c3 c4 c5 f5; have c3 := (blk_cell (HT.out.yes pid r HF.out).blk 3).trans rfl; have c4 := (blk_cell (HT.out.yes pid r HF.out).blk 4).trans rfl; have c5 := (blk_cell (HT.out.yes pid r HF.out).blk 5).trans rfl; have f5 := blk_frozen (HT.out.yes pid r HF.out).blk 5))
  go_ret
  exact ⟨rfl, HB.out⟩
set_option maxHeartbeats 4000000 in
set_option maxRecDepth 100000 in
theorem send_ca (h : TV w base g m n D B v f last ends) (pid s : Int) (r : Pr) (hp : (Lit.int .i64 pid).wf = true) (hf : f pid = some r) (hlv : r.live = true) (hs1 : isg s = true) (h1 : hs r.ign s = false) (h2 : hs r.ca s = true) :
    Calls Tryd.prog 16 #[.pointer (some ⟨g, 0, none⟩), .int .i64 pid, .int .i64 s] w fun e w' => e = .returned (.bool true) ∧ TW w' base g (upd f pid (some { r with pen := wth r.pen s })) last ends ∧ Below base w w' := by
  have HT := Aside0.mk h
  have HP := Aside0.mk hp
  have HB := Aside0.mk (Below.refl w.heap.size w)
  have hl : liv f pid = true := by unfold liv; rw [hf]; exact hlv
  have HS := Aside0.mk hs1
  have HBS := Aside0.mk (show base ≤ w.heap.size from Nat.le_trans h.bg (Nat.le_of_lt (blk_lt h.hg)))
  have pv := h.yes pid r hf
  have HI := Aside0.mk pv.ign
  have HC := Aside0.mk pv.ca
  have HN := Aside0.mk pv.pen
  have HF := Aside0.mk hf
  have c3 : w.cell? ⟨B pid, 3, none⟩ = some (.int .u32 (r.ign : Int)) := (blk_cell pv.blk 3).trans rfl
  have c4 : w.cell? ⟨B pid, 4, none⟩ = some (.int .u32 (r.ca : Int)) := (blk_cell pv.blk 4).trans rfl
  have c5 : w.cell? ⟨B pid, 5, none⟩ = some (.int .u32 (r.pen : Int)) := (blk_cell pv.blk 5).trans rfl
  have f5 := blk_frozen pv.blk 5
  have H1 := Aside0.mk h1
  have H2 := Aside0.mk h2
  clear h1 h2
  clear h hp pv hs1 hf
  go_enter Tryd.func16, Tryd.ntmps16
  go_wp2_with (first
    | (go_at_call 35; (with_reducible refine (liv_ptr HT.out pid HP.out).mono ?_); rintro e w1 ⟨rfl, rfl⟩; rw [hl]; simp only [ptr, if_true])
    | (go_at_call 48; (with_reducible refine (is_sg s _).mono ?_); rintro e w2 ⟨rfl, hB⟩; rw [HS.out]; have n0 := Aside0.mk (HT.out.below hB); have n1 := Aside0.mk (below_trans HB.out (below_sub hB HB.out.size)); clear hB HB HT; have HT := n0; have HB := n1; clear n0 n1; clear c3 c4 c5 f5; have c3 := (blk_cell (HT.out.yes pid r HF.out).blk 3).trans rfl; have c4 := (blk_cell (HT.out.yes pid r HF.out).blk 4).trans rfl; have c5 := (blk_cell (HT.out.yes pid r HF.out).blk 5).trans rfl; have f5 := blk_frozen (HT.out.yes pid r HF.out).blk 5)
    | (go_at_call 49; (with_reducible refine (has_any r.ign s _ HI.out).mono ?_); rintro e w3 ⟨rfl, hB⟩; rw [H1.out]; have n0 := Aside0.mk (HT.out.below hB); have n1 := Aside0.mk (below_trans HB.out (below_sub hB HB.out.size)); clear hB HB HT; have HT := n0; have HB := n1; clear n0 n1; clear c3 c4 c5 f5; have c3 := (blk_cell (HT.out.yes pid r HF.out).blk 3).trans rfl; have c4 := (blk_cell (HT.out.yes pid r HF.out).blk 4).trans rfl; have c5 := (blk_cell (HT.out.yes pid r HF.out).blk 5).trans rfl; have f5 := blk_frozen (HT.out.yes pid r HF.out).blk 5)
    | (go_at_call 49; (with_reducible refine (has_any r.ca s _ HC.out).mono ?_); rintro e w4 ⟨rfl, hB⟩; rw [H2.out]; have n0 := Aside0.mk (HT.out.below hB); have n1 := Aside0.mk (below_trans HB.out (below_sub hB HB.out.size)); clear hB HB HT; have HT := n0; have HB := n1; clear n0 n1; clear c3 c4 c5 f5; have c3 := (blk_cell (HT.out.yes pid r HF.out).blk 3).trans rfl; have c4 := (blk_cell (HT.out.yes pid r HF.out).blk 4).trans rfl; have c5 := (blk_cell (HT.out.yes pid r HF.out).blk 5).trans rfl; have f5 := blk_frozen (HT.out.yes pid r HF.out).blk 5)
    | (go_at_call 34; (with_reducible refine (with_any r.pen s _ HN.out).mono ?_); rintro e w5 ⟨rfl, hB⟩; have n0 := Aside0.mk (HT.out.below hB); have n1 := Aside0.mk (below_trans HB.out (below_sub hB HB.out.size)); clear hB HB HT; have HT := n0; have HB := n1; clear n0 n1; clear c3 c4 c5 f5; have c3 := (blk_cell (HT.out.yes pid r HF.out).blk 3).trans rfl; have c4 := (blk_cell (HT.out.yes pid r HF.out).blk 4).trans rfl; have c5 := (blk_cell (HT.out.yes pid r HF.out).blk 5).trans rfl; have f5 := blk_frozen (HT.out.yes pid r HF.out).blk 5))
  go_ret
  have pv := HT.out.yes pid r HF.out
  exact ⟨rfl, ⟨_, _, _, _, _, HT.out.put (r' := { r with pen := wth r.pen s }) (j := 5) (u := .int .u32 ((wth r.pen s : Nat) : Int)) HF.out rfl pv.par pv.ign pv.ca (wth_lt s pv.pen)⟩, (below_sub HB.out HBS.out).setCell (p := ⟨B pid, 5, none⟩) pv.low _⟩
set_option maxHeartbeats 4000000 in
set_option maxRecDepth 100000 in
theorem send_mild (h : TV w base g m n D B v f last ends) (pid s : Int) (r : Pr) (hp : (Lit.int .i64 pid).wf = true) (hf : f pid = some r) (hlv : r.live = true) (hs1 : isg s = true) (h1 : hs r.ign s = false) (h2 : hs r.ca s = false) (h3 : md s = true) :
    Calls Tryd.prog 16 #[.pointer (some ⟨g, 0, none⟩), .int .i64 pid, .int .i64 s] w fun e w' => e = .returned (.bool true) ∧ Below w.heap.size w w' := by
  have HT := Aside0.mk h
  have HP := Aside0.mk hp
  have HB := Aside0.mk (Below.refl w.heap.size w)
  have hl : liv f pid = true := by unfold liv; rw [hf]; exact hlv
  have HS := Aside0.mk hs1
  have HBS := Aside0.mk (show base ≤ w.heap.size from Nat.le_trans h.bg (Nat.le_of_lt (blk_lt h.hg)))
  have pv := h.yes pid r hf
  have HI := Aside0.mk pv.ign
  have HC := Aside0.mk pv.ca
  have HN := Aside0.mk pv.pen
  have HF := Aside0.mk hf
  have c3 : w.cell? ⟨B pid, 3, none⟩ = some (.int .u32 (r.ign : Int)) := (blk_cell pv.blk 3).trans rfl
  have c4 : w.cell? ⟨B pid, 4, none⟩ = some (.int .u32 (r.ca : Int)) := (blk_cell pv.blk 4).trans rfl
  have c5 : w.cell? ⟨B pid, 5, none⟩ = some (.int .u32 (r.pen : Int)) := (blk_cell pv.blk 5).trans rfl
  have f5 := blk_frozen pv.blk 5
  have H1 := Aside0.mk h1
  have H2 := Aside0.mk h2
  have HM := Aside0.mk (show mild s = true from h3)
  clear h1 h2 h3
  clear h hp pv hs1 hf
  go_enter Tryd.func16, Tryd.ntmps16
  go_wp2_with (first
    | (go_at_call 35; (with_reducible refine (liv_ptr HT.out pid HP.out).mono ?_); rintro e w1 ⟨rfl, rfl⟩; rw [hl]; simp only [ptr, if_true])
    | (go_at_call 48; (with_reducible refine (is_sg s _).mono ?_); rintro e w2 ⟨rfl, hB⟩; rw [HS.out]; have n0 := Aside0.mk (HT.out.below hB); have n1 := Aside0.mk (below_trans HB.out (below_sub hB HB.out.size)); clear hB HB HT; have HT := n0; have HB := n1; clear n0 n1; clear c3 c4 c5 f5; have c3 := (blk_cell (HT.out.yes pid r HF.out).blk 3).trans rfl; have c4 := (blk_cell (HT.out.yes pid r HF.out).blk 4).trans rfl; have c5 := (blk_cell (HT.out.yes pid r HF.out).blk 5).trans rfl; have f5 := blk_frozen (HT.out.yes pid r HF.out).blk 5)
    | (go_at_call 49; (with_reducible refine (has_any r.ign s _ HI.out).mono ?_); rintro e w3 ⟨rfl, hB⟩; rw [H1.out]; have n0 := Aside0.mk (HT.out.below hB); have n1 := Aside0.mk (below_trans HB.out (below_sub hB HB.out.size)); clear hB HB HT; have HT := n0; have HB := n1; clear n0 n1; clear c3 c4 c5 f5; have c3 := (blk_cell (HT.out.yes pid r HF.out).blk 3).trans rfl; have c4 := (blk_cell (HT.out.yes pid r HF.out).blk 4).trans rfl; have c5 := (blk_cell (HT.out.yes pid r HF.out).blk 5).trans rfl; have f5 := blk_frozen (HT.out.yes pid r HF.out).blk 5)
    | (go_at_call 49; (with_reducible refine (has_any r.ca s _ HC.out).mono ?_); rintro e w4 ⟨rfl, hB⟩; rw [H2.out]; have n0 := Aside0.mk (HT.out.below hB); have n1 := Aside0.mk (below_trans HB.out (below_sub hB HB.out.size)); clear hB HB HT; have HT := n0; have HB := n1; clear n0 n1; clear c3 c4 c5 f5; have c3 := (blk_cell (HT.out.yes pid r HF.out).blk 3).trans rfl; have c4 := (blk_cell (HT.out.yes pid r HF.out).blk 4).trans rfl; have c5 := (blk_cell (HT.out.yes pid r HF.out).blk 5).trans rfl; have f5 := blk_frozen (HT.out.yes pid r HF.out).blk 5)
    | (go_at_call 50; (with_reducible refine (smild_any s _).mono ?_); rintro e w5 ⟨rfl, hB⟩; rw [HM.out]; have n0 := Aside0.mk (HT.out.below hB); have n1 := Aside0.mk (below_trans HB.out (below_sub hB HB.out.size)); clear hB HB HT; have HT := n0; have HB := n1; clear n0 n1; clear c3 c4 c5 f5; have c3 := (blk_cell (HT.out.yes pid r HF.out).blk 3).trans rfl; have c4 := (blk_cell (HT.out.yes pid r HF.out).blk 4).trans rfl; have c5 := (blk_cell (HT.out.yes pid r HF.out).blk 5).trans rfl; have f5 := blk_frozen (HT.out.yes pid r HF.out).blk 5))
  go_ret
  exact ⟨rfl, HB.out⟩
set_option maxHeartbeats 4000000 in
set_option maxRecDepth 100000 in
theorem send_end (h : TV w base g m n D B v f last ends) (pid s : Int) (r : Pr) (hp : (Lit.int .i64 pid).wf = true) (hf : f pid = some r) (hlv : r.live = true) (hs1 : isg s = true) (h1 : hs r.ign s = false) (h2 : hs r.ca s = false) (h3 : md s = false) (hen : ends.length ≤ 1000000) :
    Calls Tryd.prog 16 #[.pointer (some ⟨g, 0, none⟩), .int .i64 pid, .int .i64 s] w fun e w' => e = .returned (.bool true) ∧ TW w' base g (endd f pid (128 + s)) last (ends ++ [(pid, 128 + s)]) ∧ Below base w w' := by
  have HT := Aside0.mk h
  have HP := Aside0.mk hp
  have HB := Aside0.mk (Below.refl w.heap.size w)
  have hl : liv f pid = true := by unfold liv; rw [hf]; exact hlv
  have HS := Aside0.mk hs1
  have HBS := Aside0.mk (show base ≤ w.heap.size from Nat.le_trans h.bg (Nat.le_of_lt (blk_lt h.hg)))
  have pv := h.yes pid r hf
  have HI := Aside0.mk pv.ign
  have HC := Aside0.mk pv.ca
  have HN := Aside0.mk pv.pen
  have HF := Aside0.mk hf
  have c3 : w.cell? ⟨B pid, 3, none⟩ = some (.int .u32 (r.ign : Int)) := (blk_cell pv.blk 3).trans rfl
  have c4 : w.cell? ⟨B pid, 4, none⟩ = some (.int .u32 (r.ca : Int)) := (blk_cell pv.blk 4).trans rfl
  have c5 : w.cell? ⟨B pid, 5, none⟩ = some (.int .u32 (r.pen : Int)) := (blk_cell pv.blk 5).trans rfl
  have f5 := blk_frozen pv.blk 5
  have H1 := Aside0.mk h1
  have H2 := Aside0.mk h2
  have HM := Aside0.mk (show mild s = false from h3)
  have HEN := Aside0.mk hen
  have H255 := Aside0.mk (and_255 s hs1)
  have hw : wrap64 (128 + s) = 128 + s := by have := isg_iff.1 hs1; unfold wrap64; omega
  clear h1 h2 h3 hen
  clear h hp pv hs1 hf
  go_enter Tryd.func16, Tryd.ntmps16
  go_wp2_with (first
    | (go_at_call 35; (with_reducible refine (liv_ptr HT.out pid HP.out).mono ?_); rintro e w1 ⟨rfl, rfl⟩; rw [hl]; simp only [ptr, if_true])
    | (go_at_call 48; (with_reducible refine (is_sg s _).mono ?_); rintro e w2 ⟨rfl, hB⟩; rw [HS.out]; have n0 := Aside0.mk (HT.out.below hB); have n1 := Aside0.mk (below_trans HB.out (below_sub hB HB.out.size)); clear hB HB HT; have HT := n0; have HB := n1; clear n0 n1; clear c3 c4 c5 f5; have c3 := (blk_cell (HT.out.yes pid r HF.out).blk 3).trans rfl; have c4 := (blk_cell (HT.out.yes pid r HF.out).blk 4).trans rfl; have c5 := (blk_cell (HT.out.yes pid r HF.out).blk 5).trans rfl; have f5 := blk_frozen (HT.out.yes pid r HF.out).blk 5)
    | (go_at_call 49; (with_reducible refine (has_any r.ign s _ HI.out).mono ?_); rintro e w3 ⟨rfl, hB⟩; rw [H1.out]; have n0 := Aside0.mk (HT.out.below hB); have n1 := Aside0.mk (below_trans HB.out (below_sub hB HB.out.size)); clear hB HB HT; have HT := n0; have HB := n1; clear n0 n1; clear c3 c4 c5 f5; have c3 := (blk_cell (HT.out.yes pid r HF.out).blk 3).trans rfl; have c4 := (blk_cell (HT.out.yes pid r HF.out).blk 4).trans rfl; have c5 := (blk_cell (HT.out.yes pid r HF.out).blk 5).trans rfl; have f5 := blk_frozen (HT.out.yes pid r HF.out).blk 5)
    | (go_at_call 49; (with_reducible refine (has_any r.ca s _ HC.out).mono ?_); rintro e w4 ⟨rfl, hB⟩; rw [H2.out]; have n0 := Aside0.mk (HT.out.below hB); have n1 := Aside0.mk (below_trans HB.out (below_sub hB HB.out.size)); clear hB HB HT; have HT := n0; have HB := n1; clear n0 n1; clear c3 c4 c5 f5; have c3 := (blk_cell (HT.out.yes pid r HF.out).blk 3).trans rfl; have c4 := (blk_cell (HT.out.yes pid r HF.out).blk 4).trans rfl; have c5 := (blk_cell (HT.out.yes pid r HF.out).blk 5).trans rfl; have f5 := blk_frozen (HT.out.yes pid r HF.out).blk 5)
    | (go_at_call 50; (with_reducible refine (smild_any s _).mono ?_); rintro e w5 ⟨rfl, hB⟩; rw [HM.out]; have n0 := Aside0.mk (HT.out.below hB); have n1 := Aside0.mk (below_trans HB.out (below_sub hB HB.out.size)); clear hB HB HT; have HT := n0; have HB := n1; clear n0 n1; clear c3 c4 c5 f5; have c3 := (blk_cell (HT.out.yes pid r HF.out).blk 3).trans rfl; have c4 := (blk_cell (HT.out.yes pid r HF.out).blk 4).trans rfl; have c5 := (blk_cell (HT.out.yes pid r HF.out).blk 5).trans rfl; have f5 := blk_frozen (HT.out.yes pid r HF.out).blk 5)
    | (go_at_call 9; (with_reducible refine (exit_any HT.out pid (128 + s) r HP.out HF.out hlv HEN.out).mono ?_); rintro e w6 ⟨rfl, hT, hB⟩; have HTT := Aside0.mk hT; have HBB := Aside0.mk ((below_sub HB.out HBS.out).trans hB); clear hT hB))
  go_ret
  have T := HTT.out
  rw [H255.out] at T
  exact ⟨rfl, T, HBB.out⟩
end
end Go.Proofs.YtbgodajbdbgdfaaDoor.Kern
