/- frame: the contracts of the stack's methods, by the reversed list. -/
import Derived.Test.YtkepmbkghmkodaaFramePure
import Derived.Test.YtkepmbkghmkodaaSeqMore
namespace Go.Proofs.Ytkepmbkghmkodaa.Frame
open Go.RowKit Go.Proofs.YtkepmbkghmkodaaW.PrintWords Go.Proofs.YtkepmbkghmkodaaW.PrintLast Go.Proofs.Ytkepmbkghmkodaa.Base Go.Proofs.Ytkepmbkghmkodaa.Seq
set_option linter.unusedVariables false
set_option linter.unusedSimpArgs false
abbrev StR (w : World) (base g : Nat) (r : List It) : Prop := St w base g r.reverse
theorem StR_below {w w1 : World} {base g : Nat} {r : List It} (h : StR w base g r) (hb : Below w.heap.size w w1) : StR w1 base g r := by
  obtain ⟨v, hg, h1, hR⟩ := h
  exact ⟨v, blk_below hg hb, h1, Kd.R_below hR hb⟩
/-- What is neither a stack nor an item of it stays. -/
def Keeps (w w' : World) : Prop := ∀ (k : Nat) (cs : Array Value) (t : TypeId), t ≠ 56 → t ≠ 60 → w.heap[k]? = some (.cells cs t (0, 0)) → w'.heap[k]? = some (.cells cs t (0, 0))
theorem keeps_refl (w : World) : Keeps w w := fun _ _ _ _ _ h => h
theorem keeps_below {w w' : World} (h : Below w.heap.size w w') : Keeps w w' := fun _ _ _ _ _ hk => blk_below hk h
theorem keeps_trans {w w1 w2 : World} (h : Keeps w w1) (h' : Keeps w1 w2) : Keeps w w2 := fun k cs t h1 h2 hk => h' k cs t h1 h2 (h k cs t h1 h2 hk)
theorem keeps_over {w w1 w2 : World} {B : Nat} (h : Keeps w w1) (h' : Below B w1 w2) (hB : w.heap.size ≤ B) : Keeps w w2 := fun k cs t h1 h2 hk => (h'.block k (by have := blk_lt hk; omega)).trans (h k cs t h1 h2 hk)
theorem keeps_set {w : World} {g i : Nat} {cs : Array Value} (hg : w.heap[g]? = some (.cells cs 56 (0, 0))) (u : Value) : Keeps w (w.setCell ⟨g, i, none⟩ u) := by
  intro k cs' t h1 h2 hk
  have : k ≠ g := by
    rintro rfl
    rw [hg] at hk
    injection hk with hk
    injection hk with _ hk
    exact h1 hk.symm
  rw [Below.heap_setCell _ _ _ _ this]
  exact hk
theorem keeps_grown {w w1 : World} {base : Nat} {v : Value} {xs : List It} (hR : kIt.R 60 w base ok0 v xs) (hG : w.grownBy w1 v.ownBlock) : Keeps w w1 := fun k cs t h1 h2 hk => blk_grown hk hG (Kd.R_ne hR hk (Ne.symm h2))
theorem R_keeps {w w' : World} {base : Nat} {v : Value} {xs : List It} (h : kIt.R 74 w base ok0 v xs) (hk : Keeps w w') : kIt.R 74 w' base ok0 v xs := by
  refine Kd.R_mono (Kd.R_move (Kd.R_bound h) (fun k ho => ?_)) (fun _ h => h.1)
  obtain ⟨_, _, _, q, hq, cells, hc⟩ := ho
  obtain rfl : q = 74 := by
    rcases List.mem_cons.1 hq with h | h
    · exact h
    · exact absurd h (by simp [kIt])
  rw [hc]
  exact hk k cells _ (by decide) (by decide) hc
theorem cntR_le : ∀ r : List It, cntR r ≤ r.length
  | [] => Nat.le_refl 0
  | x :: r => by
    rw [cntR_cons]
    have := cntR_le r
    simp only [List.length_cons]
    split
    · omega
    · split
      · omega
      · omega
theorem lt_of_find {r : List It} {n : Nat} : (0 ≤ findR isLoop r (n : Int)) ↔ n < cntR r := by
  rw [findR_cut]
  cases hc : cut isLoop r n with
  | none =>
    have := (cut_none_iff r n).1 hc
    constructor
    · intro h; exact absurd h (by decide)
    · intro h; omega
  | some q =>
    obtain ⟨x, r'⟩ := q
    have := (cut_some hc).2
    constructor
    · intro _; omega
    · intro _; exact Int.natCast_nonneg _
set_option maxHeartbeats 1000000 in
set_option maxRecDepth 100000 in
theorem len_any (base g : Nat) (r : List It) (w : World) (h : StR w base g r) :
    Calls Try.prog 32 #[.pointer (some ⟨g, 0, none⟩)] w fun e w' => e = .returned (.int .i64 (r.length : Int)) ∧ w = w' := by
  obtain ⟨v, hg, hb, hR⟩ := h
  obtain ⟨A, c, rfl, hlc, hC⟩ := Kd.R_reads hR
  have c0 : w.cell? ⟨g, 0, none⟩ = some (.slice A r.reverse.length c) := (blk_cell hg 0).trans rfl
  clear hg hR hC hb hlc
  go_enter Try.func32, Try.ntmps32
  go_wp2
  go_ret
  exact ⟨rfl, rfl⟩
set_option maxHeartbeats 1000000 in
set_option maxRecDepth 100000 in
theorem clear_any (base g : Nat) (r : List It) (w : World) (h : StR w base g r) :
    Calls Try.prog 41 #[.pointer (some ⟨g, 0, none⟩)] w fun e w' => e = .returned (.tuple #[]) ∧ StR w' base g [] ∧ Below base w w' ∧ Keeps w w' := by
  obtain ⟨v, hg, hb, hR⟩ := h
  have c0 : w.cell? ⟨g, 0, none⟩ = some v := (blk_cell hg 0).trans rfl
  have f0 := blk_frozen hg 0
  have HG := Aside0.mk hg
  clear hg hR
  go_enter Try.func41, Try.ntmps41
  go_wp2
  go_end0
  exact ⟨rfl, ⟨_, blk_put HG.out 0 _ rfl, hb, Kd.R_nil _ _ _ _ _⟩, (Below.refl _ _).setCell hb _, keeps_set HG.out _⟩
set_option maxHeartbeats 1000000 in
set_option maxRecDepth 100000 in
theorem push_any (base g : Nat) (r ys : List It) (A : Option Addr) (m c : Nat) (w : World) (h : StR w base g r) (hr : kIt.C w A m ys) (hl : r.length + m ≤ 4294967296) :
    Calls Try.prog 25 #[.pointer (some ⟨g, 0, none⟩), .slice A m c] w fun e w' => e = .returned (.tuple #[]) ∧ StR w' base g (ys.reverse ++ r) ∧ Below base w w' ∧ Keeps w w' := by
  obtain ⟨v, hg, hb, hR⟩ := h
  have c0 : w.cell? ⟨g, 0, none⟩ = some v := (blk_cell hg 0).trans rfl
  have f0 := blk_frozen hg 0
  have HG := Aside0.mk hg
  have HR := Aside0.mk hR
  have HC := Aside0.mk hr
  have hbl : base ≤ w.heap.size := by have := blk_lt hg; omega
  clear hg hR hr
  go_enter Try.func25, Try.ntmps25
  go_wp2_with (first | (
    (with_reducible refine gate_dst (N := 10) rfl ?_)
    go_loud (refine R_app kIt flat_it (w0 := w) (W := w) base rfl rfl (.tmp 8) (.tmp 9) 54 60 (default : It).val 232 rfl Try.underlying54 (by kernel_rfl) rfl (by decide) (by decide) v r.reverse ys A m c rfl rfl HR.out HC.out (Below.refl _ _) hbl (by rw [List.length_reverse]; omega) ?_)
    intro v1 w1 hR1 hB hG
    obtain ⟨A1, n1, cp1, rfl⟩ := R_slice3 hR1
    have HR1 := Aside0.mk hR1
    have HB := Aside0.mk hB
    have hg1 : w1.heap[g]? = some (.cells #[v] 56 (0,0)) := blk_grown (w := w) HG.out hG (Kd.R_ne (w := w) HR.out HG.out (by decide))
    have c0 : w1.cell? ⟨g, 0, none⟩ = some v := (blk_cell hg1 0).trans rfl
    have f0 := blk_frozen hg1 0
    have HG1 := Aside0.mk hg1
    have HKP := Aside0.mk (keeps_grown HR.out hG)
    clear hR1 hB hG hg1))
  go_end0
  exact ⟨rfl, ⟨_, blk_put HG1.out 0 _ rfl, hb, by rw [show (ys.reverse ++ r).reverse = r.reverse ++ ys by simp]; exact Kd.R_set HR1.out HG1.out (by decide) _ _⟩, HB.out.setCell hb _, keeps_trans HKP.out (keeps_set HG1.out _)⟩
set_option maxHeartbeats 1000000 in
set_option maxRecDepth 100000 in
theorem loops_any (base g : Nat) (r : List It) (w : World) (h : StR w base g r) (hl : r.length ≤ 4294967296) :
    Calls Try.prog 26 #[.pointer (some ⟨g, 0, none⟩)] w fun e w' => e = .returned (.int .i64 (cntR r : Int)) ∧ Below w.heap.size w w' := by
  have HS := Aside0.mk h
  have hcl := cntR_le r
  clear h
  go_enter Try.func26, Try.ntmps26
  go_wp2
  go_loopw [3] (fun v3 w' => ∃ k : Nat, k ≤ cntR r ∧ v3 = .int .i64 (k : Int) ∧ Aside0 (Below w.heap.size w w')) (fun v3 _ => cntR r - (intOf v3).toNat)
  case atStart => exact ⟨0, Nat.zero_le _, rfl, ⟨Below.refl _ _⟩⟩
  case round =>
    obtain ⟨k, hk, rfl, HB⟩ := hrel
    have e := Aside0.mk (lt_of_find (r := r) (n := k))
    by_cases hkc : k < cntR r
    · have h0 : decide (0 ≤ findR isLoop r (k : Int)) = true := decide_eq_true (e.out.2 hkc)
      go_wp2_with (go_at_call 80; (with_reducible refine (find_loop base g r.reverse (k : Int) _ (StR_below HS.out HB.out) (by omega) (by omega) (by rw [List.length_reverse]; omega)).mono ?_); rintro e w1 ⟨rfl, hB⟩; rw [List.reverse_reverse]; have n0 := Aside0.mk (below_trans HB.out (below_sub hB HB.out.size)); clear hB HB; have HB := n0; clear n0)
      go_roundw
      case measure => simp [intOf]; omega
      case rel => exact ⟨k + 1, by omega, by go_num, HB⟩
    · have h0 : decide (0 ≤ findR isLoop r (k : Int)) = false := decide_eq_false (fun h => hkc (e.out.1 h))
      go_wp2_with (go_at_call 80; (with_reducible refine (find_loop base g r.reverse (k : Int) _ (StR_below HS.out HB.out) (by omega) (by omega) (by rw [List.length_reverse]; omega)).mono ?_); rintro e w1 ⟨rfl, hB⟩; rw [List.reverse_reverse]; have n0 := Aside0.mk (below_trans HB.out (below_sub hB HB.out.size)); clear hB HB; have HB := n0; clear n0)
      go_ret
      exact ⟨by rw [show k = cntR r by omega]; rfl, HB.out⟩
end Go.Proofs.Ytkepmbkghmkodaa.Frame
