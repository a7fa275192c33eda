/- frame: the contracts of the stack's methods, by the reversed list. -/
import Derived.Test.YtkepmbkghmkodaaFramePure
namespace Go.Proofs.Ytkepmbkghmkodaa.Frame
open Go.RowKit Go.Proofs.YtkepmbkghmkodaaW.PrintWords Go.Proofs.YtkepmbkghmkodaaW.PrintLast Go.Proofs.Ytkepmbkghmkodaa.Base Go.Proofs.Ytkepmbkghmkodaa.Seq
set_option linter.unusedVariables false
set_option linter.unusedSimpArgs false
section
variable {P : Program} {ops : Array Oper} {Q : Exit → Act → World → Prop} {S : World → Prop}
def opsAt (ops : Array Oper) (r : List (Nat × Option Tmp × K)) : List Oper := r.filterMap fun x => ops[x.1]?
def lastsB (ops : Array Oper) : List (Nat × Option Tmp × K) → Bool
  | [] => true
  | (i, _, .last) :: r => decide (i < ops.size) && lastsB ops r
  | _ => false
theorem s_tailL : ∀ (r : List (Nat × Option Tmp × K)) {a : Act} {w : World}, lastsB ops r = true → wpList P ops Q (opsAt ops r) a w → wpSeq P ops Q S r a w
  | [], a, w, ht, h => h
  | (i, N, .last) :: r, a, w, ht, h => by
    simp only [lastsB, Bool.and_eq_true, decide_eq_true_eq] at ht
    obtain ⟨hlt, ht⟩ := ht
    have ho : ops[i]? = some ops[i] := Array.getElem?_eq_getElem hlt
    have hd : opsAt ops ((i, N, K.last) :: r) = ops[i] :: opsAt ops r := by
      unfold opsAt
      rw [List.filterMap_cons]
      simp only [ho]
    rw [hd] at h
    unfold wpSeq wpOp
    simp only [ho]
    unfold wpList at h
    split
    · rename_i hw
      simp only [hw, if_true] at h
      exact h.imp (Oper.wp_mono fun a w hk => s_tailL r ht hk) id
    · rename_i hw
      simp only [hw] at h
      exact s_tailL r ht h
  | (i, _, .pure) :: r, a, w, ht, h => by simp [lastsB] at ht
  | (i, _, .held) :: r, a, w, ht, h => by simp [lastsB] at ht
  | (i, _, .one) :: r, a, w, ht, h => by simp [lastsB] at ht
/-- An operation that is ready alone (a call): S is shown behind it. -/
theorem s_oneL {i : Nat} {N : Option Tmp} {r : List (Nat × Option Tmp × K)} {o : Oper} {a : Act} {w : World} (ho : ops[i]? = some o)
    (h : ∀ K : Act → World → Prop, Shut (∀ a' w', S w' → wpSeq P ops Q S r a' w' → K a' w') → wpList P ops (Exit.then K Q) [o] a w) (hw : Region.wanted o (yielded ops a.tmps) = true) : wpSeq P ops Q S ((i, N, .one) :: r) a w := by
  unfold wpSeq wpOp
  simp only [ho, hw, if_true]
  have hK : Shut (∀ a' w', S w' → wpSeq P ops Q S r a' w' → (fun a' w' => (S w → S w') ∧ wpSeq P ops Q S r a' w') a' w') := fun a' w' hS hk => ⟨fun _ => hS, hk⟩
  have h1 := h _ hK
  unfold wpList at h1
  simp only [hw, if_true] at h1
  exact h1
end
abbrev StR (w : World) (base g : Nat) (r : List It) : Prop := St w base g r.reverse
theorem StR_below {w w1 : World} {base g : Nat} {r : List It} (h : StR w base g r) (hb : Below w.heap.size w w1) : StR w1 base g r := by
  obtain ⟨v, hg, h1, hR⟩ := h
  exact ⟨v, blk_below hg hb, h1, Kd.R_below hR hb⟩
theorem cntR_le : ∀ r : List It, cntR r ≤ r.length
  | [] => Nat.le_refl 0
  | x :: r => by
    rw [cntR_cons]
    have := cntR_le r
    simp only [List.length_cons]
    split
    · omega
    · split
      · omega
      · omega
theorem lt_of_find {r : List It} {n : Nat} : (0 ≤ findR isLoop r (n : Int)) ↔ n < cntR r := by
  rw [findR_cut]
  cases hc : cut isLoop r n with
  | none =>
    have := (cut_none_iff r n).1 hc
    constructor
    · intro h; exact absurd h (by decide)
    · intro h; omega
  | some q =>
    obtain ⟨x, r'⟩ := q
    have := (cut_some hc).2
    constructor
    · intro _; omega
    · intro _; exact Int.natCast_nonneg _
set_option maxHeartbeats 1000000 in
set_option maxRecDepth 100000 in
theorem len_any (base g : Nat) (r : List It) (w : World) (h : StR w base g r) :
    Calls Try.prog 32 #[.pointer (some ⟨g, 0, none⟩)] w fun e w' => e = .returned (.int .i64 (r.length : Int)) ∧ w = w' := by
  obtain ⟨v, hg, hb, hR⟩ := h
  obtain ⟨A, c, rfl, hlc, hC⟩ := Kd.R_reads hR
  have c0 : w.cell? ⟨g, 0, none⟩ = some (.slice A r.reverse.length c) := (blk_cell hg 0).trans rfl
  clear hg hR hC hb hlc
  go_enter Try.func32, Try.ntmps32
  go_wp2
  go_ret
  exact ⟨rfl, rfl⟩
set_option maxHeartbeats 1000000 in
set_option maxRecDepth 100000 in
theorem clear_any (base g : Nat) (r : List It) (w : World) (h : StR w base g r) :
    Calls Try.prog 41 #[.pointer (some ⟨g, 0, none⟩)] w fun e w' => e = .returned (.tuple #[]) ∧ StR w' base g [] ∧ Below base w w' := by
  obtain ⟨v, hg, hb, hR⟩ := h
  have c0 : w.cell? ⟨g, 0, none⟩ = some v := (blk_cell hg 0).trans rfl
  have f0 := blk_frozen hg 0
  have HG := Aside0.mk hg
  clear hg hR
  go_enter Try.func41, Try.ntmps41
  go_wp2
  go_end0
  exact ⟨rfl, ⟨_, blk_put HG.out 0 _ rfl, hb, Kd.R_nil _ _ _ _ _⟩, (Below.refl _ _).setCell hb _⟩
set_option maxHeartbeats 1000000 in
set_option maxRecDepth 100000 in
theorem push_any (base g : Nat) (r ys : List It) (A : Option Addr) (m c : Nat) (w : World) (h : StR w base g r) (hr : kIt.C w A m ys) (hl : r.length + m ≤ 4294967296) :
    Calls Try.prog 25 #[.pointer (some ⟨g, 0, none⟩), .slice A m c] w fun e w' => e = .returned (.tuple #[]) ∧ StR w' base g (ys.reverse ++ r) ∧ Below base w w' := by
  obtain ⟨v, hg, hb, hR⟩ := h
  have c0 : w.cell? ⟨g, 0, none⟩ = some v := (blk_cell hg 0).trans rfl
  have f0 := blk_frozen hg 0
  have HG := Aside0.mk hg
  have HR := Aside0.mk hR
  have HC := Aside0.mk hr
  have hbl : base ≤ w.heap.size := by have := blk_lt hg; omega
  clear hg hR hr
  go_enter Try.func25, Try.ntmps25
  go_wp2_with (first | (
    (with_reducible refine gate_dst (N := 10) rfl ?_)
    go_loud (refine R_app kIt flat_it (w0 := w) (W := w) base rfl rfl (.tmp 8) (.tmp 9) 54 60 (default : It).val 232 rfl Try.underlying54 (by kernel_rfl) rfl (by decide) (by decide) v r.reverse ys A m c rfl rfl HR.out HC.out (Below.refl _ _) hbl (by rw [List.length_reverse]; omega) ?_)
    intro v1 w1 hR1 hB hG
    obtain ⟨A1, n1, cp1, rfl⟩ := R_slice3 hR1
    have HR1 := Aside0.mk hR1
    have HB := Aside0.mk hB
    have hg1 : w1.heap[g]? = some (.cells #[v] 56 (0,0)) := blk_grown (w := w) HG.out hG (Kd.R_ne (w := w) HR.out HG.out (by decide))
    have c0 : w1.cell? ⟨g, 0, none⟩ = some v := (blk_cell hg1 0).trans rfl
    have f0 := blk_frozen hg1 0
    have HG1 := Aside0.mk hg1
    clear hR1 hB hG hg1))
  go_end0
  exact ⟨rfl, ⟨_, blk_put HG1.out 0 _ rfl, hb, by rw [show (ys.reverse ++ r).reverse = r.reverse ++ ys by simp]; exact Kd.R_set HR1.out HG1.out (by decide) _ _⟩, HB.out.setCell hb _⟩
set_option maxHeartbeats 1000000 in
set_option maxRecDepth 100000 in
theorem loops_any (base g : Nat) (r : List It) (w : World) (h : StR w base g r) (hl : r.length ≤ 4294967296) :
    Calls Try.prog 26 #[.pointer (some ⟨g, 0, none⟩)] w fun e w' => e = .returned (.int .i64 (cntR r : Int)) ∧ Below w.heap.size w w' := by
  have HS := Aside0.mk h
  have hcl := cntR_le r
  clear h
  go_enter Try.func26, Try.ntmps26
  go_wp2
  go_loopw [3] (fun v3 w' => ∃ k : Nat, k ≤ cntR r ∧ v3 = .int .i64 (k : Int) ∧ Aside0 (Below w.heap.size w w')) (fun v3 _ => cntR r - (intOf v3).toNat)
  case atStart => exact ⟨0, Nat.zero_le _, rfl, ⟨Below.refl _ _⟩⟩
  case round =>
    obtain ⟨k, hk, rfl, HB⟩ := hrel
    have e := Aside0.mk (lt_of_find (r := r) (n := k))
    by_cases hkc : k < cntR r
    · have h0 : decide (0 ≤ findR isLoop r (k : Int)) = true := decide_eq_true (e.out.2 hkc)
      go_wp2_with (go_at_call 80; (with_reducible refine (find_loop base g r.reverse (k : Int) _ (StR_below HS.out HB.out) (by omega) (by omega) (by rw [List.length_reverse]; omega)).mono ?_); rintro e w1 ⟨rfl, hB⟩; rw [List.reverse_reverse]; have n0 := Aside0.mk (below_trans HB.out (below_sub hB HB.out.size)); clear hB HB; have HB := n0; clear n0)
      go_roundw
      case measure => simp [intOf]; omega
      case rel => exact ⟨k + 1, by omega, by go_num, HB⟩
    · have h0 : decide (0 ≤ findR isLoop r (k : Int)) = false := decide_eq_false (fun h => hkc (e.out.1 h))
      go_wp2_with (go_at_call 80; (with_reducible refine (find_loop base g r.reverse (k : Int) _ (StR_below HS.out HB.out) (by omega) (by omega) (by rw [List.length_reverse]; omega)).mono ?_); rintro e w1 ⟨rfl, hB⟩; rw [List.reverse_reverse]; have n0 := Aside0.mk (below_trans HB.out (below_sub hB HB.out.size)); clear hB HB; have HB := n0; clear n0)
      go_ret
      exact ⟨by rw [show k = cntR r by omega]; rfl, HB.out⟩
end Go.Proofs.Ytkepmbkghmkodaa.Frame
