/- sig: Number: its contract. -/
import Derived.Test.YtdglcnchdhojnaaDoorNumWalk
import Derived.Test.YtdglcnchdhojnaaDoorSigRef
import Derived.LaidLaws
namespace Go.Proofs.YtdglcnchdhojnaaDoor.Sig
open Go.RowKit Go.Proofs.YtdglcnchdhojnaaDoorW.PrintWords Go.Proofs.YtdglcnchdhojnaaDoorW.PrintLast Go.Proofs.YtdglcnchdhojnaaDoor.R Go.Proofs.YtdglcnchdhojnaaDoor.Num
set_option linter.unusedVariables false
set_option linter.unusedSimpArgs false
theorem idx_le {t : ByteArray} (h : ∀ j, 1 ≤ j → j ≤ 31 → t ≠ nm j) : Lib.idxOfS (NM.take 32) t ≤ 0 := by
  by_cases h0 : t = nm 0
  · have := Lib.idxOfS_hit NM 32 0 t (by decide) (by decide) h0.symm (fun j hj => absurd hj (Nat.not_lt_zero j))
    rw [this]
    exact Int.le_refl 0
  · have := Lib.idxOfS_miss NM 32 t (fun j hj e => by
      by_cases hj0 : j = 0
      · subst hj0; exact h0 e.symm
      · exact h j (by omega) (by omega) e.symm)
    rw [this]
    decide
theorem num_zero {t : ByteArray} (h : ∀ j, 1 ≤ j → j ≤ 31 → t ≠ nm j) (h2 : ∀ j, 1 ≤ j → j ≤ 31 → t ≠ dg j) : num t = 0 :=
  fnd_none t 31 1 (fun j h1 h3 => ⟨h j h1 (by omega), h2 j h1 (by omega)⟩)
/-- What the variables hold. -/
structure Gs (w : World) : Prop where
  tab : Tab w
  names : ∀ j, j < NM.length → w.cell? ⟨0, j, none⟩ = some (.string (NM.getD j ByteArray.empty))
  syn : ∃ te pe, w.cell? ⟨2, 0, none⟩ = some (.iface te pe)
  rng : ∃ te pe, w.cell? ⟨3, 0, none⟩ = some (.iface te pe)
theorem tab_keep2 {w w' : World} (h : Tab w) (hb : Below w.heap.size w w') : Tab w' := by
  have hg : Tryd.prog.globalNamed "internal/strconv.uint64pow10" = some 4 := by kernel_rfl
  refine tab_below hg h ?_ hb
  by_cases hlt : 4 < w.heap.size
  · exact hlt
  · exfalso
    have h' : Lib.TabIs Tryd.prog w "internal/strconv.uint64pow10" .u64 Lib.pow10Tab := h
    unfold Lib.TabIs World.var? at h'
    rw [hg] at h'
    simp only [Option.bind_some] at h'
    rw [Array.getElem?_eq_none (by omega)] at h'
    cases h'
theorem gs_below {w w' : World} (h : Gs w) (hb : Below w.heap.size w w') : Gs w' where
  tab := tab_keep2 h.tab hb
  names := fun j hj => pw_cell_below hb (h.names j hj)
  syn := by obtain ⟨a, b, e⟩ := h.syn; exact ⟨a, b, pw_cell_below hb e⟩
  rng := by obtain ⟨a, b, e⟩ := h.rng; exact ⟨a, b, pw_cell_below hb e⟩
theorem atoi_below {w w' : World} {e : Nat} (h : w' = w ∨ ∃ t, w' = Lib.bytesWorld w e t) : Below w.heap.size w w' := by
  rcases h with rfl | ⟨t, rfl⟩
  · exact Below.refl _ _
  · exact Lib.bytesWorld_below _ _ _
theorem is_any (v : Int) (w : World) : Calls Tryd.prog 28 #[.int .i64 v] w fun e w' => e = .returned (.bool (decide (0 < v) && decide (v < 32))) ∧ Below w.heap.size w w' := by
  have h : sig_Is.f v = some (decide (0 < v) && decide (v < 32)) := by
    unfold sig_Is.f
    by_cases h0 : v > 0
    · rw [if_pos h0, decide_eq_true (show 0 < v from h0), Bool.true_and]
    · rw [if_neg h0, decide_eq_false (show ¬ 0 < v from h0), Bool.false_and]
  exact (sig_Is.calls v _ w h).mono fun e w' h => ⟨h.1, h.2.below⟩
set_option maxHeartbeats 2000000 in
set_option maxRecDepth 100000 in
theorem number_idx (t : ByteArray) (w : World) (j : Nat) (h1 : 1 ≤ j) (h2 : j ≤ 31) (ht : t = nm j) (hg : Gs w) :
    Calls Tryd.prog 24 #[.string t] w fun e w' => e = .returned (.tuple #[.int .i64 (num t), .bool true]) ∧ Below w.heap.size w w' := by
  obtain ⟨n1, n2⟩ := num_name j h1 h2
  rw [← ht] at n1 n2
  rw [n1]
  have N2 := Aside0.mk n2
  have HG := Aside0.mk hg
  have d0 : decide (0 < (j : Int)) = true := decide_eq_true (by omega)
  clear n1 n2 hg ht
  go_enter Tryd.func24, Tryd.ntmps24
  go_wp2_with (go_at_call 71; (with_reducible refine (Tryd.slices_Index_string 0 0 32 32 NM t _ (by decide) (by decide) (fun i hi => by rw [Nat.zero_add]; exact HG.out.names i hi)).mono ?_); rintro e w1 ⟨rfl, rfl⟩; rw [N2.out])
  go_ret2
  exact ⟨rfl, Below.refl _ _⟩
set_option maxHeartbeats 2000000 in
set_option maxRecDepth 100000 in
theorem number_err (t : ByteArray) (w : World) (hs : t.size ≤ 281474976710656) (x : Int) (hx : Lib.idxOfS (NM.take 32) t = x) (hx0 : x ≤ 0) (hg : Gs w) (he : Lib.atoiAll t.data.toList = .«syntax» ∨ Lib.atoiAll t.data.toList = .range) :
    Calls Tryd.prog 24 #[.string t] w fun e w' => e = .returned (.tuple #[.int .i64 0, .bool false]) ∧ Below w.heap.size w w' := by
  have N2 := Aside0.mk hx
  have HG := Aside0.mk hg
  have HS := Aside0.mk hs
  have d0 : decide (0 < x) = false := decide_eq_false (by omega)
  clear hx hg hx0 hs
  rcases he with he | he
  · have HE := Aside0.mk he
    obtain ⟨te, pe, hc⟩ := HG.out.syn
    have HC := Aside0.mk hc
    clear he hc
    go_enter Tryd.func24, Tryd.ntmps24
    go_wp2_with (first
      | (go_at_call 71; (with_reducible refine (Tryd.slices_Index_string 0 0 32 32 NM t _ (by decide) (by decide) (fun i hi => by rw [Nat.zero_add]; exact HG.out.names i hi)).mono ?_); rintro e w1 ⟨rfl, rfl⟩; rw [N2.out])
      | (go_at_call 72; (with_reducible refine (Tryd.strconv_Atoi_syntax t HS.out HE.out _ _ HC.out (.inr ⟨te, pe, rfl⟩)).mono ?_); rintro e w2 ⟨M, rfl, _, _, hB⟩; have HB := Aside0.mk hB; clear hB))
    go_ret2
    exact ⟨rfl, HB.out⟩
  · have HE := Aside0.mk he
    obtain ⟨te, pe, hc⟩ := HG.out.rng
    have HC := Aside0.mk hc
    clear he hc
    go_enter Tryd.func24, Tryd.ntmps24
    go_wp2_with (first
      | (go_at_call 71; (with_reducible refine (Tryd.slices_Index_string 0 0 32 32 NM t _ (by decide) (by decide) (fun i hi => by rw [Nat.zero_add]; exact HG.out.names i hi)).mono ?_); rintro e w1 ⟨rfl, rfl⟩; rw [N2.out])
      | (go_at_call 72; (with_reducible refine (Tryd.strconv_Atoi_range t HS.out HE.out _ _ HC.out (.inr ⟨te, pe, rfl⟩)).mono ?_); rintro e w2 ⟨M, rfl, _, _, hB⟩; have HB := Aside0.mk hB; clear hB))
    go_ret2
    exact ⟨rfl, HB.out⟩
set_option maxHeartbeats 2000000 in
set_option maxRecDepth 100000 in
theorem number_ok (t : ByteArray) (w : World) (hs : t.size ≤ 281474976710656) (x v : Int) (hx : Lib.idxOfS (NM.take 32) t = x) (hx0 : x ≤ 0) (hg : Gs w) (he : Lib.atoiAll t.data.toList = .ok v) (tx : ByteArray) (htx : tx = ⟨(Lib.itoa v).toArray⟩) (q b : Bool) (hq : (tx.toList == t.toList) = q) (hb : (decide (0 < v) && decide (v < 32)) = b) :
    Calls Tryd.prog 24 #[.string t] w fun e w' => e = .returned (.tuple #[.int .i64 (if (b && q) = true then v else 0), .bool (b && q)]) ∧ Below w.heap.size w w' := by
  obtain ⟨v0, v1⟩ := Lib.atoiAll_bounds he
  have N2 := Aside0.mk hx
  have HG := Aside0.mk hg
  have HS := Aside0.mk (show t.size ≤ 9223372036854775806 by omega)
  have HE := Aside0.mk he
  have HTX := Aside0.mk htx
  have HBB := Aside0.mk hb
  have d0 : decide (0 < x) = false := decide_eq_false (by omega)
  clear hx hg hx0 hs he htx hb
  have HB := Aside0.mk (Below.refl w.heap.size w)
  go_enter Tryd.func24, Tryd.ntmps24
  cases b with
  | false =>
    go_wp2_with (first
      | (go_at_call 71; (with_reducible refine (Tryd.slices_Index_string 0 0 32 32 NM t _ (by decide) (by decide) (fun i hi => by rw [Nat.zero_add]; exact HG.out.names i hi)).mono ?_); rintro e w1 ⟨rfl, rfl⟩; rw [N2.out])
      | (go_at_call 72; (with_reducible refine (Tryd.strconv_Atoi_ok t HS.out v HE.out _).mono ?_); rintro e w2 ⟨rfl, hW⟩; have hB := atoi_below hW; clear hW; have n0 := Aside0.mk (gs_below HG.out hB); have n1 := Aside0.mk (below_trans HB.out (below_sub hB HB.out.size)); clear hB HG HB; have HG := n0; have HB := n1; clear n0 n1)
      | (go_at_call 28; (with_reducible refine (is_any v _).mono ?_); rintro e w3 ⟨rfl, hB⟩; rw [HBB.out]; have n0 := Aside0.mk (gs_below HG.out hB); have n1 := Aside0.mk (below_trans HB.out (below_sub hB HB.out.size)); clear hB HG HB; have HG := n0; have HB := n1; clear n0 n1))
    go_ret2
    exact ⟨rfl, HB.out⟩
  | true =>
    cases q with
    | true =>
      go_wp2_with (first
        | (go_at_call 71; (with_reducible refine (Tryd.slices_Index_string 0 0 32 32 NM t _ (by decide) (by decide) (fun i hi => by rw [Nat.zero_add]; exact HG.out.names i hi)).mono ?_); rintro e w1 ⟨rfl, rfl⟩; rw [N2.out])
        | (go_at_call 72; (with_reducible refine (Tryd.strconv_Atoi_ok t HS.out v HE.out _).mono ?_); rintro e w2 ⟨rfl, hW⟩; have hB := atoi_below hW; clear hW; have n0 := Aside0.mk (gs_below HG.out hB); have n1 := Aside0.mk (below_trans HB.out (below_sub hB HB.out.size)); clear hB HG HB; have HG := n0; have HB := n1; clear n0 n1)
        | (go_at_call 28; (with_reducible refine (is_any v _).mono ?_); rintro e w3 ⟨rfl, hB⟩; rw [HBB.out]; have n0 := Aside0.mk (gs_below HG.out hB); have n1 := Aside0.mk (below_trans HB.out (below_sub hB HB.out.size)); clear hB HG HB; have HG := n0; have HB := n1; clear n0 n1)
        | (go_at_call 73; (with_reducible refine (Tryd.strconv_Itoa v v0 v1 _ HG.out.tab).mono ?_); rintro e w4 ⟨rfl, hW⟩; rw [← HTX.out]; have hB := below_itoa hW; clear hW; have n0 := Aside0.mk (gs_below HG.out hB); have n1 := Aside0.mk (below_trans HB.out (below_sub hB HB.out.size)); clear hB HG HB; have HG := n0; have HB := n1; clear n0 n1))
      go_ret2
      exact ⟨rfl, HB.out⟩
    | false =>
      go_wp2_with (first
        | (go_at_call 71; (with_reducible refine (Tryd.slices_Index_string 0 0 32 32 NM t _ (by decide) (by decide) (fun i hi => by rw [Nat.zero_add]; exact HG.out.names i hi)).mono ?_); rintro e w1 ⟨rfl, rfl⟩; rw [N2.out])
        | (go_at_call 72; (with_reducible refine (Tryd.strconv_Atoi_ok t HS.out v HE.out _).mono ?_); rintro e w2 ⟨rfl, hW⟩; have hB := atoi_below hW; clear hW; have n0 := Aside0.mk (gs_below HG.out hB); have n1 := Aside0.mk (below_trans HB.out (below_sub hB HB.out.size)); clear hB HG HB; have HG := n0; have HB := n1; clear n0 n1)
        | (go_at_call 28; (with_reducible refine (is_any v _).mono ?_); rintro e w3 ⟨rfl, hB⟩; rw [HBB.out]; have n0 := Aside0.mk (gs_below HG.out hB); have n1 := Aside0.mk (below_trans HB.out (below_sub hB HB.out.size)); clear hB HG HB; have HG := n0; have HB := n1; clear n0 n1)
        | (go_at_call 73; (with_reducible refine (Tryd.strconv_Itoa v v0 v1 _ HG.out.tab).mono ?_); rintro e w4 ⟨rfl, hW⟩; rw [← HTX.out]; have hB := below_itoa hW; clear hW; have n0 := Aside0.mk (gs_below HG.out hB); have n1 := Aside0.mk (below_trans HB.out (below_sub hB HB.out.size)); clear hB HG HB; have HG := n0; have HB := n1; clear n0 n1))
      go_ret2
      exact ⟨rfl, HB.out⟩
end Go.Proofs.YtdglcnchdhojnaaDoor.Sig
