/- sig: Number, Name, Cond of anything. -/
import Derived.Test.YtdglcnchdhojnaaDoorSigWalk
namespace Go.Proofs.YtdglcnchdhojnaaDoor.Sig
open Go.RowKit Go.Proofs.YtdglcnchdhojnaaDoorW.PrintWords Go.Proofs.YtdglcnchdhojnaaDoorW.PrintLast Go.Proofs.YtdglcnchdhojnaaDoor.R Go.Proofs.YtdglcnchdhojnaaDoor.Num
set_option linter.unusedVariables false
set_option linter.unusedSimpArgs false
theorem atoi_dg (j : Nat) (h1 : 1 ≤ j) (h2 : j ≤ 31) : Lib.atoiAll (dg j).data.toList = .ok (j : Int) := by
  rw [dg_tab j h1 h2]
  have key : ∀ i : Fin 31, (match Lib.atoiAll (dgT.getD (i.val + 1) ByteArray.empty).data.toList with
    | .ok v => v == ((i.val + 1 : Nat) : Int)
    | _ => false) = true := by decide +kernel
  have h := key ⟨j - 1, by omega⟩
  rw [show j - 1 + 1 = j by omega] at h
  split at h
  · rename_i v hv
    rw [hv, beq_iff_eq.1 h]
  · cases h
theorem itoa_dg (v : Int) (h1 : 1 ≤ v) : (⟨(Lib.itoa v).toArray⟩ : ByteArray) = dg v.toNat := by
  unfold dg Lib.itoa
  rw [if_neg (by omega)]
theorem number_any (t : ByteArray) (w : World) (hs : t.size ≤ 281474976710656) (hg : Gs w) :
    Calls Tryd.prog 24 #[.string t] w fun e w' => e = .returned (.tuple #[.int .i64 (num t), .bool (decide (0 < num t))]) ∧ Below w.heap.size w w' := by
  by_cases hn : ∃ j, 1 ≤ j ∧ j ≤ 31 ∧ t = nm j
  · obtain ⟨j, h1, h2, ht⟩ := hn
    have e := (num_name j h1 h2).1
    rw [← ht] at e
    have d : decide (0 < num t) = true := decide_eq_true (by rw [e]; omega)
    rw [d]
    exact number_idx t w j h1 h2 ht hg
  · have hne : ∀ j, 1 ≤ j → j ≤ 31 → t ≠ nm j := fun j h1 h2 e => hn ⟨j, h1, h2, e⟩
    have hx := idx_le hne
    have zero : (∀ j, 1 ≤ j → j ≤ 31 → t ≠ dg j) → num t = 0 := num_zero hne
    cases ha : Lib.atoiAll t.data.toList
    · rename_i v
      refine (number_ok t w hs _ v rfl hx hg ha _ rfl _ _ rfl rfl).mono fun e w' h => ⟨?_, h.2⟩
      have he := h.1
      cases hb : (decide (0 < v) && decide (v < 32)) && ((⟨(Lib.itoa v).toArray⟩ : ByteArray).toList == t.toList) with
      | true =>
        rw [hb, if_pos rfl] at he
        rw [Bool.and_eq_true, Bool.and_eq_true] at hb
        have b1 := of_decide_eq_true hb.1.1
        have b2 := of_decide_eq_true hb.1.2
        have ht : dg v.toNat = t := by rw [← itoa_dg v (by omega)]; exact eq_toList.1 (beq_iff_eq.1 hb.2)
        have hnum : num t = v := by rw [← ht, (num_dg v.toNat (by omega) (by omega)).1]; omega
        rw [he, hnum, decide_eq_true b1]
      | false =>
        rw [hb, if_neg (by decide)] at he
        have hz : num t = 0 := zero (fun j h1 h2 e2 => by
          subst e2
          have hv : v = (j : Int) := by
            have := atoi_dg j h1 h2
            rw [ha] at this
            exact Lib.NumEnd.ok.inj this
          subst hv
          rw [itoa_dg (j : Int) (by omega), Int.toNat_natCast, decide_eq_true (show (0 : Int) < j by omega), decide_eq_true (show (j : Int) < 32 by omega)] at hb
          simp at hb)
        rw [he, hz]
        rfl
    · have hz : num t = 0 := zero (fun j h1 h2 e2 => by
        subst e2
        rw [atoi_dg j h1 h2] at ha
        cases ha)
      rw [hz]
      exact number_err t w hs _ rfl hx hg (.inl ha)
    · have hz : num t = 0 := zero (fun j h1 h2 e2 => by
        subst e2
        rw [atoi_dg j h1 h2] at ha
        cases ha)
      rw [hz]
      exact number_err t w hs _ rfl hx hg (.inr ha)
set_option maxHeartbeats 2000000 in
set_option maxRecDepth 100000 in
theorem name_any (s : Int) (w : World) (hg : Gs w) : Calls Tryd.prog 29 #[.int .i64 s] w fun e w' => e = .returned (.string (name s)) ∧ Below w.heap.size w w' := by
  have HG := Aside0.mk hg
  clear hg
  by_cases h : 1 ≤ s ∧ s ≤ 31
  · obtain ⟨k, rfl⟩ : ∃ k : Nat, s = (k : Int) := ⟨s.toNat, by omega⟩
    have hn : name (k : Int) = NM.getD k ByteArray.empty := by unfold name; rw [if_pos h, Int.toNat_natCast]; rfl
    have HN := Aside0.mk hn
    have hl : NM.length = 32 := rfl
    have c0 := HG.out.names k (by rw [hl]; omega)
    rw [← hn] at c0
    have hb : (decide (0 < (k : Int)) && decide ((k : Int) < 32)) = true := by rw [decide_eq_true (by omega), decide_eq_true (by omega)]; rfl
    have HB0 := Aside0.mk hb
    have C0 := Aside0.mk c0
    have hi0 : (0 : Int) ≤ (k : Int) := by omega
    have hi1 : (k : Int) < 32 := by omega
    obtain ⟨nx, hnx⟩ : ∃ nx, nx = name (k : Int) := ⟨_, rfl⟩
    rw [← hnx] at C0
    rw [← hnx]
    clear hn hl c0 hb h hnx HN
    go_enter Tryd.func29, Tryd.ntmps29
    go_wp2_with (go_at_call 28; (with_reducible refine (is_any (k : Int) _).mono ?_); rintro e w1 ⟨rfl, hB⟩; rw [HB0.out]; have c0 := pw_cell_below hB C0.out; have HB := Aside0.mk hB; clear hB)
    go_ret
    exact ⟨rfl, HB.out⟩
  · have hn : name s = ⟨#[]⟩ := by unfold name; rw [if_neg h]
    rw [hn]
    have hb : (decide (0 < s) && decide (s < 32)) = false := by
      by_cases h0 : 0 < s
      · rw [decide_eq_false (show ¬ s < 32 by omega), Bool.and_false]
      · rw [decide_eq_false h0, Bool.false_and]
    have HB0 := Aside0.mk hb
    clear hn hb h
    go_enter Tryd.func29, Tryd.ntmps29
    go_wp2_with (go_at_call 28; (with_reducible refine (is_any s _).mono ?_); rintro e w1 ⟨rfl, hB⟩; rw [HB0.out]; have HB := Aside0.mk hB; clear hB)
    go_ret
    exact ⟨rfl, HB.out⟩
end Go.Proofs.YtdglcnchdhojnaaDoor.Sig
