/- kern: kernAlive, and the plain part of KernSafe. -/
import Derived.Test.YtbgodajbdbgdfaaDoorProcNew
namespace Go.Proofs.YtbgodajbdbgdfaaDoor.Kern
open Go.RowKit Go.Proofs.YtbgodajbdbgdfaaDoorW.PrintWords Go.Proofs.YtbgodajbdbgdfaaDoorW.PrintLast Go.Proofs.YtbgodajbdbgdfaaDoor.Sig Go.Proofs.YtbgodajbdbgdfaaDoor.Base Go.Proofs.YtbgodajbdbgdfaaDoor.Seq Go.Maps
set_option linter.unusedVariables false
set_option linter.unusedSimpArgs false
theorem flt_zero : flt 0 = 0 := by
  unfold flt
  rw [Nat.zero_and, lst_zero]; rfl
theorem endd_at {f : Tb} {pid st : Int} {r : Pr} (hf : f pid = some r) (hl : liv f r.par = true) : endd f pid st pid = some { r with live := false, status := st } := by
  unfold endd
  rw [hf]
  show (if pid = pid then (if liv f r.par = true then some { r with live := false, status := st } else none) else (f pid).bind (aft pid pid)) = _
  rw [if_pos rfl, if_pos hl]
theorem endd_dead_at {f : Tb} {pid st : Int} {r : Pr} (hf : f pid = some r) : liv (endd f pid st) pid = false := by
  unfold endd
  rw [hf]
  show (match (if pid = pid then (if liv f r.par = true then some { r with live := false, status := st } else none) else (f pid).bind (aft pid pid)) with | some r => r.live | none => false) = false
  rw [if_pos rfl]
  split
  · rename_i x h
    split at h
    · cases h; rfl
    · cases h
  · rfl
theorem endd_other {f : Tb} {pid st q : Int} {r : Pr} (hf : f pid = some r) (hq : q ≠ pid) : endd f pid st q = (f q).bind (aft pid q) := by
  unfold endd
  rw [hf]
  show (if q = pid then _ else (f q).bind (aft pid q)) = _
  rw [if_neg hq]
/-- The chapter's example, step by step. -/
def a1 : Tb := upd (one 0) 2 (some ⟨1, true, 0, 0, 0, 0⟩)
theorem a1_1 : a1 1 = some (p0 0) := rfl
theorem a1_2 : a1 2 = some ⟨1, true, 0, 0, 0, 0⟩ := rfl
theorem a1_liv : liv a1 1 = true := rfl
def a2 : Tb := endd a1 2 143
theorem a2_2 : a2 2 = some ⟨1, false, 143, 0, 0, 0⟩ := endd_at a1_2 a1_liv
theorem a2_1 : a2 1 = some (p0 0) := endd_other (f := a1) a1_2 (by decide)
theorem a2_ch : chB a2 1 2 = true := by
  unfold chB liv
  rw [a2_2, a2_1]; rfl
def a3 : Tb := upd a2 2 none
theorem a3_keys : ∀ q, q ∈ [(1 : Int)] ↔ a3 q ≠ none := by
  intro q
  rw [List.mem_singleton]
  constructor
  · rintro rfl
    show a2 1 ≠ none
    rw [a2_1]; simp
  · intro h
    by_cases e : q = 1
    · exact e
    · exfalso
      apply h
      unfold a3
      by_cases e2 : q = 2
      · subst e2; exact upd_same _ _ _
      · rw [upd_other e2]
        unfold a2
        rw [endd_other (f := a1) a1_2 e2]
        have : a1 q = none := by
          unfold a1
          rw [upd_other e2]
          exact if_neg e
        rw [this]; rfl
theorem new_zero (w : World) (ht : TabB w) : Calls Tryd.prog 6 #[.int .u32 0] w fun e w' => ∃ g, e = .returned (.pointer (some ⟨g, 0, none⟩)) ∧ TW w' w.heap.size g (one 0) 1 [] ∧ Below w.heap.size w w' :=
  (new_any 0 w (by decide) ht).mono fun e w' h => by
    obtain ⟨g, h1, h2, h3⟩ := h
    rw [flt_zero] at h2
    exact ⟨g, h1, h2, h3⟩
set_option maxHeartbeats 4000000 in
set_option maxRecDepth 100000 in
theorem kalive_any (w : World) (ht : TabB w) : Calls Tryd.prog 5 #[] w fun e w' => e = .returned (.bool true) ∧ Below w.heap.size w w' := by
  have HTB := Aside0.mk ht
  have HW1 := Aside0.mk (wf_i64 (x := 1) (by decide) (by decide))
  have HW2 := Aside0.mk (wf_i64 (x := 2) (by decide) (by decide))
  clear ht
  go_enter Tryd.func5, Tryd.ntmps5
  go_upto_region 4 with (go_at_call 6; (with_reducible refine (new_zero _ HTB.out).mono ?_); rintro e w1 ⟨g, rfl, hT, hB⟩; have HT := Aside0.mk hT; have HB := Aside0.mk hB; clear hT hB)
  obtain ⟨m, n, D, B, v, hT⟩ := HT.out
  have HT1 := Aside0.mk hT
  have HSZ := Aside0.mk (show Maps.size D < 64 from Nat.lt_of_le_of_lt hT.own.size_le (by have := hT.cnt; omega))
  clear hT HT
  go_upto_region 5 with (go_at_call 7; go_loud (with_reducible refine (fork_any HT1.out 1 (p0 0) HW1.out rfl rfl (by decide) HSZ.out).mono ?_); rintro e w2 ⟨rfl, hT, hB⟩; have HT := Aside0.mk (show TW w2 w.heap.size g a1 2 [] from hT); have n0 := Aside0.mk (HB.out.trans hB); clear hT hB HB HT1 HSZ; have HB := n0; clear n0)
  obtain ⟨m1, n1, D1, B1, v1, hT⟩ := HT.out
  have HT1 := Aside0.mk hT
  clear hT HT
  go_upto_region 6 with (go_at_call 16; go_loud (with_reducible refine (send_end HT1.out 2 15 ⟨1, true, 0, 0, 0, 0⟩ HW2.out a1_2 rfl (by decide) (by decide) (by decide) (by decide) (by decide)).mono ?_); rintro e w3 ⟨rfl, hT, hB⟩; have HT := Aside0.mk (show TW w3 w.heap.size g a2 2 [(2, 143)] from hT); have n0 := Aside0.mk (HB.out.trans hB); clear hT hB HB HT1; have HB := n0; clear n0)
  obtain ⟨m2, n2, D2, B2, v2, hT⟩ := HT.out
  have HT1 := Aside0.mk hT
  clear hT HT
  go_upto_region 7 with (go_at_call 10; go_loud (with_reducible refine (reap_any HT1.out 1 2 ⟨1, false, 143, 0, 0, 0⟩ HW2.out HW1.out a2_2 rfl a2_ch).mono ?_); rintro e w4 ⟨rfl, hT, hB⟩; have HT := Aside0.mk (show TW w4 w.heap.size g a3 2 [(2, 143)] from hT); have n0 := Aside0.mk (HB.out.trans hB); clear hT hB HB HT1; have HB := n0; clear n0)
  obtain ⟨m3, n3, D3, B3, v3, hT⟩ := HT.out
  have HT1 := Aside0.mk hT
  have hsz : Maps.size D3 = 1 := size_of hT [1] (by decide) a3_keys
  have HSZ := Aside0.mk hsz
  clear hT HT hsz
  go_wp2_with (go_at_call 8; (with_reducible refine (len_any HT1.out).mono ?_); rintro e w5 ⟨rfl, rfl⟩; rw [HSZ.out])
  go_ret
  exact ⟨rfl, HB.out⟩
/-- So many processes, each the one before's child. -/
def chainT (n G : Nat) : Tb := fun q => if 1 ≤ q ∧ q ≤ (n : Int) then some ⟨q - 1, true, 0, G, 0, 0⟩ else none
theorem chain_one (G : Nat) : one G = chainT 1 G := by
  funext q
  unfold one chainT
  by_cases e : q = 1
  · subst e; rfl
  · rw [if_neg e, if_neg (by omega)]
theorem chain_at {n G : Nat} {q : Int} (h0 : 1 ≤ q) (h1 : q ≤ (n : Int)) : chainT n G q = some ⟨q - 1, true, 0, G, 0, 0⟩ := if_pos ⟨h0, h1⟩
theorem chain_upd (n G : Nat) : upd (chainT n G) ((n : Int) + 1) (some ⟨(n : Int), true, 0, G, 0, 0⟩) = chainT (n + 1) G := by
  funext q
  unfold upd chainT
  by_cases e : q = (n : Int) + 1
  · rw [if_pos e, if_pos (by omega), e]
    congr 2
    omega
  · rw [if_neg e]
    by_cases h : 1 ≤ q ∧ q ≤ (n : Int)
    · rw [if_pos h, if_pos (by omega)]
    · rw [if_neg h, if_neg (by omega)]
theorem wto_wth (s : Int) (h : isg s = true) : wto (wth 0 s) s = 0 := by
  have hi := isg_iff.1 h
  have key : ∀ i : Fin 32, isg (i.val : Int) = true → wto (wth 0 (i.val : Int)) (i.val : Int) = 0 := by decide +kernel
  have := key ⟨s.toNat, by omega⟩
  rw [show ((s.toNat : Nat) : Int) = s by omega] at this
  exact this h
theorem hs_zero (s : Int) : hs 0 s = false := by unfold hs; rw [Nat.zero_testBit, Bool.and_false]
theorem fx_isg {s : Int} (h : fx s = true) : isg s = true ∧ md s = false := by
  unfold fx at h
  simp only [Bool.or_eq_true, beq_iff_eq] at h
  rcases h with rfl | rfl <;> exact ⟨rfl, rfl⟩
end Go.Proofs.YtbgodajbdbgdfaaDoor.Kern
