/- texts of this claim, one behind the other: WordLaw WordLaw2 WordShape WordSplits -/
import Derived.Test.YtkecpfjmdokieaaDoorG2
import Derived.HandedShaped
import Derived.LaidMore
import Derived.Test.YtkecpfjmdokieaaDoorRows
import Derived.Test.YtkecpfjmdokieaaDoorCards
import Derived.Test.YtkecpfjmdokieaaDoorTie
import Derived.ProofKit
import Derived.OpenShut
import Derived.ShutString
import Derived.ChangeOld
import Derived.SizedLaws
import Derived.Lay
import Derived.Lib.LaidU8
import Derived.SevenTiedAt
import Derived.Stop.Joined
import Derived.Shelf.Vars
/- WordSplits: the law's walk. -/
namespace Go.Proofs.YtkecpfjmdokieaaDoor.Word
open Go.RowKit Go.Proofs.YtkecpfjmdokieaaDoorW.PrintWords Go.Proofs.YtkecpfjmdokieaaDoorW.PrintLast Go.Proofs.YtkecpfjmdokieaaDoor.Base Go.Proofs.YtkecpfjmdokieaaDoor.Seq Go.Proofs.YtkecpfjmdokieaaDoor.P Go.Proofs.YtkecpfjmdokieaaDoor.NodeOps Go.Proofs.YtkecpfjmdokieaaDoor.Class
set_option linter.unusedVariables false
set_option linter.unusedSimpArgs false
theorem wt_ge : ∀ l : List Pt, l.length ≤ wt l
  | [] => Nat.zero_le _
  | x :: l => by
    rw [wt_cons, List.length_cons]
    have := wt_ge l
    omega
theorem wt_hd (l : List Pt) (h : 0 < l.length) : (rd_T33 l 0).f2.size ≤ wt l := by
  cases l with
  | nil => simp at h
  | cons x l =>
    rw [wt_cons]
    show x.f2.size ≤ _
    omega
theorem one_P {w : World} {g : Nat} {s : ByteArray} (hg : w.heap[g]? = some (.cells #[.int .i64 1, .bool true, .string s, .string ⟨#[]⟩, .slice none 0 0] 33 (0, 0))) : Kd.C k33 w (some ⟨g, 0, none⟩) 1 [ptQ s] := C_one hg (k33_mk w (ptQ s) (A4 := none) (c4 := 0) (Nat.le_refl _) (Kd.C_nil _ _))
theorem cut_sz {s : ByteArray} {i : Nat} (hi : i < s.size) (hs : s.size ≤ 1000000) : (s.extract 0 i).size ≤ 1000000 := by rw [ByteArray.size_extract]; omega
theorem split_any (l : List Pt) (A : Option Addr) (n c : Nat) (w : World) (hr : Kd.C k33 w A n l) (hn1 : n ≤ 1000000) (hs : 0 < n → (rd_T33 l 0).f2.size ≤ 1000000) {m : Int} (hm : w.cell? ⟨0, 0, none⟩ = some (.int .i64 m)) :
    (spI l = -1 ∧ Calls Tryd.prog 20 #[.slice A n c] w (fun e w' => NoOut w w' e)) ∨
    ∃ i : Nat, spI l = (i : Int) ∧ 0 < n ∧ i < (rd_T33 l 0).f2.size ∧ Calls Tryd.prog 20 #[.slice A n c] w (fun e w' => YesOut w w' e ((rd_T33 l 0).f2.extract 0 i) (restL l ((rd_T33 l 0).f2.extract (i + 1) (rd_T33 l 0).f2.size))) := by
  have hlen : l.length = n := hr.1
  unfold spI
  by_cases h0 : n = 0
  · subst h0
    exact .inl ⟨if_pos hlen, split_nil A c w⟩
  · have hn : 0 < n := by omega
    rw [if_neg (by omega)]
    by_cases hk : (rd_T33 l 0).f0 = 1
    · rw [if_pos hk]
      cases hq : (rd_T33 l 0).f1 with
      | true => exact .inl ⟨if_pos rfl, split_marks hr hn hk hq⟩
      | false =>
        rw [if_neg (by decide)]
        cases hf : cutF (rd_T33 l 0).f2 with
        | false => exact .inl ⟨if_neg (by decide), split_nocut hr hn hk hq (hs hn) hf hm⟩
        | true =>
          rw [if_pos rfl]
          obtain ⟨i, hi, hb, hno, hB, hA⟩ := cut_some hf
          have hsz : ((rd_T33 l 0).f2.extract 0 i).size = i := by rw [ByteArray.size_extract]; omega
          cases hnm : nameB (cutB (rd_T33 l 0).f2) with
          | false => exact .inl ⟨if_neg (by decide), split_noname hr hn hk hq (hs hn) hf (by rw [hB]; exact cut_sz hi (hs hn)) hnm hm⟩
          | true =>
            refine .inr ⟨i, by rw [if_pos rfl, hB, hsz], hn, hi, ?_⟩
            have := split_yes (c := c) hr hn hn1 hk hq (hs hn) hf (by rw [hB]; exact cut_sz hi (hs hn)) hnm hm
            rw [hB, hA] at this
            exact this
    · rw [if_neg hk]
      exact .inl ⟨rfl, split_kind hr hn hk⟩
theorem plain_one {l : List Pt} (h : l.length = 1) (h0 : (rd_T33 l 0).f0 = 1) (h1 : (rd_T33 l 0).f1 = false) : word_Plain.f l = some ((rd_T33 l 0).f2, true) := by
  unfold word_Plain.f
  rw [if_pos (by omega), if_pos (by omega), if_pos h0, if_neg (by rw [h1]; decide)]
theorem plain_marks {l : List Pt} (h : l.length = 1) (h0 : (rd_T33 l 0).f0 = 1) (h1 : (rd_T33 l 0).f1 = true) : word_Plain.f l = some (⟨#[]⟩, false) := by
  unfold word_Plain.f
  rw [if_pos (by omega), if_pos (by omega), if_pos h0, if_pos h1]
theorem plain_kind {l : List Pt} (h : l.length = 1) (h0 : (rd_T33 l 0).f0 ≠ 1) : word_Plain.f l = some (⟨#[]⟩, false) := by
  unfold word_Plain.f
  rw [if_pos (by omega), if_pos (by omega), if_neg h0]
theorem plain_many {l : List Pt} (h : l.length ≠ 1) : word_Plain.f l = some (⟨#[]⟩, false) := by
  unfold word_Plain.f
  rw [if_neg (by omega)]
theorem plain_any (l : List Pt) (t : ByteArray) (b : Bool) (hp : word_Plain.f l = some (t, b)) (A : Option Addr) (n c : Nat) (w : World) (hr : Kd.C k33 w A n l) (hc : n ≤ c) :
    Calls Tryd.prog 16 #[.slice A n c] w fun e w' => e = .returned (.tuple #[.string t, .bool b]) ∧ Below w.heap.size w w' := by
  obtain rfl := hr.1
  exact (word_Plain.calls A c l t b w hr hc hp).mono fun e w' h => ⟨h.1, h.2.below⟩
end Go.Proofs.YtkecpfjmdokieaaDoor.Word
/- WordSplits: the law's walk, whole. -/
namespace Go.Proofs.YtkecpfjmdokieaaDoor.Word
open Go.RowKit Go.Proofs.YtkecpfjmdokieaaDoorW.PrintWords Go.Proofs.YtkecpfjmdokieaaDoorW.PrintLast Go.Proofs.YtkecpfjmdokieaaDoor.Base Go.Proofs.YtkecpfjmdokieaaDoor.Seq Go.Proofs.YtkecpfjmdokieaaDoor.P Go.Proofs.YtkecpfjmdokieaaDoor.NodeOps Go.Proofs.YtkecpfjmdokieaaDoor.Class
set_option linter.unusedVariables false
set_option linter.unusedSimpArgs false
set_option maxHeartbeats 16000000 in
set_option maxRecDepth 100000 in
theorem splits_law (l : List Pt) (s : ByteArray) (A : Option Addr) (n c : Nat) (w : World) (hC : Kd.C k33 w A n l) (hc : n ≤ c) (hfit : FitWord l) {m : Int} (hm : w.cell? ⟨0, 0, none⟩ = some (.int .i64 m)) :
    Calls Tryd.prog 5 #[.slice A n c, .string s] w fun e w' => e = .returned (.bool true) ∧ Below w.heap.size w w' := by
  obtain ⟨r, hr, hW⟩ := weight_any l hfit
  have HC := Aside0.mk hC
  have HM := Aside0.mk hm
  have HW := Aside0.mk hW
  have hlen : l.length = n := hC.1
  have HBw := Aside0.mk (Below.refl w.heap.size w)
  clear hC hm hW
  by_cases h5 : 5000 < r
  · have b5 : decide (5000 < r) = true := decide_eq_true h5
    clear hr hlen
    go_enter Tryd.func5, Tryd.ntmps5
    go_wp2_with (first
      | (go_at_call 6; (with_reducible refine (alive_any _ HM.out).mono ?_); rintro e w1 ⟨rfl, hB⟩; have HBn := Aside0.mk (HBw.out.trans (below_sub hB HBw.out.size)); clear HBw hB; have HBw := HBn; clear HBn)
      | (go_at_call 7; (with_reducible refine (HW.out A n c _ (Kd.C_below HC.out HBw.out) hc).mono ?_); rintro e w2 ⟨rfl, hB⟩; have HBn := Aside0.mk (HBw.out.trans (below_sub hB HBw.out.size)); clear HBw hB; have HBw := HBn; clear HBn))
    go_ret
    exact ⟨rfl, HBw.out⟩
  · have b5 : decide (5000 < r) = false := decide_eq_false h5
    by_cases h6 : 5000 < s.size
    · have b6 : decide ((5000 : Int) < (s.size : Int)) = true := decide_eq_true (by omega)
      clear hr hlen
      go_enter Tryd.func5, Tryd.ntmps5
      go_wp2_with (first
        | (go_at_call 6; (with_reducible refine (alive_any _ HM.out).mono ?_); rintro e w1 ⟨rfl, hB⟩; have HBn := Aside0.mk (HBw.out.trans (below_sub hB HBw.out.size)); clear HBw hB; have HBw := HBn; clear HBn)
        | (go_at_call 7; (with_reducible refine (HW.out A n c _ (Kd.C_below HC.out HBw.out) hc).mono ?_); rintro e w2 ⟨rfl, hB⟩; have HBn := Aside0.mk (HBw.out.trans (below_sub hB HBw.out.size)); clear HBw hB; have HBw := HBn; clear HBn))
      go_ret
      exact ⟨rfl, HBw.out⟩
    · have b6 : decide ((5000 : Int) < (s.size : Int)) = false := decide_eq_false (by omega)
      have HS := Aside0.mk (show s.size ≤ 1000000 by omega)
      have hwt : (wt l : Int) ≤ 5000 := by have := hr (by omega); omega
      have HN1 := Aside0.mk (show n ≤ 1000000 by have := wt_ge l; omega)
      have HZ := Aside0.mk (show 0 < n → (rd_T33 l 0).f2.size ≤ 1000000 from fun h => by have := wt_hd l (by omega); omega)
      have HLN := Aside0.mk hlen
      clear hr hwt h6 h5
      have HZ2 := Aside0.mk (show (rd_T33 l 0).f2.size ≤ 1000000 from by
        by_cases h0 : 0 < n
        · exact HZ.out h0
        · have : l = [] := List.length_eq_zero_iff.1 (by rw [HLN.out]; omega)
          subst this
          exact Nat.zero_le _)
      clear hlen
      by_cases h1 : n = 1
      · have hl1 : l.length = 1 := by rw [HLN.out, h1]
        subst h1
        obtain ⟨ad, A4, c4, rfl, d0, d1, d2, d3, d4, _, _⟩ := at_T33 HC.out 0 (by omega) (by omega)
        simp only [Int.toNat_zero, Nat.zero_mul, Addr.add_zero'] at d0 d1 d2 d3 d4
        by_cases hk : (rd_T33 l 0).f0 = 1
        · cases hq : (rd_T33 l 0).f1 with
          | true =>
            have HP := Aside0.mk (plain_marks hl1 hk hq)
            rw [hk] at d0
            rw [hq] at d1
            have D0 := Aside0.mk d0
            have D1 := Aside0.mk d1
            have D2 := Aside0.mk d2
            clear d0 d1 d2 d3 d4 hl1 hk hq
            go_enter Tryd.func5, Tryd.ntmps5
            go_upto_region 9 with (first
              | (go_at_call 6; (with_reducible refine (alive_any _ HM.out).mono ?_); rintro e w1 ⟨rfl, hB⟩; have HBn := Aside0.mk (HBw.out.trans (below_sub hB HBw.out.size)); clear HBw hB; have HBw := HBn; clear HBn)
              | (go_at_call 7; (with_reducible refine (HW.out _ _ c _ (Kd.C_below HC.out HBw.out) hc).mono ?_); rintro e w2 ⟨rfl, hB⟩; have HBn := Aside0.mk (HBw.out.trans (below_sub hB HBw.out.size)); clear HBw hB; have HBw := HBn; clear HBn)
              | (go_at_call 16; go_loud (with_reducible refine (plain_any l _ _ HP.out _ _ c _ (Kd.C_below HC.out HBw.out) hc).mono ?_); rintro e w3 ⟨rfl, hB⟩; have HBn := Aside0.mk (HBw.out.trans (below_sub hB HBw.out.size)); clear HBw hB; have HBw := HBn; clear HBn; have d0 := pw_cell_below HBw.out D0.out; have d1 := pw_cell_below HBw.out D1.out; have d2 := pw_cell_below HBw.out D2.out)
              | (go_at_call 17; go_loud (with_reducible refine (quote_any s m _ (pw_cell_below HBw.out HM.out) HS.out).mono ?_); rintro e w4 ⟨rfl, hB⟩; have HBn := Aside0.mk (HBw.out.trans (below_sub hB HBw.out.size)); clear HBw hB; have HBw := HBn; clear HBn)
              | (go_at_call 18; go_loud (with_reducible refine (rquote_any s HS.out _).mono ?_); rintro e w5 ⟨rfl, hB⟩; have HBn := Aside0.mk (HBw.out.trans (below_sub hB HBw.out.size)); clear HBw hB; have HBw := HBn; clear HBn)
              | (go_at_call 19; go_loud (with_reducible refine (of_any s _).mono ?_); rintro e w6 ⟨A6, c6, rfl, hC6, hc6, hB⟩; have HC6 := Aside0.mk hC6; clear hC6 hc6; have HBn := Aside0.mk (HBw.out.trans (below_sub hB HBw.out.size)); clear HBw hB; have HBw := HBn; clear HBn)
              | (go_at_call 15; go_loud (with_reducible refine (same03 _ [ptQ s] (Nat.lt_succ_self _) A6 (some ⟨w6.heap.size, 0, none⟩) 1 c6 1 1 _ (Kd.C_below HC6.out (below_alloc (Below.refl _ _) _)) (one_P (blk_new w6 _))).mono ?_); rintro e w7 ⟨rfl, hB⟩; have HBn := Aside0.mk ((below_alloc HBw.out _).trans (below_sub hB (below_alloc HBw.out _).size)); clear HBw hB; have HBw := HBn; clear HBn))
            rcases split_any l _ _ c w7 (Kd.C_below HC.out HBw.out) HN1.out HZ.out (pw_cell_below HBw.out HM.out) with ⟨hsp, hS⟩ | ⟨i, hsp, hn, hi, hS⟩
            · obtain ⟨v, hv⟩ : ∃ v : Int, v = -1 := ⟨_, rfl⟩
              rw [← hv] at hsp
              have HSP := Aside0.mk hsp
              have HSC := Aside0.mk hS
              have bv : decide (v < 0) = true := decide_eq_true (by omega)
              clear hsp hS hv
              as_aux_lemma =>
                go_wp2_with (first
                  | (go_at_call 20; go_loud (with_reducible refine HSC.out.mono ?_); rintro e w8 ⟨rfl, hB⟩; have HBn := Aside0.mk (HBw.out.trans (below_sub hB HBw.out.size)); clear HBw hB; have HBw := HBn; clear HBn)
                  | (go_at_call 21; go_loud (with_reducible refine (rsplit_any l HZ2.out _ _ c _ (Kd.C_below HC.out HBw.out) hc).mono ?_); rintro e w9 ⟨rfl, hB⟩; rw [HSP.out]; have HBn := Aside0.mk (HBw.out.trans (below_sub hB HBw.out.size)); clear HBw hB; have HBw := HBn; clear HBn))
                go_ret
                exact ⟨rfl, HBw.out⟩
            · obtain ⟨ad9, A9, c9, e9, _, _, d2, _, _, _, _⟩ := at_T33 HC.out 0 (by omega) (by omega)
              cases e9
              simp only [Int.toNat_zero, Nat.zero_mul, Addr.add_zero'] at d2
              have D9 := Aside0.mk d2
              have HSP := Aside0.mk hsp
              have HSC := Aside0.mk hS
              have HI := Aside0.mk hi
              have HN0 := Aside0.mk hn
              have bn0 := eq_true hn
              have bi : decide ((i : Int) < 0) = false := decide_eq_false (by omega)
              have bi0 : (0 : Int) ≤ (i : Int) := by omega
              have bi1 : (i : Int) ≤ ((rd_T33 l 0).f2.size : Int) := by omega
              clear hsp hS hi hn d2
              as_aux_lemma =>
                go_wp2_with (first
                  | (go_at_call 20; go_loud (with_reducible refine HSC.out.mono ?_); rintro e w8 ⟨V1, k1, q1, rfl, hC1, hq1, hB⟩; have HC1 := Aside0.mk hC1; clear hC1 hq1; have HBn := Aside0.mk (HBw.out.trans (below_sub hB HBw.out.size)); clear HBw hB; have HBw := HBn; clear HBn)
                  | (go_at_call 21; go_loud (with_reducible refine (rsplit_any l HZ2.out _ _ c _ (Kd.C_below HC.out HBw.out) hc).mono ?_); rintro e w9 ⟨rfl, hB⟩; rw [HSP.out]; have HC1b := Aside0.mk (Kd.C_below HC1.out hB); clear HC1; have HC1 := HC1b; clear HC1b; have HBn := Aside0.mk (HBw.out.trans (below_sub hB HBw.out.size)); clear HBw hB; have HBw := HBn; clear HBn; have d2 := pw_cell_below HBw.out D9.out)
                  | (go_at_call 22; go_loud (with_reducible refine (rrest_any l (by rw [HLN.out]; exact HN0.out) (by rw [HLN.out]; exact HN1.out) i HI.out HZ2.out _ _ c _ (Kd.C_below HC.out HBw.out) hc).mono ?_); rintro e w10 ⟨V2, k2, q2, rfl, hC2, hq2, hB⟩; have HC2 := Aside0.mk hC2; have HC1b := Aside0.mk (Kd.C_below HC1.out hB); clear HC1; have HC1 := HC1b; clear HC1b hC2 hq2; have HBn := Aside0.mk (HBw.out.trans (below_sub hB HBw.out.size)); clear HBw hB; have HBw := HBn; clear HBn)
                  | (go_at_call 15; go_loud (with_reducible refine (same03 _ _ (Nat.lt_succ_self _) V1 V2 k1 q1 k2 q2 _ HC1.out HC2.out).mono ?_); rintro e w11 ⟨rfl, hB⟩; have HBn := Aside0.mk (HBw.out.trans (below_sub hB HBw.out.size)); clear HBw hB; have HBw := HBn; clear HBn))
                go_ret
                exact ⟨rfl, HBw.out⟩
          | false =>
            have HP := Aside0.mk (plain_one hl1 hk hq)
            rw [hk] at d0
            rw [hq] at d1
            have D0 := Aside0.mk d0
            have D1 := Aside0.mk d1
            have D2 := Aside0.mk d2
            clear d0 d1 d2 d3 d4 hl1 hk hq
            go_enter Tryd.func5, Tryd.ntmps5
            go_upto_region 9 with (first
              | (go_at_call 6; (with_reducible refine (alive_any _ HM.out).mono ?_); rintro e w1 ⟨rfl, hB⟩; have HBn := Aside0.mk (HBw.out.trans (below_sub hB HBw.out.size)); clear HBw hB; have HBw := HBn; clear HBn)
              | (go_at_call 7; (with_reducible refine (HW.out _ _ c _ (Kd.C_below HC.out HBw.out) hc).mono ?_); rintro e w2 ⟨rfl, hB⟩; have HBn := Aside0.mk (HBw.out.trans (below_sub hB HBw.out.size)); clear HBw hB; have HBw := HBn; clear HBn)
              | (go_at_call 16; go_loud (with_reducible refine (plain_any l _ _ HP.out _ _ c _ (Kd.C_below HC.out HBw.out) hc).mono ?_); rintro e w3 ⟨rfl, hB⟩; have HBn := Aside0.mk (HBw.out.trans (below_sub hB HBw.out.size)); clear HBw hB; have HBw := HBn; clear HBn; have d0 := pw_cell_below HBw.out D0.out; have d1 := pw_cell_below HBw.out D1.out; have d2 := pw_cell_below HBw.out D2.out)
              | (go_at_call 17; go_loud (with_reducible refine (quote_any s m _ (pw_cell_below HBw.out HM.out) HS.out).mono ?_); rintro e w4 ⟨rfl, hB⟩; have HBn := Aside0.mk (HBw.out.trans (below_sub hB HBw.out.size)); clear HBw hB; have HBw := HBn; clear HBn)
              | (go_at_call 18; go_loud (with_reducible refine (rquote_any s HS.out _).mono ?_); rintro e w5 ⟨rfl, hB⟩; have HBn := Aside0.mk (HBw.out.trans (below_sub hB HBw.out.size)); clear HBw hB; have HBw := HBn; clear HBn)
              | (go_at_call 19; go_loud (with_reducible refine (of_any s _).mono ?_); rintro e w6 ⟨A6, c6, rfl, hC6, hc6, hB⟩; have HC6 := Aside0.mk hC6; clear hC6 hc6; have HBn := Aside0.mk (HBw.out.trans (below_sub hB HBw.out.size)); clear HBw hB; have HBw := HBn; clear HBn)
              | (go_at_call 15; go_loud (with_reducible refine (same03 _ [ptQ s] (Nat.lt_succ_self _) A6 (some ⟨w6.heap.size, 0, none⟩) 1 c6 1 1 _ (Kd.C_below HC6.out (below_alloc (Below.refl _ _) _)) (one_P (blk_new w6 _))).mono ?_); rintro e w7 ⟨rfl, hB⟩; have HBn := Aside0.mk ((below_alloc HBw.out _).trans (below_sub hB (below_alloc HBw.out _).size)); clear HBw hB; have HBw := HBn; clear HBn))
            rcases split_any l _ _ c w7 (Kd.C_below HC.out HBw.out) HN1.out HZ.out (pw_cell_below HBw.out HM.out) with ⟨hsp, hS⟩ | ⟨i, hsp, hn, hi, hS⟩
            · obtain ⟨v, hv⟩ : ∃ v : Int, v = -1 := ⟨_, rfl⟩
              rw [← hv] at hsp
              have HSP := Aside0.mk hsp
              have HSC := Aside0.mk hS
              have bv : decide (v < 0) = true := decide_eq_true (by omega)
              clear hsp hS hv
              as_aux_lemma =>
                go_wp2_with (first
                  | (go_at_call 20; go_loud (with_reducible refine HSC.out.mono ?_); rintro e w8 ⟨rfl, hB⟩; have HBn := Aside0.mk (HBw.out.trans (below_sub hB HBw.out.size)); clear HBw hB; have HBw := HBn; clear HBn)
                  | (go_at_call 21; go_loud (with_reducible refine (rsplit_any l HZ2.out _ _ c _ (Kd.C_below HC.out HBw.out) hc).mono ?_); rintro e w9 ⟨rfl, hB⟩; rw [HSP.out]; have HBn := Aside0.mk (HBw.out.trans (below_sub hB HBw.out.size)); clear HBw hB; have HBw := HBn; clear HBn))
                go_ret
                exact ⟨rfl, HBw.out⟩
            · obtain ⟨ad9, A9, c9, e9, _, _, d2, _, _, _, _⟩ := at_T33 HC.out 0 (by omega) (by omega)
              cases e9
              simp only [Int.toNat_zero, Nat.zero_mul, Addr.add_zero'] at d2
              have D9 := Aside0.mk d2
              have HSP := Aside0.mk hsp
              have HSC := Aside0.mk hS
              have HI := Aside0.mk hi
              have HN0 := Aside0.mk hn
              have bn0 := eq_true hn
              have bi : decide ((i : Int) < 0) = false := decide_eq_false (by omega)
              have bi0 : (0 : Int) ≤ (i : Int) := by omega
              have bi1 : (i : Int) ≤ ((rd_T33 l 0).f2.size : Int) := by omega
              clear hsp hS hi hn d2
              as_aux_lemma =>
                go_wp2_with (first
                  | (go_at_call 20; go_loud (with_reducible refine HSC.out.mono ?_); rintro e w8 ⟨V1, k1, q1, rfl, hC1, hq1, hB⟩; have HC1 := Aside0.mk hC1; clear hC1 hq1; have HBn := Aside0.mk (HBw.out.trans (below_sub hB HBw.out.size)); clear HBw hB; have HBw := HBn; clear HBn)
                  | (go_at_call 21; go_loud (with_reducible refine (rsplit_any l HZ2.out _ _ c _ (Kd.C_below HC.out HBw.out) hc).mono ?_); rintro e w9 ⟨rfl, hB⟩; rw [HSP.out]; have HC1b := Aside0.mk (Kd.C_below HC1.out hB); clear HC1; have HC1 := HC1b; clear HC1b; have HBn := Aside0.mk (HBw.out.trans (below_sub hB HBw.out.size)); clear HBw hB; have HBw := HBn; clear HBn; have d2 := pw_cell_below HBw.out D9.out)
                  | (go_at_call 22; go_loud (with_reducible refine (rrest_any l (by rw [HLN.out]; exact HN0.out) (by rw [HLN.out]; exact HN1.out) i HI.out HZ2.out _ _ c _ (Kd.C_below HC.out HBw.out) hc).mono ?_); rintro e w10 ⟨V2, k2, q2, rfl, hC2, hq2, hB⟩; have HC2 := Aside0.mk hC2; have HC1b := Aside0.mk (Kd.C_below HC1.out hB); clear HC1; have HC1 := HC1b; clear HC1b hC2 hq2; have HBn := Aside0.mk (HBw.out.trans (below_sub hB HBw.out.size)); clear HBw hB; have HBw := HBn; clear HBn)
                  | (go_at_call 15; go_loud (with_reducible refine (same03 _ _ (Nat.lt_succ_self _) V1 V2 k1 q1 k2 q2 _ HC1.out HC2.out).mono ?_); rintro e w11 ⟨rfl, hB⟩; have HBn := Aside0.mk (HBw.out.trans (below_sub hB HBw.out.size)); clear HBw hB; have HBw := HBn; clear HBn))
                go_ret
                exact ⟨rfl, HBw.out⟩
        · have HP := Aside0.mk (plain_kind hl1 hk)
          have bk : ((rd_T33 l 0).f0 == 1) = false := by simpa using hk
          have D0 := Aside0.mk d0
          have D1 := Aside0.mk d1
          have D2 := Aside0.mk d2
          clear d0 d1 d2 d3 d4 hl1 hk
          go_enter Tryd.func5, Tryd.ntmps5
          go_upto_region 9 with (first
            | (go_at_call 6; (with_reducible refine (alive_any _ HM.out).mono ?_); rintro e w1 ⟨rfl, hB⟩; have HBn := Aside0.mk (HBw.out.trans (below_sub hB HBw.out.size)); clear HBw hB; have HBw := HBn; clear HBn)
            | (go_at_call 7; (with_reducible refine (HW.out _ _ c _ (Kd.C_below HC.out HBw.out) hc).mono ?_); rintro e w2 ⟨rfl, hB⟩; have HBn := Aside0.mk (HBw.out.trans (below_sub hB HBw.out.size)); clear HBw hB; have HBw := HBn; clear HBn)
            | (go_at_call 16; go_loud (with_reducible refine (plain_any l _ _ HP.out _ _ c _ (Kd.C_below HC.out HBw.out) hc).mono ?_); rintro e w3 ⟨rfl, hB⟩; have HBn := Aside0.mk (HBw.out.trans (below_sub hB HBw.out.size)); clear HBw hB; have HBw := HBn; clear HBn; have d0 := pw_cell_below HBw.out D0.out; have d1 := pw_cell_below HBw.out D1.out; have d2 := pw_cell_below HBw.out D2.out)
            | (go_at_call 17; go_loud (with_reducible refine (quote_any s m _ (pw_cell_below HBw.out HM.out) HS.out).mono ?_); rintro e w4 ⟨rfl, hB⟩; have HBn := Aside0.mk (HBw.out.trans (below_sub hB HBw.out.size)); clear HBw hB; have HBw := HBn; clear HBn)
            | (go_at_call 18; go_loud (with_reducible refine (rquote_any s HS.out _).mono ?_); rintro e w5 ⟨rfl, hB⟩; have HBn := Aside0.mk (HBw.out.trans (below_sub hB HBw.out.size)); clear HBw hB; have HBw := HBn; clear HBn)
            | (go_at_call 19; go_loud (with_reducible refine (of_any s _).mono ?_); rintro e w6 ⟨A6, c6, rfl, hC6, hc6, hB⟩; have HC6 := Aside0.mk hC6; clear hC6 hc6; have HBn := Aside0.mk (HBw.out.trans (below_sub hB HBw.out.size)); clear HBw hB; have HBw := HBn; clear HBn)
            | (go_at_call 15; go_loud (with_reducible refine (same03 _ [ptQ s] (Nat.lt_succ_self _) A6 (some ⟨w6.heap.size, 0, none⟩) 1 c6 1 1 _ (Kd.C_below HC6.out (below_alloc (Below.refl _ _) _)) (one_P (blk_new w6 _))).mono ?_); rintro e w7 ⟨rfl, hB⟩; have HBn := Aside0.mk ((below_alloc HBw.out _).trans (below_sub hB (below_alloc HBw.out _).size)); clear HBw hB; have HBw := HBn; clear HBn))
          rcases split_any l _ _ c w7 (Kd.C_below HC.out HBw.out) HN1.out HZ.out (pw_cell_below HBw.out HM.out) with ⟨hsp, hS⟩ | ⟨i, hsp, hn, hi, hS⟩
          · obtain ⟨v, hv⟩ : ∃ v : Int, v = -1 := ⟨_, rfl⟩
            rw [← hv] at hsp
            have HSP := Aside0.mk hsp
            have HSC := Aside0.mk hS
            have bv : decide (v < 0) = true := decide_eq_true (by omega)
            clear hsp hS hv
            as_aux_lemma =>
              go_wp2_with (first
                | (go_at_call 20; go_loud (with_reducible refine HSC.out.mono ?_); rintro e w8 ⟨rfl, hB⟩; have HBn := Aside0.mk (HBw.out.trans (below_sub hB HBw.out.size)); clear HBw hB; have HBw := HBn; clear HBn)
                | (go_at_call 21; go_loud (with_reducible refine (rsplit_any l HZ2.out _ _ c _ (Kd.C_below HC.out HBw.out) hc).mono ?_); rintro e w9 ⟨rfl, hB⟩; rw [HSP.out]; have HBn := Aside0.mk (HBw.out.trans (below_sub hB HBw.out.size)); clear HBw hB; have HBw := HBn; clear HBn))
              go_ret
              exact ⟨rfl, HBw.out⟩
          · obtain ⟨ad9, A9, c9, e9, _, _, d2, _, _, _, _⟩ := at_T33 HC.out 0 (by omega) (by omega)
            cases e9
            simp only [Int.toNat_zero, Nat.zero_mul, Addr.add_zero'] at d2
            have D9 := Aside0.mk d2
            have HSP := Aside0.mk hsp
            have HSC := Aside0.mk hS
            have HI := Aside0.mk hi
            have HN0 := Aside0.mk hn
            have bn0 := eq_true hn
            have bi : decide ((i : Int) < 0) = false := decide_eq_false (by omega)
            have bi0 : (0 : Int) ≤ (i : Int) := by omega
            have bi1 : (i : Int) ≤ ((rd_T33 l 0).f2.size : Int) := by omega
            clear hsp hS hi hn d2
            as_aux_lemma =>
              go_wp2_with (first
                | (go_at_call 20; go_loud (with_reducible refine HSC.out.mono ?_); rintro e w8 ⟨V1, k1, q1, rfl, hC1, hq1, hB⟩; have HC1 := Aside0.mk hC1; clear hC1 hq1; have HBn := Aside0.mk (HBw.out.trans (below_sub hB HBw.out.size)); clear HBw hB; have HBw := HBn; clear HBn)
                | (go_at_call 21; go_loud (with_reducible refine (rsplit_any l HZ2.out _ _ c _ (Kd.C_below HC.out HBw.out) hc).mono ?_); rintro e w9 ⟨rfl, hB⟩; rw [HSP.out]; have HC1b := Aside0.mk (Kd.C_below HC1.out hB); clear HC1; have HC1 := HC1b; clear HC1b; have HBn := Aside0.mk (HBw.out.trans (below_sub hB HBw.out.size)); clear HBw hB; have HBw := HBn; clear HBn; have d2 := pw_cell_below HBw.out D9.out)
                | (go_at_call 22; go_loud (with_reducible refine (rrest_any l (by rw [HLN.out]; exact HN0.out) (by rw [HLN.out]; exact HN1.out) i HI.out HZ2.out _ _ c _ (Kd.C_below HC.out HBw.out) hc).mono ?_); rintro e w10 ⟨V2, k2, q2, rfl, hC2, hq2, hB⟩; have HC2 := Aside0.mk hC2; have HC1b := Aside0.mk (Kd.C_below HC1.out hB); clear HC1; have HC1 := HC1b; clear HC1b hC2 hq2; have HBn := Aside0.mk (HBw.out.trans (below_sub hB HBw.out.size)); clear HBw hB; have HBw := HBn; clear HBn)
                | (go_at_call 15; go_loud (with_reducible refine (same03 _ _ (Nat.lt_succ_self _) V1 V2 k1 q1 k2 q2 _ HC1.out HC2.out).mono ?_); rintro e w11 ⟨rfl, hB⟩; have HBn := Aside0.mk (HBw.out.trans (below_sub hB HBw.out.size)); clear HBw hB; have HBw := HBn; clear HBn))
              go_ret
              exact ⟨rfl, HBw.out⟩
      · have HP := Aside0.mk (plain_many (l := l) (by rw [HLN.out]; exact h1))
        have bn : ((n : Int) == 1) = false := by rw [beq_eq_false_iff_ne]; omega
        clear h1
        go_enter Tryd.func5, Tryd.ntmps5
        go_upto_region 9 with (first
          | (go_at_call 6; (with_reducible refine (alive_any _ HM.out).mono ?_); rintro e w1 ⟨rfl, hB⟩; have HBn := Aside0.mk (HBw.out.trans (below_sub hB HBw.out.size)); clear HBw hB; have HBw := HBn; clear HBn)
          | (go_at_call 7; (with_reducible refine (HW.out _ _ c _ (Kd.C_below HC.out HBw.out) hc).mono ?_); rintro e w2 ⟨rfl, hB⟩; have HBn := Aside0.mk (HBw.out.trans (below_sub hB HBw.out.size)); clear HBw hB; have HBw := HBn; clear HBn)
          | (go_at_call 16; go_loud (with_reducible refine (plain_any l _ _ HP.out _ _ c _ (Kd.C_below HC.out HBw.out) hc).mono ?_); rintro e w3 ⟨rfl, hB⟩; have HBn := Aside0.mk (HBw.out.trans (below_sub hB HBw.out.size)); clear HBw hB; have HBw := HBn; clear HBn)
          | (go_at_call 17; go_loud (with_reducible refine (quote_any s m _ (pw_cell_below HBw.out HM.out) HS.out).mono ?_); rintro e w4 ⟨rfl, hB⟩; have HBn := Aside0.mk (HBw.out.trans (below_sub hB HBw.out.size)); clear HBw hB; have HBw := HBn; clear HBn)
          | (go_at_call 18; go_loud (with_reducible refine (rquote_any s HS.out _).mono ?_); rintro e w5 ⟨rfl, hB⟩; have HBn := Aside0.mk (HBw.out.trans (below_sub hB HBw.out.size)); clear HBw hB; have HBw := HBn; clear HBn)
          | (go_at_call 19; go_loud (with_reducible refine (of_any s _).mono ?_); rintro e w6 ⟨A6, c6, rfl, hC6, hc6, hB⟩; have HC6 := Aside0.mk hC6; clear hC6 hc6; have HBn := Aside0.mk (HBw.out.trans (below_sub hB HBw.out.size)); clear HBw hB; have HBw := HBn; clear HBn)
          | (go_at_call 15; go_loud (with_reducible refine (same03 _ [ptQ s] (Nat.lt_succ_self _) A6 (some ⟨w6.heap.size, 0, none⟩) 1 c6 1 1 _ (Kd.C_below HC6.out (below_alloc (Below.refl _ _) _)) (one_P (blk_new w6 _))).mono ?_); rintro e w7 ⟨rfl, hB⟩; have HBn := Aside0.mk ((below_alloc HBw.out _).trans (below_sub hB (below_alloc HBw.out _).size)); clear HBw hB; have HBw := HBn; clear HBn))
        rcases split_any l _ _ c w7 (Kd.C_below HC.out HBw.out) HN1.out HZ.out (pw_cell_below HBw.out HM.out) with ⟨hsp, hS⟩ | ⟨i, hsp, hn, hi, hS⟩
        · obtain ⟨v, hv⟩ : ∃ v : Int, v = -1 := ⟨_, rfl⟩
          rw [← hv] at hsp
          have HSP := Aside0.mk hsp
          have HSC := Aside0.mk hS
          have bv : decide (v < 0) = true := decide_eq_true (by omega)
          clear hsp hS hv
          as_aux_lemma =>
            go_wp2_with (first
              | (go_at_call 20; go_loud (with_reducible refine HSC.out.mono ?_); rintro e w8 ⟨rfl, hB⟩; have HBn := Aside0.mk (HBw.out.trans (below_sub hB HBw.out.size)); clear HBw hB; have HBw := HBn; clear HBn)
              | (go_at_call 21; go_loud (with_reducible refine (rsplit_any l HZ2.out _ _ c _ (Kd.C_below HC.out HBw.out) hc).mono ?_); rintro e w9 ⟨rfl, hB⟩; rw [HSP.out]; have HBn := Aside0.mk (HBw.out.trans (below_sub hB HBw.out.size)); clear HBw hB; have HBw := HBn; clear HBn))
            go_ret
            exact ⟨rfl, HBw.out⟩
        · obtain ⟨ad9, A9, c9, e9, _, _, d2, _, _, _, _⟩ := at_T33 HC.out 0 (by omega) (by omega)
          cases e9
          simp only [Int.toNat_zero, Nat.zero_mul, Addr.add_zero'] at d2
          have D9 := Aside0.mk d2
          have HSP := Aside0.mk hsp
          have HSC := Aside0.mk hS
          have HI := Aside0.mk hi
          have HN0 := Aside0.mk hn
          have bn0 := eq_true hn
          have bi : decide ((i : Int) < 0) = false := decide_eq_false (by omega)
          have bi0 : (0 : Int) ≤ (i : Int) := by omega
          have bi1 : (i : Int) ≤ ((rd_T33 l 0).f2.size : Int) := by omega
          clear hsp hS hi hn d2
          as_aux_lemma =>
            go_wp2_with (first
              | (go_at_call 20; go_loud (with_reducible refine HSC.out.mono ?_); rintro e w8 ⟨V1, k1, q1, rfl, hC1, hq1, hB⟩; have HC1 := Aside0.mk hC1; clear hC1 hq1; have HBn := Aside0.mk (HBw.out.trans (below_sub hB HBw.out.size)); clear HBw hB; have HBw := HBn; clear HBn)
              | (go_at_call 21; go_loud (with_reducible refine (rsplit_any l HZ2.out _ _ c _ (Kd.C_below HC.out HBw.out) hc).mono ?_); rintro e w9 ⟨rfl, hB⟩; rw [HSP.out]; have HC1b := Aside0.mk (Kd.C_below HC1.out hB); clear HC1; have HC1 := HC1b; clear HC1b; have HBn := Aside0.mk (HBw.out.trans (below_sub hB HBw.out.size)); clear HBw hB; have HBw := HBn; clear HBn; have d2 := pw_cell_below HBw.out D9.out)
              | (go_at_call 22; go_loud (with_reducible refine (rrest_any l (by rw [HLN.out]; exact HN0.out) (by rw [HLN.out]; exact HN1.out) i HI.out HZ2.out _ _ c _ (Kd.C_below HC.out HBw.out) hc).mono ?_); rintro e w10 ⟨V2, k2, q2, rfl, hC2, hq2, hB⟩; have HC2 := Aside0.mk hC2; have HC1b := Aside0.mk (Kd.C_below HC1.out hB); clear HC1; have HC1 := HC1b; clear HC1b hC2 hq2; have HBn := Aside0.mk (HBw.out.trans (below_sub hB HBw.out.size)); clear HBw hB; have HBw := HBn; clear HBn)
              | (go_at_call 15; go_loud (with_reducible refine (same03 _ _ (Nat.lt_succ_self _) V1 V2 k1 q1 k2 q2 _ HC1.out HC2.out).mono ?_); rintro e w11 ⟨rfl, hB⟩; have HBn := Aside0.mk (HBw.out.trans (below_sub hB HBw.out.size)); clear HBw hB; have HBw := HBn; clear HBn))
            go_ret
            exact ⟨rfl, HBw.out⟩
end Go.Proofs.YtkecpfjmdokieaaDoor.Word
/- A row's claim with the world's shape, and one condition more. -/
namespace Go.Proofs.YtkecpfjmdokieaaDoor.Word
open Go
variable {H : Type} {enc : TypeId × Value → H}
theorem change_and_shaped {a : Assume} {C : Checked} {os : Os} {f : FuncId} {fn : Func} {s : ChangeSpec} {conds : List PathCond} {apart fresh handsOn again : Bool} {X : World → Array Value → Prop}
    (hX : ∀ (w w' : World) (args : Array Value), w.heap = w'.heap → X w args → X w' args)
    (own : ownKnob C.prog.godebug = none) (started : os.Started) (noInit : C.prog.inits.idxOf? f = none) (hfn : C.prog.funcs[f]? = some fn)
    (witness : ∃ (w : World) (tape : Tape) (i : Input), w.os = os ∧ (w.forCall tape i).Shaped C.prog ∧ i.vars = [] ∧ Input.okWide C.prog (w.forCall tape i) .any w.heap.size f i ∧
      ((s.pre enc C.prog fn conds apart (w.forCall tape i).memory i.args ∧ X (w.forCall tape i).memory i.args) ∧ sizedMet enc C.prog fn (OpenSpec.ofChange s) apart (w.forCall tape i).memory i.args) ∧ a.holds C.prog (lone (Frame.enter C.prog f i.args .normal) [] (w.forCall tape i)))
    (contract : ∀ (W : World) (base : Nat) (args : Array Value) (ds gs : List (DataW H)) (before : List MemPlace),
      (∀ (j : Nat) t v, fn.params[j]? = some t → args[j]? = some v → Value.okWide C.prog W .any base t v) →
      DataW.Whole enc C.prog fn.params.toList s.vars apart W args.toList ds gs before →
      conds.all (PathCond.test C.prog ⟨fn.params.toList, ds, s.plain.varTypes C.prog, gs⟩) = true →
      (DataW.weightsEach C.prog (fn.params.toList ++ s.plain.varTypes C.prog) (ds ++ gs)).all (· ≤ reachBytes) = true → X W args → W.ShapedOpen C.prog →
      a.holds C.prog (lone (Frame.enter C.prog f args .normal) [] W) →
      Calls C.prog f args W fun e W' => ∃ v, e = .returned v ∧ s.post enc C.prog fn apart fresh handsOn again W args v W') :
    ReturnsInHanded a C os f .any (fun w args => (s.pre enc C.prog fn conds apart w args ∧ X w args) ∧ sizedMet enc C.prog fn (OpenSpec.ofChange s) apart w args) (s.post enc C.prog fn apart fresh handsOn again) := by
  refine returnsInHanded_of_calls own started noInit witness ?_
  intro w tape i _ hsh _ hok hpre hholds
  obtain ⟨_, _, _, fn', hfn', _, _, _, _, hval⟩ := hok
  have e : fn' = fn := Option.some.inj (hfn'.symm.trans hfn)
  subst e
  obtain ⟨⟨⟨ds, gs, before, hw, hc⟩, hx⟩, hz⟩ := hpre
  have hw' := DataW.Whole.of_heap (w' := w.forCall tape i) (by rfl) hw
  refine (contract (w.forCall tape i) w.heap.size i.args ds gs before hval hw' hc (hz.weights hw) (hX _ _ _ (by rfl) hx) hsh hholds).mono fun e W' ⟨v, he, hp⟩ => ?_
  subst he
  exact ChangeSpec.post_blind hp
end Go.Proofs.YtkecpfjmdokieaaDoor.Word
/- WordSplits: for every word and every text the law returns true and leaves the word as it was: the row, and its card. No condition. -/
namespace Go.Proofs.YtkecpfjmdokieaaDoor
open Go.RowKit Go.Proofs.YtkecpfjmdokieaaDoorW.PrintWords Go.Proofs.YtkecpfjmdokieaaDoorW.PrintLast
set_option linter.unusedVariables false
theorem maxlen_of {W : World} (h : W.ShapedOpen Tryd.prog) : ∃ m, W.cell? ⟨0, 0, none⟩ = some (.int .i64 m) :=
  cell_of_shapedOpen_int (P := Tryd.prog) (g := 0) (t := 3) (zero := #[.int .i64 0]) h (of_decide_eq_true (by kernel_rfl)) (by kernel_rfl) rfl (by kernel_rfl) (by kernel_rfl) Tryd.underlying3
theorem splits_lawI (l : List P.S33) (s : ByteArray) (A : Option Addr) (n c : Nat) (w : World) (hC : Kd.C P.k33 w A n l) (hc : n ≤ c) (hfit : NodeOps.FitWord l) (h : w.ShapedOpen Tryd.prog) :
    Calls Tryd.prog 5 #[.slice A n c, .string s] w fun e w' => e = .returned (.bool true) ∧ Below w.heap.size w w' := by
  obtain ⟨m, hm⟩ := maxlen_of h
  exact Word.splits_law l s A n c w hC hc hfit hm
namespace RowWordSplits
open Go.ChangeShapes Go.WideShapes Go.ChangeAt Go.RowKit
open Go.ChangeMaps (open_string shut_string)
theorem own : ownKnob Tryd.prog.godebug = none := by kernel_rfl
theorem laidOut : laidOutB Tryd.prog = true := by kernel_rfl
set_option maxRecDepth 100000 in
theorem lifted (os : Os) (started : os.Started) (H : Type) (enc : TypeId × Value → H) :
    ReturnsInHanded {} Tryd.checked os 5 .any (fun w args => (Rows.wordSplitsSpec.pre enc Tryd.prog Tryd.f5 Rows.wordSplitsRow.domain false w args ∧ laidMetH Tryd.prog Rows.wordSplitsRow.laid w) ∧ sizedMet enc Tryd.prog Tryd.f5 (OpenSpec.ofChange Rows.wordSplitsSpec) false w args) (Rows.wordSplitsSpec.post enc Tryd.prog Tryd.f5 false true false false) := by
  refine Word.change_and_shaped (C := Tryd.checked) (X := (fun w _ => laidMetH Tryd.prog Rows.wordSplitsRow.laid w)) (fun _ _ _ hh h => h.of_heap hh) own started (by kernel_rfl) Tryd.func5
    (ChangeSpec.witness_shaped (enc := enc) (C := Tryd.checked) (os := os) (X := (fun w _ => laidMetH Tryd.prog Rows.wordSplitsRow.laid w)) false (World.laidAll Tryd.prog os Rows.wordSplitsRow.laid) #[.slice none 0 0, .string ByteArray.empty] 8 (World.laidAll_os _ _ _)
      (World.shaped_of_ZipB (by kernel_rfl) (by kernel_rfl)) (by kernel_rfl) (by kernel_rfl) (by kernel_rfl)
      (by rw [MakeChecks.laidMetH_plain _ _ _ (by kernel_rfl)]; exact laidMet_laidAll _ (by kernel_rfl) (by kernel_rfl))) ?_
  intro W base args ds gs before hval0 hW hcnd hsz0 hL hSh _
  have hsz : (DataW.weightsEach Tryd.prog (Tryd.f5.params.toList ++ Rows.wordSplitsSpec.plain.varTypes Tryd.prog) (ds ++ gs)).all (· ≤ reachBytes) = true := hsz0
  have hval : ∀ (j : Nat) t v, Tryd.f5.params[j]? = some t → args[j]? = some v → Value.okWide Tryd.prog W .any base t v := hval0
  have hW' := hW
  obtain ⟨p, q, hA0, hV, rfl, hfz, hnd⟩ := hW
  have hA : DataW.TrodAll enc Tryd.prog W 0 (fun _ => true) true Tryd.f5.params.toList args.toList ds p := hA0
  rw [Tryd.params5] at hA hval hsz
  obtain ⟨v0, vs0, d0, ds0, p0, q0, hargs, rfl, rfl, h0, r0⟩ := trodAll_cons hA
  obtain ⟨v1, vs1, d1, ds1, p1, q1, rfl, rfl, rfl, h1, r1⟩ := trodAll_cons r0
  obtain ⟨rfl, rfl, rfl⟩ := trodAll_nil r1
  obtain rfl : args = #[v0, v1] := by cases args; simp_all
  obtain ⟨rfl, rfl⟩ := trodVars_none hV
  obtain ⟨a0, n0, c0, rfl⟩ := okWide_slice Tryd.underlying23 (hval 0 23 v0 rfl rfl)
  have t0 := h0
  have lt0 : ∀ x ∈ p0, x.block < W.heap.size := by obtain ⟨m, hm⟩ := t0; exact DataW.trod_lt m _ _ _ hm
  have z0 : ∀ n ∈ d0.weights Tryd.prog 23, n ≤ reachBytes := fun n hn => by simpa using List.all_eq_true.1 hsz n (DataW.weights_mem_each (j := 0) rfl rfl n hn)
  obtain ⟨l0, C0, k0, V0⟩ := Open.open_sl (NodeOps.op_word W) h0 z0
  obtain ⟨s1, rfl, rfl, rfl, y1⟩ := open_string Tryd.underlying9 (hval 1 9 v1 rfl rfl) h1
  have V1 : s1.size ≤ reachBytes := by
    have z := sized_string hsz (j := 1) (t := 9) rfl rfl
    rw [Array.length_toList] at z
    exact z
  clear hA0 hval0 hsz0 hsz
  refine (splits_lawI l0 s1 _ _ _ W C0 k0 V0 hSh).mono fun e W' ⟨he, bel⟩ => ?_
  subst he
  exact ⟨_, rfl, _, _, _, [], _, [], hW', trodAll_mk1 (shut_bool Tryd.underlying4 _), (trodAll_cons_mk (Below.trod laidOut (by kernel_rfl) (of_decide_eq_true (by kernel_rfl)) t0 bel lt0) (trodAll_cons_mk (shut_string Tryd.underlying9 y1) trodAll_mk0)), rfl, bel.frame _, fun h => by cases h⟩
theorem proved : Rows.WordSplitsSaid :=
  OpenClaim.holds_of_wide 5 Tryd.f5 rfl rfl rfl rfl rfl rfl rfl ⟨rfl, rfl, rfl, rfl, rfl⟩ rfl rfl rfl rfl rfl (by kernel_rfl) Tryd.func5 (by kernel_rfl)
    (of_decide_eq_true (by kernel_rfl)) (by unfold Func.isWrapper; first | (rw [if_pos (by decide +kernel)]; kernel_rfl) | (rw [if_neg (by decide +kernel)]; exact ⟨rfl, rfl⟩))
    (fun os started H enc _ => lifted os started H enc)
end RowWordSplits
theorem wordSplits_holds : Rows.WordSplitsSaid := RowWordSplits.proved
theorem wordSplits_card_holds : Rows.WordSplitsCardSaid :=
  Claim7.holds_tied_plain_at .later [] [.data, .pinned] true (true, "d7c8ea5a395ae472993517a0e6983a3ca7ffa6d3b7f4a3261fa0a56531d6764a") false wordSplits_holds (fun _ h => by cases h) (by kernel_rfl) (fun _ h => by cases h) wordSplits_row_tie rfl ⟨rfl, rfl⟩ (by kernel_rfl) rfl
    (fun f fn hf hfn => by
      obtain rfl : f = 5 := Option.some.inj ((show Tryd.prog.funcNamed "deadfall/deadfalllaw03.WordSplits" = some 5 by kernel_rfl).symm.trans hf) |>.symm
      obtain rfl : fn = Tryd.f5 := (Option.some.inj (Tryd.func5.symm.trans hfn)).symm
      exact ⟨by kernel_rfl, fun j t ht => by
        rw [Tryd.params5] at ht
        have hm : t ∈ [23, 9] := by simpa using Array.mem_of_getElem? ht
        have hall : ([23, 9].all fun u => !Tryd.prog.wantsStandIn u) = true := by kernel_rfl
        exact (show Tryd.prog.wantsStandIn t = false by simpa using List.all_eq_true.1 hall t hm)⟩)
    (by kernel_rfl)
#print axioms wordSplits_card_holds
end Go.Proofs.YtkecpfjmdokieaaDoor
