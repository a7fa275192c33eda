/- FieldParts: the walk. -/
import Derived.Test.YtkepmbkghmkodaaFieldLib
import Derived.Test.YtkepmbkghmkodaaFieldLaw
namespace Go.Proofs.Ytkepmbkghmkodaa.Field
open Go.RowKit Go.Proofs.YtkepmbkghmkodaaW.PrintWords Go.Proofs.YtkepmbkghmkodaaW.PrintLast Go.Proofs.Ytkepmbkghmkodaa.Seq Go.Proofs.Ytkepmbkghmkodaa.Base Go.Proofs.Ytkepmbkghmkodaa.Class
set_option linter.unusedVariables false
set_option linter.unusedSimpArgs false
set_option maxHeartbeats 1000000 in
set_option maxRecDepth 100000 in
theorem alive_any (w : World) : Calls Try.prog 14 #[] w fun e w' => e = .returned (.bool true) ∧ Below w.heap.size w w' := by
  go_enter Try.func14, Try.ntmps14
  go_wp2_with fail
  refine (split_any _ _ _ [⟨⟨#[97, 32, 98]⟩, false, false⟩] _ (C_one (blk_new w _) (kPiece_mk _ _)) (Nat.le_refl _) (by decide)).mono ?_
  rintro e w1 ⟨v, rfl, hR, hB⟩
  obtain ⟨A1, c1, rfl⟩ := Kd.R_slice hR
  have HB1 := Aside0.mk (below_trans (below_alloc (Below.refl w.heap.size w) _) (below_sub hB (by simp)))
  clear hR hB
  rw [show (split [⟨⟨#[97, 32, 98]⟩, false, false⟩]).length = 2 by kernel_rfl]
  go_wp2_with fail
  refine (split_any _ _ _ [⟨⟨#[]⟩, false, false⟩] _ (C_one (blk_new w1 _) (kPiece_mk _ _)) (Nat.le_refl _) (by decide)).mono ?_
  rintro e w2 ⟨v, rfl, hR, hB⟩
  obtain ⟨A2, c2, rfl⟩ := Kd.R_slice hR
  have HB2 := Aside0.mk (below_trans HB1.out (below_trans (below_sub (below_alloc (Below.refl w1.heap.size w1) _) HB1.out.size) (below_sub hB (by simp; have := HB1.out.size; omega))))
  clear hR hB HB1
  rw [show (split [⟨⟨#[]⟩, false, false⟩]).length = 0 by kernel_rfl]
  go_wp2_with fail
  refine (split_any _ _ _ [⟨⟨#[]⟩, true, false⟩] _ (C_one (blk_new w2 _) (kPiece_mk _ _)) (Nat.le_refl _) (by decide)).mono ?_
  rintro e w3 ⟨v, rfl, hR, hB⟩
  obtain ⟨A3, c3, rfl⟩ := Kd.R_slice hR
  have HB3 := Aside0.mk (below_trans HB2.out (below_trans (below_sub (below_alloc (Below.refl w2.heap.size w2) _) HB2.out.size) (below_sub hB (by simp; have := HB2.out.size; omega))))
  clear hR hB HB2
  rw [show (split [⟨⟨#[]⟩, true, false⟩]).length = 1 by kernel_rfl]
  go_wp2
  go_ret
  exact ⟨rfl, HB3.out⟩

set_option maxHeartbeats 2000000 in
set_option maxRecDepth 100000 in
theorem parts_main (A : Option Addr) (ca : Nat) (a : List Piece) (B : Option Addr) (cb : Nat) (b : List Piece) (w : World) (hra : Kd.C kPiece w A a.length a) (hca : a.length ≤ ca) (hrb : Kd.C kPiece w B b.length b) (hcb : b.length ≤ cb)
    (hsa : ∀ p ∈ a, p.text.size ≤ reachBytes) (hsb : ∀ p ∈ b, p.text.size ≤ reachBytes) (ha5 : psize a ≤ 5000) (hb5 : psize b ≤ 5000) :
    Calls Try.prog 3 #[.slice A a.length ca, .slice B b.length cb] w fun e w' => e = .returned (.bool true) ∧ Below w.heap.size w w' := by
  have HRA := Aside0.mk hra
  have HRB := Aside0.mk hrb
  have HCA := Aside0.mk hca
  have HCB := Aside0.mk hcb
  clear hra hrb hca hcb
  have hla : a.length ≤ psize a := psize_length a
  have hlb : b.length ≤ psize b := psize_length b
  have ea : (heavyI a == 1) = false := by simp [heavyI, ha5]
  have eb : (heavyI b == 1) = false := by simp [heavyI, hb5]
  go_enter Try.func3, Try.ntmps3
  go_wp2_with fail
  refine (alive_any _).mono ?_
  rintro e w1 ⟨rfl, hB⟩
  have HB1 := Aside0.mk hB
  clear hB
  go_wp2_with fail
  refine (heavy_any _ _ _ a _ (Kd.C_below HRA.out HB1.out) HCA.out hsa).mono ?_
  rintro e w2 ⟨rfl, hB⟩
  have HB2 := Aside0.mk (below_trans HB1.out (below_sub hB HB1.out.size))
  clear hB HB1
  go_wp2_with fail
  refine (heavy_any _ _ _ b _ (Kd.C_below HRB.out HB2.out) HCB.out hsb).mono ?_
  rintro e w3 ⟨rfl, hB⟩
  have HB3 := Aside0.mk (below_trans HB2.out (below_sub hB HB2.out.size))
  clear hB HB2
  clear hsa hsb
  go_wp2_with (first
    | ((with_reducible refine gate_dst (N := 24) rfl ?_)
       refine R_app kPiece flat_piece w.heap.size (N := 24) (w0 := w) rfl rfl (.tmp 22) (.tmp 23) 22 26 (.agg #[.string ⟨#[]⟩, .bool false, .bool false]) 24 rfl Try.underlying22 (by kernel_rfl) rfl (by decide) (by decide) (.slice (some ⟨w3.heap.size, 0, none⟩) 0 0) [] a A a.length ca rfl rfl (R_empty (blk_new w3 _) HB3.out.size) (Kd.C_below HRA.out (below_alloc HB3.out _)) (below_alloc HB3.out _) (by simp; have := HB3.out.size; omega) (by simp; omega) ?_
       intro v1 w4 hR hB hG
       obtain ⟨A1, n1, cp1, rfl⟩ := R_slice3 hR
       have HR := Aside0.mk hR; have HB4 := Aside0.mk hB; clear hR hB hG)
    | ((with_reducible refine gate_dst (N := 27) rfl ?_)
       refine Kd.R_append kPiece w.heap.size (w0 := w) (W := w4) rfl (.tmp 24) (.tmp 26) 22 26 (.agg #[.string ⟨#[]⟩, .bool false, .bool false]) 24 rfl Try.underlying22 (by kernel_rfl) rfl (by decide) (by decide) (.slice A1 n1 cp1) ([] ++ a) ⟨⟨#[120]⟩, false, true⟩ [.string ⟨#[120]⟩, .bool false, .bool true] ok0 (fun _ => False) rfl rfl (kPiece_mkM _ _ _ _) (fun _ h => h.elim) (fun _ _ => trivial) HR.out HB4.out HB4.out.size (by simp; omega) ?_
       intro v1 w5 hR hB hG _
       obtain ⟨A2, n2, cp2, rfl⟩ := R_slice3 hR
       have HR2 := Aside0.mk hR; have HB5 := Aside0.mk hB; clear hR hB hG HR HB4)
    | ((with_reducible refine gate_dst (N := 29) rfl ?_)
       refine R_app kPiece flat_piece w.heap.size (N := 29) (w0 := w) rfl rfl (.tmp 27) (.tmp 28) 22 26 (.agg #[.string ⟨#[]⟩, .bool false, .bool false]) 24 rfl Try.underlying22 (by kernel_rfl) rfl (by decide) (by decide) (.slice A2 n2 cp2) ([] ++ a ++ [⟨⟨#[120]⟩, false, true⟩]) b B b.length cb rfl rfl HR2.out (Kd.C_below HRB.out HB5.out) HB5.out HB5.out.size (by simp; omega) ?_
       intro v1 w6 hR hB hG
       obtain ⟨A3, n3, cp3, rfl⟩ := R_slice3 hR
       have HR3 := Aside0.mk hR; have HB6 := Aside0.mk hB; clear hR hB hG HR2 HB5))
  obtain ⟨hn3, hc3, hC3⟩ := Kd.R_reads' HR3.out
  subst hn3
  have hps : psize ([] ++ a ++ [⟨⟨#[120]⟩, false, true⟩] ++ b) = psize a + 2 + psize b := by rw [List.nil_append, psize_append, psize_append, show psize [(⟨⟨#[120]⟩, false, true⟩ : Piece)] = 2 by kernel_rfl]
  have hsp : split ([] ++ a ++ [⟨⟨#[120]⟩, false, true⟩] ++ b) = [] ++ split a ++ split b := by rw [List.nil_append, List.nil_append]; exact split_cut a b _ rfl
  have hsz : (split ([] ++ a ++ [⟨⟨#[120]⟩, false, true⟩] ++ b)).length ≤ 30000 := by have := split_size ([] ++ a ++ [⟨⟨#[120]⟩, false, true⟩] ++ b); omega
  have hsza : (split a).length ≤ 30000 := by have := split_size a; omega
  have hszb : (split b).length ≤ 30000 := by have := split_size b; omega
  generalize [] ++ a ++ [(⟨⟨#[120]⟩, false, true⟩ : Piece)] ++ b = L at *
  have hpL : psize L ≤ 100000000 := by omega
  refine (split_any _ _ _ L _ hC3 hc3 hpL).mono ?_
  rintro e w7 ⟨v, rfl, hR, hB⟩
  obtain ⟨A4, c4, rfl⟩ := Kd.R_slice hR
  have HS1 := Aside0.mk (Kd.R_reads' hR).2.2
  have HB7 := Aside0.mk (below_trans HB6.out (below_sub hB HB6.out.size))
  clear hR hB HB6 hC3 hc3 HR3
  have HSP := Aside0.mk hsp
  clear hsp
  go_wp2_with fail
  refine (split_any _ _ _ a _ (Kd.C_below HRA.out (below_alloc HB7.out _)) HCA.out (by omega)).mono ?_
  rintro e w8 ⟨v, rfl, hR, hB⟩
  obtain ⟨A5, c5, rfl⟩ := Kd.R_slice hR
  have HS2 := Aside0.mk (Kd.R_reads' hR).2.2
  have HN := Aside0.mk (show Kd.string.R 9 w8 w7.heap.size ok0 (.slice (some ⟨w7.heap.size, 0, none⟩) 0 0) [] from Kd.R_below (R_empty (blk_new w7 _) (Nat.le_refl _)) hB)
  have HB8 := Aside0.mk (below_trans (below_alloc (Below.refl w7.heap.size w7) _) (below_sub hB (by simp)))
  clear hR hB
  go_wp2_with (first
    | ((with_reducible refine gate_dst (N := 35) rfl ?_)
       refine R_app Kd.string flat_string w7.heap.size (N := 35) (w0 := w7) rfl rfl (.tmp 32) (.tmp 34) 28 9 (.string ⟨#[]⟩) 16 rfl Try.underlying28 (by kernel_rfl) rfl (by decide) (by decide) (.slice (some ⟨w7.heap.size, 0, none⟩) 0 0) [] (split a) A5 (split a).length c5 rfl rfl HN.out HS2.out HB8.out HB8.out.size (by simp; omega) ?_
       intro v1 w9 hR hB hG
       obtain ⟨A6, n6, cp6, rfl⟩ := R_slice3 hR
       have HR6 := Aside0.mk hR; have HB9 := Aside0.mk hB; clear hR hB hG HN HS2 HB8)
    | (go_at_call 17
       refine (split_any _ _ _ b _ (Kd.C_below HRB.out (below_trans HB7.out (below_sub HB9.out HB7.out.size))) HCB.out (by omega)).mono ?_
       rintro e w10 ⟨v, rfl, hR, hB⟩
       obtain ⟨A7, c7, rfl⟩ := Kd.R_slice hR
       have HS3 := Aside0.mk (Kd.R_reads' hR).2.2
       have HR7 := Aside0.mk (Kd.R_below HR6.out hB)
       have HB10 := Aside0.mk (below_trans HB9.out (below_sub hB HB9.out.size)); clear hR hB HR6 HB9)
    | ((with_reducible refine gate_dst (N := 38) rfl ?_)
       refine R_app Kd.string flat_string w7.heap.size (N := 38) (w0 := w7) rfl rfl (.tmp 35) (.tmp 37) 28 9 (.string ⟨#[]⟩) 16 rfl Try.underlying28 (by kernel_rfl) rfl (by decide) (by decide) (.slice A6 n6 cp6) ([] ++ split a) (split b) A7 (split b).length c7 rfl rfl HR7.out HS3.out HB10.out HB10.out.size (by simp; omega) ?_
       intro v1 w11 hR hB hG
       obtain ⟨A8, n8, cp8, rfl⟩ := R_slice3 hR
       have HR8 := Aside0.mk (R_C hR); have HB11 := Aside0.mk hB; clear hR hB hG HR7 HS3 HB10)
    | (go_at_call 16
       refine (same_true _ _ _ _ _ _ _ _ (Kd.C_below HS1.out HB11.out) (by rw [HSP.out]; exact HR8.out)).mono ?_
       rintro e w12 ⟨rfl, hB⟩
       have HB12 := Aside0.mk (below_trans HB7.out (below_sub (below_trans HB11.out (below_sub hB HB11.out.size)) HB7.out.size)); clear hB HB11 HR8))
  clear HS1 HSP
  go_loopw [6, 43] (fun v6 v43 w' => ∃ k : Nat, k ≤ a.length ∧ v43 = .int .i64 k ∧ v6 = .bool (anyQ a k) ∧ Aside0 (Below w.heap.size w w')) (fun _ v43 _ => a.length - (intOf v43).toNat)
  case atStart => exact ⟨0, Nat.zero_le _, rfl, rfl, HB12⟩
  case round =>
    obtain ⟨k, hk, rfl, rfl, HB⟩ := hrel
    by_cases hlt : k < a.length
    · have hsq := anyQ_succ a k hlt
      obtain ⟨ad, rfl, h0, h1, h2⟩ := at_piece HRA.out k hlt
      replace h0 := pw_cell_below HB.out h0
      replace h1 := pw_cell_below HB.out h1
      replace h2 := pw_cell_below HB.out h2
      generalize a[k] = p at *
      generalize anyQ a k = q at *
      have HSQ := Aside0.mk hsq
      clear hsq
      have hi0 : (0 : Int) ≤ (k : Int) := by omega
      have hi1 : (k : Int) < (a.length : Int) := by omega
      cases q
      all_goals
        go_wp2
        go_roundw
        case measure => simp [intOf]; omega
        case rel => exact ⟨k + 1, by omega, by go_num, by rw [HSQ.out]; simp, ⟨below_trans HB.out (below_sub (by repeat (first | exact Below.refl _ _ | refine below_drew ?_ | refine below_alloc ?_ _ | refine below_set ?_ (by simp; done) | refine below_set ?_ (by simp; omega))) HB.out.size)⟩⟩
    · obtain rfl : k = a.length := by omega
      rw [anyQ_all]
      clear hk
      have HQ := Aside0.mk (fun h : (a.any fun p => p.quoted) = false => split_ok a (any_false h))
      generalize (a.any fun p => p.quoted) = q at *
      go_wp2_with (first
        | (go_at_call 17
           refine (split_any _ _ _ a _ (Kd.C_below HRA.out HB.out) HCA.out (by omega)).mono ?_
           rintro e w14 ⟨v, rfl, hR, hB⟩
           obtain ⟨A9, n9, c9, rfl⟩ := R_slice3 hR
           have HF := Aside0.mk (R_C hR)
           have HB14 := Aside0.mk (below_trans HB.out (below_sub hB HB.out.size)); clear hR hB HB))
      have HZ := Aside0.mk (split_fsize a)
      generalize split a = F at *
      obtain rfl := HF.out.1
      have hFm := Kd.C_max HF.out
      go_loopw [56] (fun v56 w' => ∃ k : Nat, k ≤ F.length ∧ v56 = .int .i64 k ∧ Aside0 (Below w14.heap.size w14 w')) (fun v56 _ => F.length - (intOf v56).toNat)
      case atStart => exact ⟨0, Nat.zero_le _, rfl, ⟨Below.refl _ _⟩⟩
      case round =>
        obtain ⟨k, hk, rfl, HB⟩ := hrel
        by_cases hlt : k < F.length
        · obtain ⟨ad, rfl, h0⟩ := at_str HF.out k hlt
          replace h0 := pw_cell_below HB.out h0
          have HOK := Aside0.mk (fun h => HQ.out h F[k] (List.getElem_mem hlt))
          have hsz : F[k].size ≤ 5000 := Nat.le_trans (HZ.out _ (List.getElem_mem hlt)) ha5
          generalize F[k] = f at *
          have hi0 : (0 : Int) ≤ (k : Int) := by omega
          have hi1 : (k : Int) < (F.length : Int) := by omega
          go_wp2
          go_loop [11] (fun v11 => ∃ j : Nat, j ≤ f.size ∧ v11 = .int .i64 j) (fun v11 => f.size - (intOf v11).toNat)
          case atStart => exact ⟨0, Nat.zero_le _, rfl⟩
          case round =>
            obtain ⟨j, hj, rfl⟩ := hrel
            by_cases hjl : j < f.size
            · have hj0 : (0 : Int) ≤ (j : Int) := by omega
              have hj1 : (j : Int) < (f.size : Int) := by omega
              have hbt := bt_nat f j
              cases q with
              | true =>
                go_wp2
                go_round
                case measure => simp [intOf]; omega
                case rel => exact ⟨j + 1, by omega, by go_num⟩
              | false =>
                have hbk := (HOK.out rfl).2 j hjl
                go_wp2_with (first
                  | (go_at_call 18; refine (break_any _ _).mono ?_; rintro e w' ⟨rfl, rfl⟩))
                go_round
                case measure => simp [intOf]; omega
                case rel => exact ⟨j + 1, by omega, by go_num⟩
            · cases q with
              | true =>
                go_wp2
                go_roundw
                case measure => simp [intOf]; omega
                case rel => exact ⟨k + 1, by omega, by go_num, HB⟩
              | false =>
                have he := str_ne_empty (HOK.out rfl).1
                have he1 := he.1
                have he2 := he.2.1
                have he3 := he.2.2
                clear he
                go_wp2
                go_roundw
                case measure => simp [intOf]; omega
                case rel => exact ⟨k + 1, by omega, by go_num, HB⟩
        · go_wp2
          go_ret
          exact ⟨rfl, below_trans HB14.out (below_sub HB.out HB14.out.size)⟩
end Go.Proofs.Ytkepmbkghmkodaa.Field
