/- FieldQuotes: for every slice of strings that can be read the law returns true and leaves it as it was. No condition. -/
import Derived.Test.YtkepmbkghmkodaaRows
import Derived.Test.YtkepmbkghmkodaaFieldJoin
import Derived.Test.YtkepmbkghmkodaaFieldParts
import Derived.Test.YtkepmbkghmkodaaOpen
import Derived.ProofKit
import Derived.OpenShut
import Derived.ShutString
import Derived.ChangeOld
import Derived.SizedLaws
namespace Go.Proofs.Ytkepmbkghmkodaa
open Go.RowKit Go.Proofs.YtkepmbkghmkodaaW.PrintWords Go.Proofs.YtkepmbkghmkodaaW.PrintLast Go.Proofs.Ytkepmbkghmkodaa.Base Go.Proofs.Ytkepmbkghmkodaa.Field
set_option linter.unusedVariables false
set_option linter.unusedSimpArgs false
namespace Quotes
def cutP : Piece := ⟨⟨#[]⟩, false, true⟩
def quoP (s : ByteArray) : Piece := ⟨s, true, false⟩
def qps : List ByteArray → List Piece
  | [] => []
  | s :: r => quoP s :: r.flatMap fun t => [cutP, quoP t]
def rj : List ByteArray → List UInt8
  | [] => []
  | s :: r => s.data.toList ++ r.flatMap fun t => 32 :: t.data.toList
theorem qps_succ (l : List ByteArray) (k : Nat) (h : k < l.length) : qps (l.take (k + 1)) = qps (l.take k) ++ (if 0 < k then [cutP] else []) ++ [quoP l[k]] := by
  cases l with
  | nil => simp at h
  | cons s r =>
    cases k with
    | zero => simp [qps]
    | succ k =>
      have h' : k < r.length := by simpa using h
      simp only [List.take_succ_cons, qps, List.getElem_cons_succ, Nat.zero_lt_succ, if_true]
      rw [List.take_succ_eq_append_getElem h', List.flatMap_append]
      simp
theorem rj_succ (l : List ByteArray) (k : Nat) (h : k < l.length) : rj (l.take (k + 1)) = rj (l.take k) ++ (if 0 < k then [32] else []) ++ l[k].data.toList := by
  cases l with
  | nil => simp at h
  | cons s r =>
    cases k with
    | zero => simp [rj]
    | succ k =>
      have h' : k < r.length := by simpa using h
      simp only [List.take_succ_cons, rj, List.getElem_cons_succ, Nat.zero_lt_succ, if_true]
      rw [List.take_succ_eq_append_getElem h', List.flatMap_append]
      simp
theorem join_qps (l : List ByteArray) : joinL (qps l) = rj l := by
  cases l with
  | nil => rfl
  | cons s r =>
    simp only [joinL, qps, rj, List.flatMap_cons]
    congr 1
    induction r with
    | nil => rfl
    | cons t r ih =>
      simp only [List.flatMap_cons, List.flatMap_append] at *
      rw [ih]
      simp [pbytes, cutP, quoP]
theorem strOfNums_bytesOf (s : ByteArray) : strOfNums (bytesOf s) = s := by
  apply ByteArray.ext
  apply Array.toList_inj.1
  rw [strOfNums_data, bytesOf, List.map_map]
  conv => rhs; rw [← List.map_id s.data.toList]
  apply List.map_congr_left
  intro b _
  simp
theorem fold_rest (r : List ByteArray) (d : List ByteArray) (s : ByteArray) : (fend ((r.flatMap fun t => [cutP, quoP t]).foldl fpiece ⟨d, bytesOf s, true⟩)).done = d ++ [s] ++ r := by
  induction r generalizing d s with
  | nil => simp [fend, strOfNums_bytesOf]
  | cons t r ih =>
    simp only [List.flatMap_cons, List.foldl_append, List.foldl_cons, List.foldl_nil]
    have h1 : fpiece (fpiece ⟨d, bytesOf s, true⟩ cutP) (quoP t) = ⟨d ++ [s], bytesOf t, true⟩ := by
      simp [fpiece, cutP, quoP, fend, strOfNums_bytesOf]
    rw [h1, ih]
    simp
theorem split_qps (l : List ByteArray) : split (qps l) = l := by
  cases l with
  | nil => rfl
  | cons s r =>
    unfold split qps
    simp only [List.foldl_cons]
    have h1 : fpiece ⟨[], [], false⟩ (quoP s) = ⟨[], bytesOf s, true⟩ := by simp [fpiece, quoP]
    rw [h1, fold_rest]
    rfl
theorem psize_qps (l : List ByteArray) (h : ∀ s ∈ l, s.size ≤ 500) : psize (qps l) ≤ 502 * l.length := by
  cases l with
  | nil => simp [qps, psize]
  | cons s r =>
    have h0 := h s (by simp)
    have h1 : ∀ t ∈ r, t.size ≤ 500 := fun t ht => h t (by simp [ht])
    have h2 : psize (r.flatMap fun t => [cutP, quoP t]) ≤ 502 * r.length := by
      clear h h0
      induction r with
      | nil => simp [psize]
      | cons t r ih =>
        have ht := h1 t (by simp)
        have := ih (fun x hx => h1 x (by simp [hx]))
        simp only [List.flatMap_cons, psize_append, List.length_cons]
        have h3 : psize [cutP, quoP t] = t.size + 2 := by
          show (cutP.text.size + 1) + ((quoP t).text.size + 1 + 0) = t.size + 2
          have h4 : cutP.text.size = 0 := rfl
          have h5 : (quoP t).text.size = t.size := rfl
          omega
        omega
    have h3 : psize (quoP s :: r.flatMap fun t => [cutP, quoP t]) = (s.size + 1) + psize (r.flatMap fun t => [cutP, quoP t]) := by simp [psize, quoP]
    simp only [qps, List.length_cons]
    omega
theorem rj_size (l : List ByteArray) (h : ∀ s ∈ l, s.size ≤ 500) : (rj l).length ≤ 502 * l.length := by
  rw [← join_qps]
  exact Nat.le_trans (joinL_size _) (psize_qps l h)
theorem qps_length (l : List ByteArray) : (qps l).length ≤ 2 * l.length := by
  cases l with
  | nil => simp [qps]
  | cons s r =>
    simp only [qps, List.length_cons]
    have : (r.flatMap fun t => [cutP, quoP t]).length = 2 * r.length := by
      induction r with
      | nil => rfl
      | cons t r ih => simp only [List.flatMap_cons, List.length_append, ih, List.length_cons, List.length_nil]; omega
    omega
end Quotes
open Quotes
set_option maxHeartbeats 1000000 in
set_option maxRecDepth 100000 in
theorem rjoin09_any (A : Option Addr) (n c : Nat) (l : List ByteArray) (w : World) (hr : Kd.string.C w A n l) (hs : ∀ s ∈ l, s.size ≤ 500) (hn : l.length ≤ 200) :
    Calls Try.prog 22 #[.slice A n c] w fun e w' => e = .returned (.string ⟨(rj l).toArray⟩) ∧ w = w' := by
  obtain rfl := hr.1
  have HR := Aside0.mk hr
  clear hr
  have hm := Kd.C_max HR.out
  go_enter Try.func22, Try.ntmps22
  go_wp2
  go_loop [3, 8] (fun v3 v8 => ∃ k : Nat, k ≤ l.length ∧ v8 = .int .i64 k ∧ v3 = .string ⟨(rj (l.take k)).toArray⟩) (fun _ v8 => l.length - (intOf v8).toNat)
  case atStart => exact ⟨0, Nat.zero_le _, rfl, rfl⟩
  case round =>
    obtain ⟨k, hk, rfl, rfl⟩ := hrel
    by_cases hlt : k < l.length
    · have hsc := rj_succ l k hlt
      have hw := rj_size (l.take k) (fun s h => hs s (List.mem_of_mem_take h))
      have hz : l[k].size ≤ 500 := hs _ (List.getElem_mem hlt)
      have hlk : (l.take k).length ≤ 200 := by rw [List.length_take]; omega
      obtain ⟨ad, rfl, h0⟩ := at_str HR.out k hlt
      generalize l[k] = p at *
      generalize rj (l.take k) = q at *
      have HSC := Aside0.mk hsc
      clear hsc
      have hi0 : (0 : Int) ≤ (k : Int) := by omega
      have hi1 : (k : Int) < (l.length : Int) := by omega
      by_cases hk0 : 0 < k
      · have hd : decide ((0 : Int) < (k : Int)) = true := by simpa using hk0
        go_wp2
        go_round
        case measure => simp [intOf]; omega
        case rel => exact ⟨k + 1, by omega, by go_num, by rw [HSC.out, if_pos hk0, str_app, str_app]⟩
      · have hd : decide ((0 : Int) < (k : Int)) = false := by simpa using hk0
        go_wp2
        go_round
        case measure => simp [intOf]; omega
        case rel => exact ⟨k + 1, by omega, by go_num, by rw [HSC.out, if_neg hk0, str_app, List.append_nil]⟩
    · go_wp2
      go_ret
      obtain rfl : k = l.length := by omega
      exact ⟨by rw [List.take_of_length_le (Nat.le_refl _)]; rfl, rfl⟩
set_option maxHeartbeats 2000000 in
set_option maxRecDepth 100000 in
theorem quotes_any (A : Option Addr) (n c : Nat) (l : List ByteArray) (w : World) (hr : Kd.string.C w A n l) (hs : ∀ s ∈ l, s.size ≤ reachBytes) :
    Calls Try.prog 5 #[.slice A n c] w fun e w' => e = .returned (.bool true) ∧ Below w.heap.size w w' := by
  obtain rfl := hr.1
  have HR := Aside0.mk hr
  have HZ := Aside0.mk hs
  clear hr hs
  have hm := Kd.C_max HR.out
  go_enter Try.func5, Try.ntmps5
  go_wp2_with fail
  refine (alive_any _).mono ?_
  rintro e w1 ⟨rfl, hB⟩
  have HB1 := Aside0.mk hB
  clear hB
  by_cases h200 : 200 < l.length
  · have hd : decide ((200 : Int) < (l.length : Int)) = true := by simp; omega
    go_wp2
    go_ret
    exact ⟨rfl, HB1.out⟩
  · have hd : decide ((200 : Int) < (l.length : Int)) = false := by simp; omega
    go_wp2
    go_loopw [3, 14] (fun v3 v14 w' => ∃ (k : Nat) (A3 : Option Addr) (n3 c3 : Nat), k ≤ l.length ∧ v14 = .int .i64 k ∧ v3 = .slice A3 n3 c3 ∧ Aside0 (kPiece.R 26 w' w1.heap.size ok0 (.slice A3 n3 c3) (qps (l.take k))) ∧ Aside0 (∀ s ∈ l.take k, s.size ≤ 500) ∧ Aside0 (Below w1.heap.size w1 w')) (fun _ v14 _ => l.length - (intOf v14).toNat)
    case atStart => exact ⟨0, _, _, _, Nat.zero_le _, rfl, rfl, ⟨R_empty (blk_new w1 _) (Nat.le_refl _)⟩, ⟨by simp⟩, ⟨below_alloc (Below.refl _ _) _⟩⟩
    case round =>
      obtain ⟨k, A3, n3, c3, hk, rfl, rfl, HQ, HX, HB⟩ := hrel
      by_cases hlt : k < l.length
      · have hsc := qps_succ l k hlt
        have hql := qps_length (l.take k)
        have hx1 : (∀ s ∈ l.take k, s.size ≤ 500) → l[k].size ≤ 500 → ∀ s ∈ l.take (k + 1), s.size ≤ 500 := fun h1 h2 s hs => by
          rw [List.take_succ_eq_append_getElem hlt] at hs
          rcases List.mem_append.1 hs with hs | hs
          · exact h1 s hs
          · obtain rfl : s = l[k] := by simpa using hs
            exact h2
        have hz : l[k].size ≤ 140737488355328 := Nat.le_trans (HZ.out _ (List.getElem_mem hlt)) (by decide)
        have hlk : (l.take k).length ≤ 200 := by rw [List.length_take]; omega
        obtain ⟨ad, rfl, h0⟩ := at_str HR.out k hlt
        replace h0 := pw_cell_below (below_trans HB1.out (below_sub HB.out HB1.out.size)) h0
        have HSC := Aside0.mk hsc
        have HX1 := Aside0.mk hx1
        clear hsc hx1
        generalize l[k] = p at *
        generalize qps (l.take k) = q at *
        have hi0 : (0 : Int) ≤ (k : Int) := by omega
        have hi1 : (k : Int) < (l.length : Int) := by omega
        by_cases hgt : 500 < p.size
        · have hd5 : decide ((500 : Int) < (p.size : Int)) = true := by simp; omega
          go_wp2
          go_ret
          exact ⟨rfl, below_trans HB1.out (below_sub HB.out HB1.out.size)⟩
        · have hd5 : decide ((500 : Int) < (p.size : Int)) = false := by simp; omega
          by_cases hk0 : 0 < k
          · have hd0 : decide ((0 : Int) < (k : Int)) = true := by simpa using hk0
            go_wp2_with (first
              | ((with_reducible refine gate_dst (N := 27) rfl ?_)
                 refine Kd.R_append kPiece w1.heap.size (w0 := w1) (W := wr) rfl (.tmp 24) (.tmp 26) 22 26 (.agg #[.string ⟨#[]⟩, .bool false, .bool false]) 24 rfl Try.underlying22 (by kernel_rfl) rfl (by decide) (by decide) (.slice A3 n3 c3) q cutP [.string ⟨#[]⟩, .bool false, .bool true] ok0 (fun _ => False) rfl rfl (kPiece_mkM _ _ _ _) (fun _ h => h.elim) (fun _ _ => trivial) HQ.out HB.out HB.out.size (by omega) ?_
                 intro v1 w5 hR hB hG _
                 obtain ⟨A4, n4, c4, rfl⟩ := R_slice3 hR
                 have HQ4 := Aside0.mk hR; have HB4 := Aside0.mk hB; clear hR hB hG)
              | ((with_reducible refine gate_dst (N := 32) rfl ?_)
                 refine Kd.R_append kPiece w1.heap.size (w0 := w1) (W := w5) rfl (.tmp 28) (.tmp 31) 22 26 (.agg #[.string ⟨#[]⟩, .bool false, .bool false]) 24 rfl Try.underlying22 (by kernel_rfl) rfl (by decide) (by decide) (.slice A4 n4 c4) (q ++ [cutP]) (quoP p) [.string p, .bool true, .bool false] ok0 (fun _ => False) rfl rfl (kPiece_mkM _ _ _ _) (fun _ h => h.elim) (fun _ _ => trivial) HQ4.out HB4.out HB4.out.size (by rw [List.length_append, List.length_singleton]; omega) ?_
                 intro v1 w6 hR hB hG _
                 obtain ⟨A5, n5, c5, rfl⟩ := R_slice3 hR
                 have HQ5 := Aside0.mk hR; have HB5 := Aside0.mk hB; clear hR hB hG))
            go_roundw
            case measure => simp [intOf]; omega
            case rel => exact ⟨k + 1, A5, n5, c5, by omega, by go_num, rfl, by rw [HSC.out, if_pos hk0]; exact HQ5, ⟨HX1.out HX.out (by omega)⟩, HB5⟩
          · have hd0 : decide ((0 : Int) < (k : Int)) = false := by simpa using hk0
            go_wp2_with (first
              | ((with_reducible refine gate_dst (N := 32) rfl ?_)
                 refine Kd.R_append kPiece w1.heap.size (w0 := w1) (W := wr) rfl (.tmp 28) (.tmp 31) 22 26 (.agg #[.string ⟨#[]⟩, .bool false, .bool false]) 24 rfl Try.underlying22 (by kernel_rfl) rfl (by decide) (by decide) (.slice A3 n3 c3) q (quoP p) [.string p, .bool true, .bool false] ok0 (fun _ => False) rfl rfl (kPiece_mkM _ _ _ _) (fun _ h => h.elim) (fun _ _ => trivial) HQ.out HB.out HB.out.size (by omega) ?_
                 intro v1 w6 hR hB hG _
                 obtain ⟨A5, n5, c5, rfl⟩ := R_slice3 hR
                 have HQ5 := Aside0.mk hR; have HB5 := Aside0.mk hB; clear hR hB hG))
            go_roundw
            case measure => simp [intOf]; omega
            case rel => exact ⟨k + 1, A5, n5, c5, by omega, by go_num, rfl, by rw [HSC.out, if_neg hk0, List.append_nil]; exact HQ5, ⟨HX1.out HX.out (by omega)⟩, HB5⟩
      · obtain rfl : k = l.length := by omega
        have HX5 := Aside0.mk (fun s (hs : s ∈ l) => HX.out s (by rw [List.take_of_length_le (Nat.le_refl _)]; exact hs))
        have hps := psize_qps l (fun s hs => HX.out s (by rw [List.take_of_length_le (Nat.le_refl _)]; exact hs))
        have hq : qps (l.take l.length) = qps l := by rw [List.take_of_length_le (Nat.le_refl _)]
        rw [hq] at HQ
        have hsp := split_qps l
        have hjp := join_qps l
        generalize qps l = q at *
        have HSP := Aside0.mk hsp
        have HJP := Aside0.mk hjp
        clear hsp hjp hq
        have hpq : psize q ≤ 100000000 := by omega
        obtain ⟨hn3, hc3, _⟩ := Kd.R_reads' HQ.out
        have HC3 := Aside0.mk (R_C HQ.out)
        have HN3 := Aside0.mk hn3
        have HL3 := Aside0.mk hc3
        clear hn3 hc3 hps HX
        have heq : ((⟨(rj l).toArray⟩ : ByteArray).toList == (⟨(rj l).toArray⟩ : ByteArray).toList) = true := beq_self_eq_true _
        go_wp2_with (first
          | (go_at_call 17
             refine (split_any _ _ _ q _ HC3.out HL3.out hpq).mono ?_
             rintro e w4 ⟨v, rfl, hR, hB⟩
             obtain ⟨A6, n6, c6, rfl⟩ := R_slice3 hR
             have HF := Aside0.mk (R_C hR)
             have HB4 := Aside0.mk hB; clear hR hB)
          | (go_at_call 16
             refine (same_true _ _ _ _ _ _ _ _ HF.out (by rw [HSP.out]; exact Kd.C_below HR.out (below_trans HB1.out (below_sub (below_trans HB.out (below_sub HB4.out HB.out.size)) HB1.out.size)))).mono ?_
             rintro e w5 ⟨rfl, hB⟩
             have HB5 := Aside0.mk (below_trans HB4.out (below_sub hB HB4.out.size)); clear hB)
          | (go_at_call 21
             refine (join_any _ _ _ q _ (Kd.C_below HC3.out HB5.out) hpq).mono ?_
             rintro e w6 ⟨rfl, hB⟩
             rw [HJP.out]
             have HB6 := Aside0.mk (below_trans HB1.out (below_sub (below_trans HB.out (below_sub (below_trans HB5.out (below_sub hB HB5.out.size)) HB.out.size)) HB1.out.size)); clear hB)
          | (go_at_call 22
             refine (rjoin09_any _ _ _ l _ (Kd.C_below HR.out HB6.out) HX5.out (by omega)).mono ?_
             rintro e w7 ⟨rfl, rfl⟩))
        go_ret
        exact ⟨rfl, HB6.out⟩
namespace RowFieldQuotes
open Go.ChangeShapes Go.WideShapes Go.ChangeAt Go.RowKit
open Go.ChangeMaps (open_string shut_string)
theorem own : ownKnob Try.prog.godebug = none := by kernel_rfl
theorem laidOut : laidOutB Try.prog = true := by kernel_rfl
set_option maxRecDepth 100000 in
theorem lifted (os : Os) (started : os.Started) (H : Type) (enc : TypeId × Value → H) :
    ReturnsInHanded {} Try.checked os 5 .any (Rows.fieldQuotesSpec.pre6 enc Try.prog Try.f5 Rows.fieldQuotesRow.domain false) (Rows.fieldQuotesSpec.post enc Try.prog Try.f5 false true false false) := by
  refine returnsInHanded_of_change_sized (C := Try.checked) own started (by kernel_rfl) Try.func5
    (ChangeSpec.witness6 (enc := enc) (C := Try.checked) false ⟨#[], #[.slice none 0 0], []⟩ 8 (by kernel_rfl) (by kernel_rfl) (by kernel_rfl) (by kernel_rfl)) ?_
  intro W base args ds gs before hval0 hW hcnd hsz0 _
  have hsz : (DataW.weightsEach Try.prog (Try.f5.params.toList ++ Rows.fieldQuotesSpec.plain.varTypes Try.prog) (ds ++ gs)).all (· ≤ reachBytes) = true := hsz0
  have hval : ∀ (j : Nat) t v, Try.f5.params[j]? = some t → args[j]? = some v → Value.okWide Try.prog W .any base t v := hval0
  have hW' := hW
  obtain ⟨p, q, hA0, hV, rfl, hfz, hnd⟩ := hW
  have hA : DataW.TrodAll enc Try.prog W 0 (fun _ => true) true Try.f5.params.toList args.toList ds p := hA0
  rw [Try.params5] at hA hval hsz
  obtain ⟨v0, vs0, d0, ds0, p0, q0, hargs, rfl, rfl, h0, r0⟩ := trodAll_cons hA
  obtain ⟨rfl, rfl, rfl⟩ := trodAll_nil r0
  obtain rfl : args = #[v0] := by cases args; simp_all
  obtain ⟨rfl, rfl⟩ := trodVars_none hV
  obtain ⟨a0, n0, c0, rfl⟩ := okWide_slice Try.underlying28 (hval 0 28 v0 rfl rfl)
  have t0 := h0
  have lt0 : ∀ x ∈ p0, x.block < W.heap.size := by obtain ⟨m, hm⟩ := t0; exact DataW.trod_lt m _ _ _ hm
  have z0 : ∀ n ∈ d0.weights Try.prog 28, n ≤ reachBytes := fun n hn => by simpa using List.all_eq_true.1 hsz n (DataW.weights_mem_each (j := 0) rfl rfl n hn)
  obtain ⟨l0, C0, k0, V0⟩ := Open.open_sl (Open.op_slice Try.underlying28 (by kernel_rfl) (Open.op_string Try.underlying9)) h0 z0
  clear hA0 hval0 hsz0 hsz
  refine (quotes_any _ _ _ l0 W C0 V0.2).mono fun e W' ⟨he, bel⟩ => ?_
  subst he
  exact ⟨_, rfl, _, _, _, [], _, [], hW', trodAll_mk1 (shut_bool Try.underlying4 _), (trodAll_cons_mk (Below.trod laidOut (by kernel_rfl) (of_decide_eq_true (by kernel_rfl)) t0 bel lt0) trodAll_mk0), rfl, bel.frame _, fun h => by cases h⟩
theorem proved : Rows.FieldQuotesSaid :=
  OpenClaim.holds_of_wide 5 Try.f5 rfl rfl rfl rfl rfl rfl rfl ⟨rfl, rfl, rfl, rfl, rfl⟩ rfl rfl rfl rfl rfl (by kernel_rfl) Try.func5 (by kernel_rfl)
    (of_decide_eq_true (by kernel_rfl)) (by unfold Func.isWrapper; first | (rw [if_pos (by decide +kernel)]; kernel_rfl) | (rw [if_neg (by decide +kernel)]; exact ⟨rfl, rfl⟩))
    (fun os started H enc _ => lifted os started H enc)
end RowFieldQuotes
theorem fieldQuotes_holds : Rows.FieldQuotesSaid := RowFieldQuotes.proved
#print axioms fieldQuotes_holds
end Go.Proofs.Ytkepmbkghmkodaa
