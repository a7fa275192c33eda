/- pattern.set: the walk. -/
import Derived.Test.YtkepmbkghmkodaaPatPure
import Derived.Outline
namespace Go.Proofs.Ytkepmbkghmkodaa.Pat
open Go.RowKit Go.Proofs.YtkepmbkghmkodaaW.PrintWords Go.Proofs.YtkepmbkghmkodaaW.PrintLast Go.Proofs.Ytkepmbkghmkodaa.Base Go.Proofs.Ytkepmbkghmkodaa.P Go.Proofs.Ytkepmbkghmkodaa.Seq
set_option linter.unusedVariables false
set_option linter.unusedSimpArgs false
theorem is_any (x : Ch) (c : Int) (w : World) : Calls Try.prog 117 #[.agg #[.int .u8 x.f0, .bool x.f1], .int .u8 c] w fun e w' => e = .returned (.bool (isB x c)) ∧ Below w.heap.size w w' := by
  refine (pattern_char_is.calls x.f0 x.f1 c (isB x c) w ?_)
  unfold pattern_char_is.f isB
  by_cases h : x.f0 = c
  · rw [if_pos h, h]; simp
  · rw [if_neg h, beq_eq_false_iff_ne.2 h]; rfl
theorem at_ch {w : World} {A : Option Addr} {n : Nat} {xs : List Ch} (h : Kd.C k161 w A n xs) (i : Nat) (hi : i < xs.length) : ∃ ad, A = some ad ∧ w.cell? (ad.add (i * 2)) = some (.int .u8 xs[i].f0) ∧ w.cell? ⟨(ad.add (i * 2)).block, (ad.add (i * 2)).off + 1, none⟩ = some (.bool xs[i].f1) := by
  obtain ⟨ad, e, h0, h1⟩ := at_T161 h (i : Int) (by omega) (by have := h.1; omega)
  have hd : rd_T161 xs (i : Int) = xs[i] := by simp [rd_T161, List.getD_eq_getElem?_getD, List.getElem?_eq_getElem hi]
  rw [hd, Int.toNat_natCast] at h0 h1
  exact ⟨ad, e, h0, h1⟩
theorem zero_arr : Try.zeroCells134.setIfInBounds 0 (Value.int IntKind.i64 3) = (TH 3 zeroS).arr := by kernel_rfl
theorem Addr_add2 {ad : Addr} : ad.add 2 = ⟨ad.block, ad.off + 2, none⟩ := by
  unfold Addr.add
  split
  · rename_i h; cases h
  · rfl
theorem size_th (S : Nat → Bool) (k : Int) : (TH k S).arr.size = 258 := by simp [Th.arr, Th.cells, TH, bl]
theorem info_th (S : Nat → Bool) : (Try.prog.info? 134).map (·.size) = some (TH 3 S).arr.size := by
  rw [size_th]; kernel_rfl
theorem one_th (S : Nat → Bool) : (TH 3 S).arr.all (·.oneCell') = true := by
  rw [Array.all_eq_true_iff_forall_mem]
  intro v hv
  simp only [Th.arr, Th.cells, TH, List.mem_toArray, List.mem_cons, List.mem_map] at hv
  rcases hv with rfl | rfl | ⟨b, _, rfl⟩ <;> rfl
theorem res_set (S : Nat → Bool) (g : Nat) (m : Value) (w : World) (hg : w.heap[g]? = some (.cells (TH 3 S).arr 134 (0, 0))) (tmps : Array Value) (h2 : tmps.getD 2 undef = .pointer (some ⟨g, 0, none⟩)) (h3 : tmps.getD 3 undef = m) :
    (results Try.f118 tmps).run Try.prog w = .ok (.tuple #[.agg (TH 3 S).arr, m]) w := by
  have h2' : tmps[2]?.getD undef = .pointer (some ⟨g, 0, none⟩) := by simpa using h2
  have h3' : tmps[3]?.getD undef = m := by simpa using h3
  simp [results, Try.results118, h2', h3', asAddr, run_loadVar_row w g _ _ _ _ _ hg Try.underlying134 rfl (info_th S)]
def setRes (l : List Ch) (nt : Bool) (first : Nat) (x : Array Value) (m : Int) : Prop := match endF l first first with
  | some e => x = (TH 3 fun c => hasF l first e (c : Int) != nt).arr ∧ m = (e : Int) + 1
  | none => (∃ S, x = (TH 3 S).arr) ∧ m = 0
def Inv (l : List Ch) (first k : Nat) (S : Nat → Bool) : Prop := endF l first first = endF l first k ∧ ∀ e, endF l first k = some e → ∀ c : Nat, c < 256 → hasF l first e (c : Int) = (S c || hasF l k e (c : Int))
theorem inv_start (l : List Ch) (first : Nat) : Inv l first first zeroS := ⟨rfl, fun e he c hc => by simp [zeroS]⟩
theorem inv_step {l : List Ch} {first k : Nat} {S : Nat → Bool} (h : Inv l first k S) (hk : k < l.length) (h1 : (decide (first < k) && isC l k 93) = false) (j : Int) (hj : j = byteAt l (k + memb l k - 1) + 1 ∨ (byteAt l (k + memb l k - 1) < byteAt l k ∧ j = byteAt l k)) : Inv l first (k + memb l k) (addS S (byteAt l k) j) := by
  obtain ⟨h2, h3⟩ := h
  rw [endF_step hk h1] at h2 h3
  refine ⟨h2, fun e he c hc => ?_⟩
  have hlt := (endF_lt _ _ _ (Nat.le_refl _) he).1
  have := memb_pos l k
  rw [h3 e he c hc, hasF_step (by omega)]
  unfold addS
  have e1 : (decide ((c : Int) ≤ byteAt l (k + memb l k - 1)) = decide ((c : Int) < j)) ∨ (decide (byteAt l k ≤ (c : Int)) && decide ((c : Int) ≤ byteAt l (k + memb l k - 1))) = (decide (byteAt l k ≤ (c : Int)) && decide ((c : Int) < j)) := by
    rcases hj with rfl | ⟨hj, rfl⟩
    · left
      by_cases h : (c : Int) ≤ byteAt l (k + memb l k - 1)
      · rw [decide_eq_true h, decide_eq_true (by omega)]
      · rw [decide_eq_false h, decide_eq_false (by omega)]
    · right
      by_cases h : byteAt l k ≤ (c : Int)
      · rw [decide_eq_false (show ¬ (c : Int) ≤ byteAt l (k + memb l k - 1) by omega), decide_eq_false (show ¬ (c : Int) < byteAt l k by omega)]
      · simp [h]
  rcases e1 with e1 | e1
  · rw [e1, Bool.or_assoc]
  · rw [e1, Bool.or_assoc]
theorem inv_end {l : List Ch} {first k : Nat} {S : Nat → Bool} (h : Inv l first k S) (nt : Bool) (hk : k < l.length) (h1 : (decide (first < k) && isC l k 93) = true) : setRes l nt first (TH 3 (notS S nt 256)).arr ((k : Int) + 1) := by
  unfold setRes
  rw [h.1, endF_at hk h1]
  refine ⟨?_, rfl⟩
  have : bl (notS S nt 256) = bl (fun c => hasF l first k (c : Int) != nt) := bl_congr fun c hc => by
    rw [h.2 k (endF_at hk h1) c hc, hasF_end (l := l) (k := k) (e := k) (by omega)]
    simp [notS, hc]
  unfold TH
  rw [this]
def SetPost (l : List Ch) (w : World) (e : Ending) (w' : World) : Prop := ∃ x m, e = .returned (.tuple #[.agg x, .int .i64 m]) ∧ setRes l (isC l 1 33) (if isC l 1 33 = true then 2 else 1) x m ∧ Below w.heap.size w w'
theorem memb3 (l : List Ch) (k : Nat) : (memb l k == 3) = (decide (k + 2 < l.length) && isC l (k + 1) 45 && !isC l (k + 2) 93) := by
  unfold memb
  cases (decide (k + 2 < l.length) && isC l (k + 1) 45 && !isC l (k + 2) 93) <;> rfl
set_option maxHeartbeats 8000000 in
set_option maxRecDepth 100000 in
theorem set_body (A : Option Addr) (c : Nat) (l : List Ch) (w : World) (hr : Kd.C k161 w A l.length l) (hl : l.length ≤ 100000000) (hb : ∀ x ∈ l, 0 ≤ x.f0 ∧ x.f0 ≤ 255) :
    Calls Try.prog 118 #[.slice A l.length c] w (SetPost l w) := by
  have HR := Aside0.mk hr
  have HBY := Aside0.mk hb
  clear hr hb
  go_enter Try.func118, Try.ntmps118
  go_upto_region 2 with (fail)
  rw [zero_arr]
  have HB := Aside0.mk (below_alloc (Below.refl w.heap.size w) (.cells (TH 3 zeroS).arr 134))
  have HG := Aside0.mk (blk_new w (.cells (TH 3 zeroS).arr 134))
  generalize w.alloc (.cells (TH 3 zeroS).arr 134) = wb at *
  go_upto_region 3 with (fail)
  go_cut [5] (fun v5 wc => v5 = .bool (isC l 1 33) ∧ Aside0 (Below w.heap.size w wc) ∧ Aside0 (wc.heap[w.heap.size]? = some (.cells (TH 3 zeroS).arr 134 (0, 0))))
  case first =>
    by_cases h1 : 1 < l.length
    · obtain ⟨ad, rfl, h0, hq⟩ := at_ch HR.out 1 h1
      replace h0 := pw_cell_below HB.out h0
      replace hq := pw_cell_below HB.out hq
      simp only [Nat.one_mul] at h0 hq
      rw [Addr_add2] at h0 hq
      have hi1 : (1 : Int) < (l.length : Int) := by omega
      have hisc := isC_lt (c := 33) h1
      have HI := Aside0.mk hisc
      clear hisc
      generalize l[1] = x at *
      go_wp2_with (first
        | (go_at_call 117; refine (is_any x _ _).mono ?_; rintro e w1 ⟨rfl, hB⟩; have n0 := Aside0.mk (below_trans HB.out (below_sub hB HB.out.size)); have n1 := Aside0.mk (blk_below HG.out hB); clear HB HG hB; have HB := n0; have HG := n1; clear n0 n1))
      go_meet
      case rel => exact ⟨by rw [HI.out], HB, HG⟩
    · have hi1 : decide ((1 : Int) < (l.length : Int)) = false := decide_eq_false (by omega)
      have HI := Aside0.mk (isC_ge (c := 33) h1)
      go_wp2
      go_meet
      case rel => exact ⟨by rw [HI.out], HB, HG⟩
  case rest =>
    clear HB HG
    obtain ⟨rfl, HB, HG⟩ := hcut
    generalize hnt : isC l 1 33 = nt
    have HNT := Aside0.mk hnt
    have HF : Aside0 ((if isC l 1 33 = true then 2 else 1) = (if nt = true then 2 else 1)) := ⟨by rw [hnt]⟩
    clear hnt
    obtain ⟨first, hfirst⟩ : ∃ first : Nat, (if nt = true then 2 else 1) = first := ⟨_, rfl⟩
    have hf1 : first ≤ 2 := by rw [← hfirst]; split <;> omega
    rw [hfirst] at HF
    have HFI := Aside0.mk hfirst
    clear hfirst
    go_upto_if 23 with (fail)
    go_cut [4] (fun v4 wc => v4 = .int .i64 first ∧ Aside0 (Below w.heap.size w wc) ∧ Aside0 (wc.heap[w.heap.size]? = some (.cells (TH 3 zeroS).arr 134 (0, 0))))
    case first =>
      cases nt with
      | true =>
        go_wp2
        go_meet
        case rel => exact ⟨by rw [← HFI.out]; rfl, HB, HG⟩
      | false =>
        go_wp2
        go_meet
        case rel => exact ⟨by rw [← HFI.out]; rfl, HB, HG⟩
    case rest =>
      clear HB HG
      obtain ⟨rfl, HB, HG⟩ := hcut
      go_wp2
      go_loopw [4] (fun v4 wr => ∃ (k : Nat) (S : Nat → Bool), k ≤ l.length + 2 ∧ v4 = .int .i64 k ∧ Aside0 (Inv l first k S) ∧ Aside0 (Below w.heap.size w wr) ∧ Aside0 (wr.heap[w.heap.size]? = some (.cells (TH 3 S).arr 134 (0, 0)))) (fun v4 _ => l.length - (intOf v4).toNat)
      case atStart => exact ⟨first, zeroS, by omega, rfl, ⟨inv_start _ _⟩, HB, HG⟩
      case round =>
        clear HB HG
        obtain ⟨k, S, hk, rfl, HIV, HB, HG⟩ := hrel
        by_cases hlt : k < l.length
        · obtain ⟨ad, rfl, h0, hq⟩ := at_ch HR.out k hlt
          replace h0 := pw_cell_below HB.out h0
          replace hq := pw_cell_below HB.out hq
          have hi0 : (0 : Int) ≤ (k : Int) := by omega
          have hi1 : (k : Int) < (l.length : Int) := by omega
          have HI := Aside0.mk (isC_lt (c := 93) hlt)
          have hby := byteAt_lt hlt
          have hx := HBY.out l[k] (List.getElem_mem hlt)
          generalize l[k] = x at *
          have HX := Aside0.mk hby
          clear hby
          by_cases hend : (decide (first < k) && isC l k 93) = true
          · have HE := Aside0.mk hend
            simp only [Bool.and_eq_true, decide_eq_true_eq] at hend
            obtain ⟨hfk, hi93⟩ := hend
            have hb93 : isB x 93 = true := by rw [← HI.out]; exact hi93
            have hfk' : decide (((first : Nat) : Int) < (k : Int)) = true := decide_eq_true (by omega)
            have HHB := Aside0.mk hb93
            clear hi93
            go_wp2_with (first
              | (go_at_call 117; refine (is_any x _ _).mono ?_; rintro e w1 ⟨rfl, hB⟩; rw [HHB.out]; have n0 := Aside0.mk (below_trans HB.out (below_sub hB HB.out.size)); have n1 := Aside0.mk (blk_below HG.out hB); clear HB HG hB; have HB := n0; have HG := n1; clear n0 n1))
            go_loopw [43] (fun v43 wq => ∃ j : Nat, j ≤ 256 ∧ v43 = .int .i64 j ∧ Aside0 (Below w.heap.size w wq) ∧ Aside0 (wq.heap[w.heap.size]? = some (.cells (TH 3 (notS S nt j)).arr 134 (0, 0)))) (fun v43 _ => 256 - (intOf v43).toNat)
            case atStart => exact ⟨0, by omega, rfl, HB, by rw [notS_zero]; exact HG⟩
            case round =>
              clear HB HG
              obtain ⟨j, hj, rfl, HB, HG⟩ := hrel
              by_cases hjl : j < 256
              · have cj := (blk_cell HG.out (2 + j)).trans (arr2n _ (bl_len _) j hjl)
                have fj := blk_frozen HG.out (2 + j)
                have hj0 : decide (0 ≤ (j : Int)) = true := decide_eq_true (by omega)
                have hj1 : decide ((j : Int) < 256) = true := decide_eq_true (by omega)
                rw [show (TH 3 (notS S nt j)).set = bl (notS S nt j) from rfl, bl_get _ hjl, notS_self] at cj
                go_wp2
                go_roundw
                case measure => simp [intOf]; omega
                case rel => exact ⟨j + 1, by omega, by go_num, ⟨HB.out.setCell (Nat.le_refl _) _⟩, ⟨by rw [← notS_step, ← arr_set _ _ _ _ hjl]; exact blk_put HG.out (2 + j) _ rfl⟩⟩
              · have hj1 : decide ((j : Int) < 256) = false := decide_eq_false (by omega)
                obtain rfl : j = 256 := by omega
                go_wp2_with (first
                  | (with_reducible refine wpList_load_row rfl 134 (.tmp 2) rfl w.heap.size rfl 134 (TH 3 (notS S nt 256)).arr (0, 0) _ HG.out Try.underlying134 rfl (info_th _) ?_)
                  | (with_reducible refine wpList_store_row rfl 134 (.tmp 2) (.tmp 56) rfl w.heap.size (TH 3 (notS S nt 256)).arr rfl rfl 134 (TH 3 (notS S nt 256)).arr HG.out (info_th _) rfl (one_th _) ?_; rw [setRow_self _ _ _ _ _ HG.out]))
                refine bodyPost_ret (v := .tuple #[.agg (TH 3 (notS S nt 256)).arr, .int .i64 ((k : Int) + 1)]) (res_set _ _ _ _ HG.out _ rfl rfl) rfl (by
                  unfold SetPost
                  rw [HNT.out, HFI.out]
                  exact ⟨_, _, rfl, inv_end HIV.out nt hlt HE.out, HB.out⟩)
          · replace hend := Bool.eq_false_iff.mpr hend
            have HE := Aside0.mk hend
            obtain ⟨b93, hb93⟩ : ∃ b, isB x 93 = b := ⟨_, rfl⟩
            have hfk : (decide (((first : Nat) : Int) < (k : Int)) && b93) = false := by
              rw [HI.out, hb93] at hend
              rw [← hend]
              congr 1
              by_cases hq : first < k
              · rw [decide_eq_true hq, decide_eq_true (by omega)]
              · rw [decide_eq_false hq, decide_eq_false (by omega)]
            have HHB := Aside0.mk hb93
            have hm3 := memb3 l k
            have hml := memb_lt hlt
            have hmp := memb_pos l k
            have HM3 := Aside0.mk hm3
            clear hend hb93 hm3
            go_upto_region 9 with (fail)
            go_cut [42] (fun v42 wc => v42 = .bool false ∧ Aside0 (Below w.heap.size w wc) ∧ Aside0 (wc.heap[w.heap.size]? = some (.cells (TH 3 S).arr 134 (0, 0))))
            case first =>
              cases b93 with
              | true =>
                rw [Bool.and_true] at hfk
                go_wp2_with (first
                  | (go_at_call 117; refine (is_any x _ _).mono ?_; rintro e w1 ⟨rfl, hB⟩; rw [HHB.out]; have n0 := Aside0.mk (below_trans HB.out (below_sub hB HB.out.size)); have n1 := Aside0.mk (blk_below HG.out hB); clear HB HG hB; have HB := n0; have HG := n1; clear n0 n1))
                go_meet
                case rel => exact ⟨by rw [decide_eq_false (show ¬ first < k by have := of_decide_eq_false hfk; omega)], HB, HG⟩
              | false =>
                clear hfk
                go_wp2_with (first
                  | (go_at_call 117; refine (is_any x _ _).mono ?_; rintro e w1 ⟨rfl, hB⟩; rw [HHB.out]; have n0 := Aside0.mk (below_trans HB.out (below_sub hB HB.out.size)); have n1 := Aside0.mk (blk_below HG.out hB); clear HB HG hB; have HB := n0; have HG := n1; clear n0 n1))
                go_meet
                case rel => exact ⟨rfl, HB, HG⟩
            case rest =>
              clear h0 hq HB HG hfk
              obtain ⟨rfl, HB, HG⟩ := hcut
              obtain ⟨ad', e', h0, hq⟩ := at_ch HR.out k hlt
              obtain rfl := Option.some.inj e'
              replace h0 := pw_cell_below HB.out h0
              rw [← byteAt_lt hlt] at h0
              clear hq e'
              generalize hlo : byteAt l k = lo at *
              have HLO := Aside0.mk hlo
              have hlo1 : 0 ≤ lo ∧ lo ≤ 255 := by rw [HX.out]; exact hx
              obtain ⟨hlo2, hlo3⟩ := hlo1
              clear hlo hx HX
              go_upto_region 16 with (fail)
              go_quiet (fail)
              have n0 := Aside0.mk (pw_below_drewN HB.out nq)
              have n1 := Aside0.mk (blk_drewN HG.out nq)
              clear HB HG h0
              have HB := n0
              have HG := n1
              clear n0 n1
              generalize wc.drewN nq = wd at *
              go_upto_region 17 with (fail)
              go_cut [90] (fun v90 wc => v90 = .bool (memb l k == 3) ∧ Aside0 (Below w.heap.size w wc) ∧ Aside0 (wc.heap[w.heap.size]? = some (.cells (TH 3 S).arr 134 (0, 0))))
              case first =>
                by_cases h2 : k + 2 < l.length
                · obtain ⟨ad1, e1, h0, hq⟩ := at_ch HR.out (k + 1) (by omega)
                  obtain rfl := Option.some.inj e1
                  obtain ⟨ad2, e2, k0, kq⟩ := at_ch HR.out (k + 2) h2
                  obtain rfl := Option.some.inj e2
                  have HM : Aside0 ((memb l k == 3) = (isB (l[k + 1]'(by omega)) 45 && !isB (l[k + 2]'h2) 93)) := ⟨by rw [HM3.out, isC_lt (i := k + 1) (by omega), isC_lt h2, decide_eq_true h2, Bool.true_and]⟩
                  replace h0 := pw_cell_below HB.out h0
                  replace hq := pw_cell_below HB.out hq
                  replace k0 := pw_cell_below HB.out k0
                  replace kq := pw_cell_below HB.out kq
                  generalize l[k + 1]'(by omega) = x1 at *
                  generalize l[k + 2]'h2 = x2 at *
                  have hd2 : decide ((k : Int) + 2 < (l.length : Int)) = true := decide_eq_true (by omega)
                  have hd1 : decide ((k : Int) + 1 < (l.length : Int)) = true := decide_eq_true (by omega)
                  have ho2 : decide (0 ≤ (k : Int) + 2) = true := decide_eq_true (by omega)
                  have ho1 : decide (0 ≤ (k : Int) + 1) = true := decide_eq_true (by omega)
                  clear e1 e2
                  obtain ⟨b1, hb1⟩ : ∃ b, isB x1 45 = b := ⟨_, rfl⟩
                  obtain ⟨b2, hb2⟩ : ∃ b, isB x2 93 = b := ⟨_, rfl⟩
                  rw [hb1, hb2] at HM
                  have HB1 := Aside0.mk hb1
                  have HB2 := Aside0.mk hb2
                  clear hb1 hb2
                  cases b1 with
                  | true =>
                    go_wp2_with (first
                      | (go_at_call 117; (with_reducible refine (is_any x1 _ _).mono ?_); rintro e w1 ⟨rfl, hB⟩; rw [HB1.out]; have n0 := Aside0.mk (below_trans HB.out (below_sub hB HB.out.size)); have n1 := Aside0.mk (blk_below HG.out hB); replace k0 := pw_cell_below hB k0; replace kq := pw_cell_below hB kq; clear HB HG hB h0 hq HB1; have HB := n0; have HG := n1; clear n0 n1)
                      | (go_at_call 117; (with_reducible refine (is_any x2 _ _).mono ?_); rintro e w1 ⟨rfl, hB⟩; rw [HB2.out]; have n0 := Aside0.mk (below_trans HB.out (below_sub hB HB.out.size)); have n1 := Aside0.mk (blk_below HG.out hB); clear HB HG hB k0 kq; have HB := n0; have HG := n1; clear n0 n1))
                    go_meet
                    case rel => exact ⟨by rw [HM.out]; rfl, HB, HG⟩
                  | false =>
                    go_wp2_with (first
                      | (go_at_call 117; (with_reducible refine (is_any x1 _ _).mono ?_); rintro e w1 ⟨rfl, hB⟩; rw [HB1.out]; have n0 := Aside0.mk (below_trans HB.out (below_sub hB HB.out.size)); have n1 := Aside0.mk (blk_below HG.out hB); clear HB HG hB h0 hq HB1; have HB := n0; have HG := n1; clear n0 n1))
                    go_meet
                    case rel => exact ⟨by rw [HM.out]; rfl, HB, HG⟩
                · have hd2 : decide ((k : Int) + 2 < (l.length : Int)) = false := decide_eq_false (by omega)
                  have HM : Aside0 ((memb l k == 3) = false) := ⟨by rw [HM3.out, decide_eq_false h2]; rfl⟩
                  go_wp2
                  go_meet
                  case rel => exact ⟨by rw [HM.out], HB, HG⟩
              case rest =>
                clear HB HG
                obtain ⟨rfl, HB, HG⟩ := hcut
                go_upto_if 90 with (fail)
                go_cut [4, 9] (fun v4 v9 wc => v4 = .int .i64 ((k + memb l k - 1 : Nat) : Int) ∧ v9 = .int .u8 (byteAt l (k + memb l k - 1)) ∧ Aside0 (Below w.heap.size w wc) ∧ Aside0 (wc.heap[w.heap.size]? = some (.cells (TH 3 S).arr 134 (0, 0))))
                case first =>
                  cases hm : memb l k == 3 with
                  | true =>
                    have hm' : memb l k = 3 := by simpa using hm
                    have h2 : k + 2 < l.length := by omega
                    obtain ⟨ad2, e2, k0, kq⟩ := at_ch HR.out (k + 2) h2
                    obtain rfl := Option.some.inj e2
                    replace k0 := pw_cell_below HB.out k0
                    rw [← byteAt_lt h2] at k0
                    have HM := Aside0.mk hm'
                    have hd2 : decide ((k : Int) + 2 < (l.length : Int)) = true := decide_eq_true (by omega)
                    have ho2 : decide (0 ≤ (k : Int) + 2) = true := decide_eq_true (by omega)
                    clear e2 kq hm hm'
                    go_wp2
                    go_meet
                    case rel => exact ⟨by rw [HM.out]; go_num, by rw [HM.out]; rfl, HB, HG⟩
                  | false =>
                    have hm' : memb l k = 1 := by
                      have : memb l k ≠ 3 := by simpa using hm
                      unfold memb at this ⊢
                      split at this
                      · exact absurd rfl this
                      · rename_i h; rw [if_neg h]
                    have HM := Aside0.mk hm'
                    clear hm hm'
                    go_wp2
                    go_meet
                    case rel => exact ⟨by rw [HM.out]; go_num, by rw [HM.out]; exact congrArg (Value.int .u8) HLO.out.symm, HB, HG⟩
                case rest =>
                  clear HB HG
                  obtain ⟨rfl, rfl, HB, HG⟩ := hcut
                  have hhi : 0 ≤ byteAt l (k + memb l k - 1) ∧ byteAt l (k + memb l k - 1) ≤ 255 := by
                    have h : k + memb l k - 1 < l.length := by omega
                    rw [byteAt_lt h]
                    exact HBY.out _ (List.getElem_mem h)
                  obtain ⟨hhi0, hhi1⟩ := hhi
                  generalize hhi : byteAt l (k + memb l k - 1) = hi at *
                  have HHI := Aside0.mk hhi
                  clear hhi
                  have hp : ((k + memb l k - 1 : Nat) : Int) + 1 = ((k + memb l k : Nat) : Int) := by omega
                  have HP := Aside0.mk hp
                  have hp1 : k + memb l k - 1 ≤ 100000000 := by omega
                  clear hp
                  obtain ⟨kk, hkk⟩ : ∃ kk, k + memb l k - 1 = kk := ⟨_, rfl⟩
                  rw [hkk] at hp1 HP HHI
                  rw [hkk]
                  have HKK := Aside0.mk hkk
                  clear hkk
                  go_wp2
                  go_loopw [10] (fun v10 wq => ∃ j : Nat, lo ≤ (j : Int) ∧ j ≤ 256 ∧ v10 = .int .i64 j ∧ Aside0 ((j : Int) = lo ∨ (j : Int) ≤ hi + 1) ∧ Aside0 (Below w.heap.size w wq) ∧ Aside0 (wq.heap[w.heap.size]? = some (.cells (TH 3 (addS S lo j)).arr 134 (0, 0)))) (fun v10 _ => 256 - (intOf v10).toNat)
                  case atStart => exact ⟨lo.toNat, by omega, by omega, by congr 1; omega, ⟨.inl (by omega)⟩, HB, ⟨by rw [show ((lo.toNat : Nat) : Int) = lo by omega]; unfold TH; rw [addS_none]; exact HG.out⟩⟩
                  case round =>
                    clear HB HG
                    obtain ⟨j, hj0, hj, rfl, HJ, HB, HG⟩ := hrel
                    by_cases hjl : (j : Int) ≤ hi
                    · have fj := blk_frozen HG.out (2 + j)
                      have cj := (blk_cell HG.out (2 + j)).trans (arr2n _ (bl_len _) j (by omega))
                      have hd0 : decide ((j : Int) ≤ hi) = true := decide_eq_true hjl
                      have hj2 : decide ((j : Int) < 256) = true := decide_eq_true (by omega)
                      have hj3 : decide (0 ≤ (j : Int)) = true := decide_eq_true (by omega)
                      have hjn : j < 256 := by omega
                      go_wp2
                      go_roundw
                      case measure => simp [intOf]; omega
                      case rel => exact ⟨j + 1, by omega, by omega, by go_num, ⟨.inr (by omega)⟩, ⟨HB.out.setCell (Nat.le_refl _) _⟩, ⟨by rw [show (((j + 1 : Nat)) : Int) = (j : Int) + 1 by omega, ← addS_step _ _ _ hj0, ← arr_set _ _ _ _ hjn]; exact blk_put HG.out (2 + j) _ rfl⟩⟩
                    · have hd0 : decide ((j : Int) ≤ hi) = false := decide_eq_false hjl
                      go_wp2
                      go_roundw
                      case measure => have := HP.out; simp [intOf]; omega
                      case rel => exact ⟨k + memb l k, addS S lo j, by omega, by rw [HP.out], ⟨by rw [← HLO.out]; exact inv_step HIV.out hlt HE.out _ (by rw [HLO.out, HKK.out, HHI.out]; have := HJ.out; omega)⟩, HB, HG⟩
        · have hge : decide ((k : Int) < (l.length : Int)) = false := decide_eq_false (by omega)
          have hnone := endF_none (l := l) (first := first) hlt
          have HN := Aside0.mk hnone
          clear hnone
          go_wp2_with (first
            | (with_reducible refine wpList_load_row rfl 134 (.tmp 2) rfl w.heap.size rfl 134 (TH 3 S).arr (0, 0) _ HG.out Try.underlying134 rfl (info_th _) ?_)
            | (with_reducible refine wpList_store_row rfl 134 (.tmp 2) (.tmp 110) rfl w.heap.size (TH 3 S).arr rfl rfl 134 (TH 3 S).arr HG.out (info_th _) rfl (one_th _) ?_; rw [setRow_self _ _ _ _ _ HG.out]))
          refine bodyPost_ret (v := .tuple #[.agg (TH 3 S).arr, .int .i64 0]) (res_set _ _ _ _ HG.out _ rfl rfl) rfl (by
            unfold SetPost setRes
            rw [HNT.out, HFI.out, HIV.out.1, HN.out]
            exact ⟨_, _, rfl, ⟨⟨S, rfl⟩, rfl⟩, HB.out⟩)
end Go.Proofs.Ytkepmbkghmkodaa.Pat
