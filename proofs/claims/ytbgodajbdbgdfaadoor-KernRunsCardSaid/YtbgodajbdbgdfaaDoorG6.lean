/- texts of this claim, one behind the other: TwinLaw -/
import Derived.Test.YtbgodajbdbgdfaaDoorG5
/- KernRuns: the law's walk. -/
namespace Go.Proofs.YtbgodajbdbgdfaaDoor.Kern
open Go.RowKit Go.Proofs.YtbgodajbdbgdfaaDoorW.PrintWords Go.Proofs.YtbgodajbdbgdfaaDoorW.PrintLast Go.Proofs.YtbgodajbdbgdfaaDoor.Sig Go.Proofs.YtbgodajbdbgdfaaDoor.Base Go.Proofs.YtbgodajbdbgdfaaDoor.Seq Go.Proofs.YtbgodajbdbgdfaaDoor.V Go.Maps
set_option linter.unusedVariables false
set_option linter.unusedSimpArgs false
theorem box_ne {W : World} {a b t u : Nat} {cs ds : Array Value} (h1 : W.heap[a]? = some (.cells cs t (0, 0))) (h2 : W.heap[b]? = some (.cells ds u (0, 0))) (h : t ≠ u) : some b ≠ some a := by
  intro e
  injection e with e
  rw [e, h1] at h2
  injection h2 with h2
  injection h2 with _ h2
  exact h h2
theorem ac_get {acts : List Ac} (h : ∀ a ∈ acts, AcOk a) (i : Nat) (hi : i < acts.length) : AcOk acts[i] := h _ (List.getElem_mem hi)
set_option maxHeartbeats 16000000 in
set_option maxRecDepth 100000 in
theorem runs_law (x : Nat) (hx : x < 4294967296) (A0 : Option Addr) (k0 c0 : Nat) (acts : List Ac) (w : World) (hC : Kd.C kAc w A0 k0 acts) (hok : ∀ a ∈ acts, AcOk a) (ht : TabB w) :
    Calls Tryd.prog 4 #[.int .u32 (x : Int), .slice A0 k0 c0] w fun e w' => e = .returned (.bool true) ∧ Below w.heap.size w w' := by
  have HTB := Aside0.mk ht
  have HX := Aside0.mk hx
  have hlen : acts.length = k0 := hC.1
  have HC := Aside0.mk hC
  have HOK := Aside0.mk hok
  clear ht hx hC hok
  by_cases h80 : 80 < k0
  · have d80 : decide ((80 : Int) < (k0 : Int)) = true := decide_eq_true (by omega)
    go_enter Tryd.func4, Tryd.ntmps4
    go_wp2_with (go_at_call 5; (with_reducible refine (kalive_any _ HTB.out).mono ?_); rintro e w1 ⟨rfl, hB⟩; have HB1 := Aside0.mk hB; clear hB)
    go_ret
    exact ⟨rfl, HB1.out⟩
  · have d80 : decide ((80 : Int) < (k0 : Int)) = false := decide_eq_false (by omega)
    go_enter Tryd.func4, Tryd.ntmps4
    go_upto_region 6 with (first
      | (go_at_call 5; (with_reducible refine (kalive_any _ HTB.out).mono ?_); rintro e w1 ⟨rfl, hB⟩; have HB1 := Aside0.mk hB; have HTB1 := Aside0.mk (tabB_below HTB.out hB); clear hB)
      | (go_at_call 6; (with_reducible refine (new_any x _ HX.out HTB1.out).mono ?_); rintro e w2 ⟨g, rfl, hT, hB⟩; have HT := Aside0.mk hT; have HB2 := Aside0.mk hB; clear hB hT)
      | (go_at_call 13; (with_reducible refine (rnew_any x HX.out _).mono ?_); rintro e w3 ⟨A, k, c, E, j, d, rfl, hR, hE, hB⟩; have HR := Aside0.mk hR; have HE := Aside0.mk hE; have HB3 := Aside0.mk hB; clear hB hR hE))
    have HI := Aside0.mk (KSt.first HT.out HB2.out HB3.out HR.out HE.out)
    clear HT HB2 HB3 HR HE
    generalize w3.alloc (.cells #[.slice A k c, .int .i64 1, .slice E j d] 42) = w4 at *
    generalize w3.heap.size = gt at *
    obtain ⟨m, n, D, B, v, f, last, A, k, c, L, E, j, d, es, hS⟩ := HI.out
    have HS := Aside0.mk hS
    clear HI hS
    have b0 : w4.cell? ⟨gt, 0, none⟩ = some (.slice A k c) := (blk_cell HS.out.box 0).trans rfl
    have b1 : w4.cell? ⟨gt, 1, none⟩ = some (.int .i64 last) := (blk_cell HS.out.box 1).trans rfl
    have b2 : w4.cell? ⟨gt, 2, none⟩ = some (.slice E j d) := (blk_cell HS.out.box 2).trans rfl
    go_wp2_with (go_at_call 14; (with_reducible refine (same_any HS.out.tv HS.out.rel HS.out.dr.rt last (by have := HS.out.len; omega)).mono ?_); rintro e w5 ⟨rfl, hB⟩; have HS5 := Aside0.mk (HS.out.below hB); clear hB)
    clear b0 b1 b2
    have HI := Aside0.mk (show KSt w1 w5 g gt 0 from ⟨_, _, _, _, _, _, _, _, _, _, _, _, _, _, _, HS5.out⟩)
    clear HS HS5

    go_loopw [51] (fun v51 wr => ∃ i : Nat, i ≤ k0 ∧ v51 = .int .i64 (i : Int) ∧ Aside0 (KSt w1 wr g gt i)) (fun v51 _ => k0 - (intOf v51).toNat)
    case atStart => exact ⟨0, Nat.zero_le _, rfl, HI⟩
    case round =>
      clear HI
      obtain ⟨i, hi, rfl, HI⟩ := hrel
      obtain ⟨m, n, D, B, v, f, last, A, k, c, L, E, j, d, es, hS⟩ := HI.out
      have HS := Aside0.mk hS
      clear HI
      by_cases hik : i < k0
      · have hiL : i < acts.length := by omega
        obtain ⟨ad, rfl, q0, q1, q2, q3, q4, q5⟩ := at_Ac (Kd.C_below (Kd.C_below HC.out HB1.out) hS.bel) i hiL
        have HW := Aside0.mk (ac_get HOK.out i hiL)
        generalize acts[i] = ac at *
        obtain ⟨y0, y1, y2, y3, y4, y5⟩ := ac
        dsimp only at q0 q1 q2 q3 q4 q5
        have hi0 : (0 : Int) ≤ (i : Int) := by omega
        have hi1 : (i : Int) < (k0 : Int) := by omega
        clear hS hiL hlen
        have hal := below_alloc (Below.refl wr.heap.size wr) (.cells (acc ⟨y0, y1, y2, y3, y4, y5⟩) 46)
        have HSb := Aside0.mk (HS.out.below hal)
        have HGA := Aside0.mk (blk_new wr (.cells (acc ⟨y0, y1, y2, y3, y4, y5⟩) 46))
        clear hal HS
        go_upto_region 11 with (fail)
        clear q0 q1 q2 q3 q4 q5
        generalize wr.alloc (.cells (acc ⟨y0, y1, y2, y3, y4, y5⟩) 46) = wb at *
        generalize wr.heap.size = ga at *
        have b0 : wb.cell? ⟨gt, 0, none⟩ = some (.slice A k c) := (blk_cell HSb.out.box 0).trans rfl
        have b1 : wb.cell? ⟨gt, 1, none⟩ = some (.int .i64 last) := (blk_cell HSb.out.box 1).trans rfl
        have b2 : wb.cell? ⟨gt, 2, none⟩ = some (.slice E j d) := (blk_cell HSb.out.box 2).trans rfl
        have p0 : wb.cell? ⟨ga, 0, none⟩ = some (.int .i64 y0) := (blk_cell HGA.out 0).trans rfl
        have p1 : wb.cell? ⟨ga, 1, none⟩ = some (.int .i64 y1) := (blk_cell HGA.out 1).trans rfl
        have p2 : wb.cell? ⟨ga, 2, none⟩ = some (.int .i64 y2) := (blk_cell HGA.out 2).trans rfl
        have p3 : wb.cell? ⟨ga, 3, none⟩ = some (.int .i64 y3) := (blk_cell HGA.out 3).trans rfl
        have p4 : wb.cell? ⟨ga, 4, none⟩ = some (.int .i64 y4) := (blk_cell HGA.out 4).trans rfl
        have p5 : wb.cell? ⟨ga, 5, none⟩ = some (.int .i64 y5) := (blk_cell HGA.out 5).trans rfl
        go_upto_block 2 with (fail)
        go_cut [9] (fun v9 wc => v9 = .bool true ∧ Aside0 (KSt w1 wc g gt (i + 1)) ∧ Aside0 (wc.heap[ga]? = some (.cells (acc ⟨y0, y1, y2, y3, y4, y5⟩) 46 (0, 0))))
        case first =>
          by_cases h0 : y0 = 0
          · subst h0
            as_aux_lemma =>
              obtain ⟨xa, xb, f6, l6, hl6, hK, hD⟩ := fork_pair (c := c) (E := E) (d := d) HSb.out.tv HSb.out.rel HSb.out.dr.len y1 HW.out.h1 (by have := HSb.out.lst; omega)
              have HK := Aside0.mk hK
              have HD := Aside0.mk hD
              clear hK hD
              have HL6 := Aside0.mk hl6
              clear hl6
              go_upto_region 16 with (first
                | (go_at_call 7; (with_reducible refine HK.out.mono ?_); rintro e w6 ⟨rfl, hKO⟩; have HM6 := Aside0.mk (HSb.out.kern hKO).1; have HA6 := Aside0.mk ((HSb.out.kern hKO).2 _ _ _ HGA.out (by decide) (by decide) (by decide)); clear hKO; have b0 : w6.cell? ⟨gt, 0, none⟩ = some (.slice A k c) := (blk_cell HM6.out.box 0).trans rfl; have b1 : w6.cell? ⟨gt, 1, none⟩ = some (.int .i64 last) := (blk_cell HM6.out.box 1).trans rfl; have b2 : w6.cell? ⟨gt, 2, none⟩ = some (.slice E j d) := (blk_cell HM6.out.box 2).trans rfl; have p1 : w6.cell? ⟨ga, 1, none⟩ = some (.int .i64 y1) := (blk_cell HA6.out 1).trans rfl; have p2 : w6.cell? ⟨ga, 2, none⟩ = some (.int .i64 y2) := (blk_cell HA6.out 2).trans rfl; have p3 : w6.cell? ⟨ga, 3, none⟩ = some (.int .i64 y3) := (blk_cell HA6.out 3).trans rfl; have p4 : w6.cell? ⟨ga, 4, none⟩ = some (.int .i64 y4) := (blk_cell HA6.out 4).trans rfl; have p5 : w6.cell? ⟨ga, 5, none⟩ = some (.int .i64 y5) := (blk_cell HA6.out 5).trans rfl)
                | (go_at_call 15; (with_reducible refine (HD.out _ HM6.out.rt).mono ?_); rintro e w7 ⟨A7, k7, c7, E7, j7, d7, L7, es7, rfl, hR7, hE7, hD7, hB⟩; have HM7 := Aside0.mk (HM6.out.doc hD7 hB); have HA7 := Aside0.mk (blk_below HA6.out hB); have HR7 := Aside0.mk hR7; have HE7 := Aside0.mk hE7; clear hR7 hE7 hD7 hB))
              clear b0 b1 b2 p1 p2 p3 p4 p5
              have hal := below_alloc (Below.refl w7.heap.size w7) (.cells #[.slice A7 k7 c7, .int .i64 l6, .slice E7 j7 d7] 42)
              have HM8 := Aside0.mk (HM7.out.below hal)
              have HA8 := Aside0.mk (blk_below HA7.out hal)
              have HX8 := Aside0.mk (blk_new w7 (.cells #[.slice A7 k7 c7, .int .i64 l6, .slice E7 j7 d7] 42))
              clear hal
              generalize w7.alloc (.cells #[.slice A7 k7 c7, .int .i64 l6, .slice E7 j7 d7] 42) = w8 at *
              generalize w7.heap.size = gx at *
              have e0 : w8.cell? ⟨gx, 0, none⟩ = some (.slice A7 k7 c7) := (blk_cell HX8.out 0).trans rfl
              have e1 : w8.cell? ⟨gx, 1, none⟩ = some (.int .i64 l6) := (blk_cell HX8.out 1).trans rfl
              have e2 : w8.cell? ⟨gx, 2, none⟩ = some (.slice E7 j7 d7) := (blk_cell HX8.out 2).trans rfl
              go_wp2_with ((with_reducible refine gate_st 42 6 74 rfl ?_); go_loud (refine tab_put2 rfl 6 74 rfl gt _ A7 k7 c7 l6 E7 j7 d7 rfl rfl rfl HM8.out.box ?_); intro w9 hg hbx hgr; have HM9 := Aside0.mk (HM8.out.store hg hbx HSb.out.gtb hgr); have HA9 := Aside0.mk (blk_grown HA8.out hgr (box_ne HM8.out.box HA8.out (by decide))); clear hg hbx hgr)
              go_meet
              case rel => exact ⟨rfl, Aside0.mk (KM.st HM9.out HR7.out HE7.out (by have := HL6.out; have := HSb.out.lst; omega) (by rw [List.length_map]; have := HSb.out.len; omega) HSb.out.gtb), HA9⟩
          by_cases h1 : y0 = 1
          · subst h1
            as_aux_lemma =>
              obtain ⟨xa, f6, en6, hl6, hK, hD⟩ := send_pair (k := k) (A := A) (c := c) (E := E) (d := d) (j := j) HSb.out.tv HSb.out.rel y1 y3 HW.out.h1 (by have := HSb.out.len; omega)
              have HK := Aside0.mk hK
              have HD := Aside0.mk hD
              clear hK hD
              have HL6 := Aside0.mk hl6
              clear hl6
              go_upto_region 21 with (first
                | (go_at_call 16; (with_reducible refine HK.out.mono ?_); rintro e w6 ⟨rfl, hKO⟩; have HM6 := Aside0.mk (HSb.out.kern hKO).1; have HA6 := Aside0.mk ((HSb.out.kern hKO).2 _ _ _ HGA.out (by decide) (by decide) (by decide)); clear hKO; have b0 : w6.cell? ⟨gt, 0, none⟩ = some (.slice A k c) := (blk_cell HM6.out.box 0).trans rfl; have b1 : w6.cell? ⟨gt, 1, none⟩ = some (.int .i64 last) := (blk_cell HM6.out.box 1).trans rfl; have b2 : w6.cell? ⟨gt, 2, none⟩ = some (.slice E j d) := (blk_cell HM6.out.box 2).trans rfl; have p1 : w6.cell? ⟨ga, 1, none⟩ = some (.int .i64 y1) := (blk_cell HA6.out 1).trans rfl; have p2 : w6.cell? ⟨ga, 2, none⟩ = some (.int .i64 y2) := (blk_cell HA6.out 2).trans rfl; have p3 : w6.cell? ⟨ga, 3, none⟩ = some (.int .i64 y3) := (blk_cell HA6.out 3).trans rfl; have p4 : w6.cell? ⟨ga, 4, none⟩ = some (.int .i64 y4) := (blk_cell HA6.out 4).trans rfl; have p5 : w6.cell? ⟨ga, 5, none⟩ = some (.int .i64 y5) := (blk_cell HA6.out 5).trans rfl)
                | (go_at_call 17; (with_reducible refine (HD.out _ HM6.out.rt).mono ?_); rintro e w7 ⟨A7, k7, c7, E7, j7, d7, L7, es7, rfl, hR7, hE7, hD7, hB⟩; have HM7 := Aside0.mk (HM6.out.doc hD7 hB); have HA7 := Aside0.mk (blk_below HA6.out hB); have HR7 := Aside0.mk hR7; have HE7 := Aside0.mk hE7; clear hR7 hE7 hD7 hB))
              clear b0 b1 b2 p1 p2 p3 p4 p5
              have hal := below_alloc (Below.refl w7.heap.size w7) (.cells #[.slice A7 k7 c7, .int .i64 last, .slice E7 j7 d7] 42)
              have HM8 := Aside0.mk (HM7.out.below hal)
              have HA8 := Aside0.mk (blk_below HA7.out hal)
              have HX8 := Aside0.mk (blk_new w7 (.cells #[.slice A7 k7 c7, .int .i64 last, .slice E7 j7 d7] 42))
              clear hal
              generalize w7.alloc (.cells #[.slice A7 k7 c7, .int .i64 last, .slice E7 j7 d7] 42) = w8 at *
              generalize w7.heap.size = gx at *
              have e0 : w8.cell? ⟨gx, 0, none⟩ = some (.slice A7 k7 c7) := (blk_cell HX8.out 0).trans rfl
              have e1 : w8.cell? ⟨gx, 1, none⟩ = some (.int .i64 last) := (blk_cell HX8.out 1).trans rfl
              have e2 : w8.cell? ⟨gx, 2, none⟩ = some (.slice E7 j7 d7) := (blk_cell HX8.out 2).trans rfl
              go_wp2_with ((with_reducible refine gate_st 42 6 100 rfl ?_); go_loud (refine tab_put2 rfl 6 100 rfl gt _ A7 k7 c7 last E7 j7 d7 rfl rfl rfl HM8.out.box ?_); intro w9 hg hbx hgr; have HM9 := Aside0.mk (HM8.out.store hg hbx HSb.out.gtb hgr); have HA9 := Aside0.mk (blk_grown HA8.out hgr (box_ne HM8.out.box HA8.out (by decide))); clear hg hbx hgr)
              go_meet
              case rel => exact ⟨rfl, Aside0.mk (KM.st HM9.out HR7.out HE7.out (by have := HSb.out.lst; omega) (by have := HL6.out; have := HSb.out.len; omega) HSb.out.gtb), HA9⟩
          by_cases h2 : y0 = 2
          · subst h2
            as_aux_lemma =>
              obtain ⟨xa, f6, en6, hl6, hK, hD⟩ := exit_pair (k := k) (A := A) (c := c) (E := E) (d := d) (j := j) HSb.out.tv HSb.out.rel y1 y4 HW.out.h1 (i64_lo HW.out.h4) (i64_hi HW.out.h4) (by have := HSb.out.len; omega)
              have HK := Aside0.mk hK
              have HD := Aside0.mk hD
              clear hK hD
              have HL6 := Aside0.mk hl6
              clear hl6
              go_upto_region 26 with (first
                | (go_at_call 9; (with_reducible refine HK.out.mono ?_); rintro e w6 ⟨rfl, hKO⟩; have HM6 := Aside0.mk (HSb.out.kern hKO).1; have HA6 := Aside0.mk ((HSb.out.kern hKO).2 _ _ _ HGA.out (by decide) (by decide) (by decide)); clear hKO; have b0 : w6.cell? ⟨gt, 0, none⟩ = some (.slice A k c) := (blk_cell HM6.out.box 0).trans rfl; have b1 : w6.cell? ⟨gt, 1, none⟩ = some (.int .i64 last) := (blk_cell HM6.out.box 1).trans rfl; have b2 : w6.cell? ⟨gt, 2, none⟩ = some (.slice E j d) := (blk_cell HM6.out.box 2).trans rfl; have p1 : w6.cell? ⟨ga, 1, none⟩ = some (.int .i64 y1) := (blk_cell HA6.out 1).trans rfl; have p2 : w6.cell? ⟨ga, 2, none⟩ = some (.int .i64 y2) := (blk_cell HA6.out 2).trans rfl; have p3 : w6.cell? ⟨ga, 3, none⟩ = some (.int .i64 y3) := (blk_cell HA6.out 3).trans rfl; have p4 : w6.cell? ⟨ga, 4, none⟩ = some (.int .i64 y4) := (blk_cell HA6.out 4).trans rfl; have p5 : w6.cell? ⟨ga, 5, none⟩ = some (.int .i64 y5) := (blk_cell HA6.out 5).trans rfl)
                | (go_at_call 18; (with_reducible refine (HD.out _ HM6.out.rt).mono ?_); rintro e w7 ⟨A7, k7, c7, E7, j7, d7, L7, es7, rfl, hR7, hE7, hD7, hB⟩; have HM7 := Aside0.mk (HM6.out.doc hD7 hB); have HA7 := Aside0.mk (blk_below HA6.out hB); have HR7 := Aside0.mk hR7; have HE7 := Aside0.mk hE7; clear hR7 hE7 hD7 hB))
              clear b0 b1 b2 p1 p2 p3 p4 p5
              have hal := below_alloc (Below.refl w7.heap.size w7) (.cells #[.slice A7 k7 c7, .int .i64 last, .slice E7 j7 d7] 42)
              have HM8 := Aside0.mk (HM7.out.below hal)
              have HA8 := Aside0.mk (blk_below HA7.out hal)
              have HX8 := Aside0.mk (blk_new w7 (.cells #[.slice A7 k7 c7, .int .i64 last, .slice E7 j7 d7] 42))
              clear hal
              generalize w7.alloc (.cells #[.slice A7 k7 c7, .int .i64 last, .slice E7 j7 d7] 42) = w8 at *
              generalize w7.heap.size = gx at *
              have e0 : w8.cell? ⟨gx, 0, none⟩ = some (.slice A7 k7 c7) := (blk_cell HX8.out 0).trans rfl
              have e1 : w8.cell? ⟨gx, 1, none⟩ = some (.int .i64 last) := (blk_cell HX8.out 1).trans rfl
              have e2 : w8.cell? ⟨gx, 2, none⟩ = some (.slice E7 j7 d7) := (blk_cell HX8.out 2).trans rfl
              go_wp2_with ((with_reducible refine gate_st 42 6 121 rfl ?_); go_loud (refine tab_put2 rfl 6 121 rfl gt _ A7 k7 c7 last E7 j7 d7 rfl rfl rfl HM8.out.box ?_); intro w9 hg hbx hgr; have HM9 := Aside0.mk (HM8.out.store hg hbx HSb.out.gtb hgr); have HA9 := Aside0.mk (blk_grown HA8.out hgr (box_ne HM8.out.box HA8.out (by decide))); clear hg hbx hgr)
              go_meet
              case rel => exact ⟨rfl, Aside0.mk (KM.st HM9.out HR7.out HE7.out (by have := HSb.out.lst; omega) (by have := HL6.out; have := HSb.out.len; omega) HSb.out.gtb), HA9⟩
          by_cases h3 : y0 = 3
          · subst h3
            as_aux_lemma =>
              obtain ⟨xa, xb, f6, hK, hD⟩ := reap_pair (k := k) (A := A) (c := c) (E := E) (d := d) (j := j) HSb.out.tv HSb.out.rel y2 y1 HW.out.h1 HW.out.h2
              have HK := Aside0.mk hK
              have HD := Aside0.mk hD
              clear hK hD
              go_upto_region 31 with (first
                | (go_at_call 10; (with_reducible refine HK.out.mono ?_); rintro e w6 ⟨rfl, hKO⟩; have HM6 := Aside0.mk (HSb.out.kern hKO).1; have HA6 := Aside0.mk ((HSb.out.kern hKO).2 _ _ _ HGA.out (by decide) (by decide) (by decide)); clear hKO; have b0 : w6.cell? ⟨gt, 0, none⟩ = some (.slice A k c) := (blk_cell HM6.out.box 0).trans rfl; have b1 : w6.cell? ⟨gt, 1, none⟩ = some (.int .i64 last) := (blk_cell HM6.out.box 1).trans rfl; have b2 : w6.cell? ⟨gt, 2, none⟩ = some (.slice E j d) := (blk_cell HM6.out.box 2).trans rfl; have p1 : w6.cell? ⟨ga, 1, none⟩ = some (.int .i64 y1) := (blk_cell HA6.out 1).trans rfl; have p2 : w6.cell? ⟨ga, 2, none⟩ = some (.int .i64 y2) := (blk_cell HA6.out 2).trans rfl; have p3 : w6.cell? ⟨ga, 3, none⟩ = some (.int .i64 y3) := (blk_cell HA6.out 3).trans rfl; have p4 : w6.cell? ⟨ga, 4, none⟩ = some (.int .i64 y4) := (blk_cell HA6.out 4).trans rfl; have p5 : w6.cell? ⟨ga, 5, none⟩ = some (.int .i64 y5) := (blk_cell HA6.out 5).trans rfl)
                | (go_at_call 19; (with_reducible refine (HD.out _ HM6.out.rt).mono ?_); rintro e w7 ⟨A7, k7, c7, E7, j7, d7, L7, es7, rfl, hR7, hE7, hD7, hB⟩; have HM7 := Aside0.mk (HM6.out.doc hD7 hB); have HA7 := Aside0.mk (blk_below HA6.out hB); have HR7 := Aside0.mk hR7; have HE7 := Aside0.mk hE7; clear hR7 hE7 hD7 hB))
              clear b0 b1 b2 p1 p2 p3 p4 p5
              have hal := below_alloc (Below.refl w7.heap.size w7) (.cells #[.slice A7 k7 c7, .int .i64 last, .slice E7 j7 d7] 42)
              have HM8 := Aside0.mk (HM7.out.below hal)
              have HA8 := Aside0.mk (blk_below HA7.out hal)
              have HX8 := Aside0.mk (blk_new w7 (.cells #[.slice A7 k7 c7, .int .i64 last, .slice E7 j7 d7] 42))
              clear hal
              generalize w7.alloc (.cells #[.slice A7 k7 c7, .int .i64 last, .slice E7 j7 d7] 42) = w8 at *
              generalize w7.heap.size = gx at *
              have e0 : w8.cell? ⟨gx, 0, none⟩ = some (.slice A7 k7 c7) := (blk_cell HX8.out 0).trans rfl
              have e1 : w8.cell? ⟨gx, 1, none⟩ = some (.int .i64 last) := (blk_cell HX8.out 1).trans rfl
              have e2 : w8.cell? ⟨gx, 2, none⟩ = some (.slice E7 j7 d7) := (blk_cell HX8.out 2).trans rfl
              go_wp2_with ((with_reducible refine gate_st 42 6 146 rfl ?_); go_loud (refine tab_put2 rfl 6 146 rfl gt _ A7 k7 c7 last E7 j7 d7 rfl rfl rfl HM8.out.box ?_); intro w9 hg hbx hgr; have HM9 := Aside0.mk (HM8.out.store hg hbx HSb.out.gtb hgr); have HA9 := Aside0.mk (blk_grown HA8.out hgr (box_ne HM8.out.box HA8.out (by decide))); clear hg hbx hgr)
              go_meet
              case rel => exact ⟨rfl, Aside0.mk (KM.st HM9.out HR7.out HE7.out (by have := HSb.out.lst; omega) (by rw [List.length_map]; have := HSb.out.len; omega) HSb.out.gtb), HA9⟩
          by_cases h4 : y0 = 4
          · subst h4
            as_aux_lemma =>
              obtain ⟨xa, f6, hK, hD⟩ := put_pair (k := k) (A := A) (c := c) (E := E) (d := d) (j := j) HSb.out.tv HSb.out.rel y1 y3 y5 HW.out.h1
              have HK := Aside0.mk hK
              have HD := Aside0.mk hD
              clear hK hD
              go_upto_region 36 with (first
                | (go_at_call 20; (with_reducible refine HK.out.mono ?_); rintro e w6 ⟨rfl, hKO⟩; have HM6 := Aside0.mk (HSb.out.kern hKO).1; have HA6 := Aside0.mk ((HSb.out.kern hKO).2 _ _ _ HGA.out (by decide) (by decide) (by decide)); clear hKO; have b0 : w6.cell? ⟨gt, 0, none⟩ = some (.slice A k c) := (blk_cell HM6.out.box 0).trans rfl; have b1 : w6.cell? ⟨gt, 1, none⟩ = some (.int .i64 last) := (blk_cell HM6.out.box 1).trans rfl; have b2 : w6.cell? ⟨gt, 2, none⟩ = some (.slice E j d) := (blk_cell HM6.out.box 2).trans rfl; have p1 : w6.cell? ⟨ga, 1, none⟩ = some (.int .i64 y1) := (blk_cell HA6.out 1).trans rfl; have p2 : w6.cell? ⟨ga, 2, none⟩ = some (.int .i64 y2) := (blk_cell HA6.out 2).trans rfl; have p3 : w6.cell? ⟨ga, 3, none⟩ = some (.int .i64 y3) := (blk_cell HA6.out 3).trans rfl; have p4 : w6.cell? ⟨ga, 4, none⟩ = some (.int .i64 y4) := (blk_cell HA6.out 4).trans rfl; have p5 : w6.cell? ⟨ga, 5, none⟩ = some (.int .i64 y5) := (blk_cell HA6.out 5).trans rfl)
                | (go_at_call 21; (with_reducible refine (HD.out _ HM6.out.rt).mono ?_); rintro e w7 ⟨A7, k7, c7, E7, j7, d7, L7, es7, rfl, hR7, hE7, hD7, hB⟩; have HM7 := Aside0.mk (HM6.out.doc hD7 hB); have HA7 := Aside0.mk (blk_below HA6.out hB); have HR7 := Aside0.mk hR7; have HE7 := Aside0.mk hE7; clear hR7 hE7 hD7 hB))
              clear b0 b1 b2 p1 p2 p3 p4 p5
              have hal := below_alloc (Below.refl w7.heap.size w7) (.cells #[.slice A7 k7 c7, .int .i64 last, .slice E7 j7 d7] 42)
              have HM8 := Aside0.mk (HM7.out.below hal)
              have HA8 := Aside0.mk (blk_below HA7.out hal)
              have HX8 := Aside0.mk (blk_new w7 (.cells #[.slice A7 k7 c7, .int .i64 last, .slice E7 j7 d7] 42))
              clear hal
              generalize w7.alloc (.cells #[.slice A7 k7 c7, .int .i64 last, .slice E7 j7 d7] 42) = w8 at *
              generalize w7.heap.size = gx at *
              have e0 : w8.cell? ⟨gx, 0, none⟩ = some (.slice A7 k7 c7) := (blk_cell HX8.out 0).trans rfl
              have e1 : w8.cell? ⟨gx, 1, none⟩ = some (.int .i64 last) := (blk_cell HX8.out 1).trans rfl
              have e2 : w8.cell? ⟨gx, 2, none⟩ = some (.slice E7 j7 d7) := (blk_cell HX8.out 2).trans rfl
              go_wp2_with ((with_reducible refine gate_st 42 6 176 rfl ?_); go_loud (refine tab_put2 rfl 6 176 rfl gt _ A7 k7 c7 last E7 j7 d7 rfl rfl rfl HM8.out.box ?_); intro w9 hg hbx hgr; have HM9 := Aside0.mk (HM8.out.store hg hbx HSb.out.gtb hgr); have HA9 := Aside0.mk (blk_grown HA8.out hgr (box_ne HM8.out.box HA8.out (by decide))); clear hg hbx hgr)
              go_meet
              case rel => exact ⟨rfl, Aside0.mk (KM.st HM9.out HR7.out HE7.out (by have := HSb.out.lst; omega) (by rw [List.length_map]; have := HSb.out.len; omega) HSb.out.gtb), HA9⟩
          by_cases h5 : y0 = 5
          · subst h5
            as_aux_lemma =>
              obtain ⟨xa, f6, hK, hD⟩ := take_pair (k := k) (A := A) (c := c) (E := E) (d := d) (j := j) HSb.out.tv HSb.out.rel y1 y3 HW.out.h1
              have HK := Aside0.mk hK
              have HD := Aside0.mk hD
              clear hK hD
              go_upto_region 41 with (first
                | (go_at_call 22; (with_reducible refine HK.out.mono ?_); rintro e w6 ⟨rfl, hKO⟩; have HM6 := Aside0.mk (HSb.out.kern hKO).1; have HA6 := Aside0.mk ((HSb.out.kern hKO).2 _ _ _ HGA.out (by decide) (by decide) (by decide)); clear hKO; have b0 : w6.cell? ⟨gt, 0, none⟩ = some (.slice A k c) := (blk_cell HM6.out.box 0).trans rfl; have b1 : w6.cell? ⟨gt, 1, none⟩ = some (.int .i64 last) := (blk_cell HM6.out.box 1).trans rfl; have b2 : w6.cell? ⟨gt, 2, none⟩ = some (.slice E j d) := (blk_cell HM6.out.box 2).trans rfl; have p1 : w6.cell? ⟨ga, 1, none⟩ = some (.int .i64 y1) := (blk_cell HA6.out 1).trans rfl; have p2 : w6.cell? ⟨ga, 2, none⟩ = some (.int .i64 y2) := (blk_cell HA6.out 2).trans rfl; have p3 : w6.cell? ⟨ga, 3, none⟩ = some (.int .i64 y3) := (blk_cell HA6.out 3).trans rfl; have p4 : w6.cell? ⟨ga, 4, none⟩ = some (.int .i64 y4) := (blk_cell HA6.out 4).trans rfl; have p5 : w6.cell? ⟨ga, 5, none⟩ = some (.int .i64 y5) := (blk_cell HA6.out 5).trans rfl)
                | (go_at_call 23; (with_reducible refine (HD.out _ HM6.out.rt).mono ?_); rintro e w7 ⟨A7, k7, c7, E7, j7, d7, L7, es7, rfl, hR7, hE7, hD7, hB⟩; have HM7 := Aside0.mk (HM6.out.doc hD7 hB); have HA7 := Aside0.mk (blk_below HA6.out hB); have HR7 := Aside0.mk hR7; have HE7 := Aside0.mk hE7; clear hR7 hE7 hD7 hB))
              clear b0 b1 b2 p1 p2 p3 p4 p5
              have hal := below_alloc (Below.refl w7.heap.size w7) (.cells #[.slice A7 k7 c7, .int .i64 last, .slice E7 j7 d7] 42)
              have HM8 := Aside0.mk (HM7.out.below hal)
              have HA8 := Aside0.mk (blk_below HA7.out hal)
              have HX8 := Aside0.mk (blk_new w7 (.cells #[.slice A7 k7 c7, .int .i64 last, .slice E7 j7 d7] 42))
              clear hal
              generalize w7.alloc (.cells #[.slice A7 k7 c7, .int .i64 last, .slice E7 j7 d7] 42) = w8 at *
              generalize w7.heap.size = gx at *
              have e0 : w8.cell? ⟨gx, 0, none⟩ = some (.slice A7 k7 c7) := (blk_cell HX8.out 0).trans rfl
              have e1 : w8.cell? ⟨gx, 1, none⟩ = some (.int .i64 last) := (blk_cell HX8.out 1).trans rfl
              have e2 : w8.cell? ⟨gx, 2, none⟩ = some (.slice E7 j7 d7) := (blk_cell HX8.out 2).trans rfl
              go_wp2_with ((with_reducible refine gate_st 42 6 197 rfl ?_); go_loud (refine tab_put2 rfl 6 197 rfl gt _ A7 k7 c7 last E7 j7 d7 rfl rfl rfl HM8.out.box ?_); intro w9 hg hbx hgr; have HM9 := Aside0.mk (HM8.out.store hg hbx HSb.out.gtb hgr); have HA9 := Aside0.mk (blk_grown HA8.out hgr (box_ne HM8.out.box HA8.out (by decide))); clear hg hbx hgr)
              go_meet
              case rel => exact ⟨rfl, Aside0.mk (KM.st HM9.out HR7.out HE7.out (by have := HSb.out.lst; omega) (by rw [List.length_map]; have := HSb.out.len; omega) HSb.out.gtb), HA9⟩
          have r0 : (y0 == 0) = false := by simp [h0]
          have r1 : (y0 == 1) = false := by simp [h1]
          have r2 : (y0 == 2) = false := by simp [h2]
          have r3 : (y0 == 3) = false := by simp [h3]
          have r4 : (y0 == 4) = false := by simp [h4]
          have r5 : (y0 == 5) = false := by simp [h5]
          have HN := Aside0.mk HSb.out.st
          go_wp2
          go_meet
          case rel => exact ⟨rfl, HN, HGA⟩
        case rest =>
          clear HSb HGA b0 b1 b2 p0 p1 p2 p3 p4 p5
          obtain ⟨rfl, HI, HGA⟩ := hcut
          as_aux_lemma =>
            go_upto_region 43 with (fail)
            obtain ⟨m, n, D, B, v, f, last, A, k, c, L, E, j, d, es, hS⟩ := HI.out
            have HS := Aside0.mk hS
            have HT := Aside0.mk hS.tv
            have HH := Aside0.mk hS.rel
            have HR := Aside0.mk hS.dr.rt
            have HEL := Aside0.mk (show es.length ≤ 1000000 by have := hS.len; omega)
            have HSET := Aside0.mk (show ∀ q r, f q = some r → r.ign < 4294967296 ∧ r.ca < 4294967296 from fun q r hq => ⟨(hS.tv.yes q r hq).ign, (hS.tv.yes q r hq).ca⟩)
            clear HI hS
            have b0 : wc.cell? ⟨gt, 0, none⟩ = some (.slice A k c) := (blk_cell HS.out.box 0).trans rfl
            have b1 : wc.cell? ⟨gt, 1, none⟩ = some (.int .i64 last) := (blk_cell HS.out.box 1).trans rfl
            have b2 : wc.cell? ⟨gt, 2, none⟩ = some (.slice E j d) := (blk_cell HS.out.box 2).trans rfl
            have p0 : wc.cell? ⟨ga, 0, none⟩ = some (.int .i64 y0) := (blk_cell HGA.out 0).trans rfl
            have p1 : wc.cell? ⟨ga, 1, none⟩ = some (.int .i64 y1) := (blk_cell HGA.out 1).trans rfl
            have p2 : wc.cell? ⟨ga, 2, none⟩ = some (.int .i64 y2) := (blk_cell HGA.out 2).trans rfl
            have p3 : wc.cell? ⟨ga, 3, none⟩ = some (.int .i64 y3) := (blk_cell HGA.out 3).trans rfl
            have p4 : wc.cell? ⟨ga, 4, none⟩ = some (.int .i64 y4) := (blk_cell HGA.out 4).trans rfl
            have p5 : wc.cell? ⟨ga, 5, none⟩ = some (.int .i64 y5) := (blk_cell HGA.out 5).trans rfl
            refine region_seq (fun w_ => Below wc.heap.size wc w_) []
              [(0, some 201, .pure), (1, some 202, .pure), (2, some 203, .pure), (3, some 204, .pure), (4, some 205, .held), (5, some 206, .one), (6, some 207, .pure), (7, some 208, .pure), (8, some 209, .pure), (9, some 210, .pure), (10, some 211, .pure), (14, some 215, .pure), (11, some 212, .held), (13, some 214, .held), (15, some 216, .held), (12, some 213, .one), (16, some 217, .one), (17, some 218, .pure), (18, some 219, .pure), (19, some 220, .pure), (20, some 221, .pure), (21, some 222, .pure), (23, some 224, .pure), (27, some 228, .pure), (29, some 230, .pure), (22, some 223, .held), (24, some 225, .held), (26, some 227, .held), (28, some 229, .held), (30, some 231, .held), (25, some 226, .one), (31, some 232, .one), (32, some 233, .pure), (33, some 234, .pure), (34, some 235, .pure), (35, some 236, .pure), (36, some 237, .pure), (38, some 239, .pure), (42, some 243, .pure), (44, some 245, .pure), (37, some 238, .held), (39, some 240, .held), (41, some 242, .held), (43, some 244, .held), (45, some 246, .held), (40, some 241, .one), (46, some 247, .one), (47, some 248, .pure), (48, some 249, .pure), (49, some 250, .pure), (50, some 251, .pure), (51, some 252, .pure), (55, some 256, .pure), (52, some 253, .held), (54, some 255, .held), (56, some 257, .held), (53, some 254, .one), (57, some 258, .one), (58, some 259, .pure), (59, some 260, .pure)] (by kernel_rfl) (by kernel_rfl) ?_
            have hS := below_drew (Below.refl wc.heap.size wc)
            repeat (first
              | (refine s_pure (v := ?_) (a' := ?_) rfl (fun _ _ _ h => h) rfl ?hy ?ha ?_; (case hy => (intro w_; go_simp; with_reducible rfl)); (case ha => (simp only [Act.put, List.setIfInBounds_toArray, List.set_cons_zero, List.set_cons_succ, i64_w, i32_w]; rfl)))
              | (refine s_held (v := ?_) (a' := ?_) hS rfl (fun _ _ _ h => h) rfl ?hy ?ha ?_; (case hy => (intro w_ hb_; have s0 := pw_cell_below hb_ b0; have s1 := pw_cell_below hb_ b1; have s2 := pw_cell_below hb_ b2; have s3 := pw_cell_below hb_ p1; have s4 := pw_cell_below hb_ p2; have s5 := pw_cell_below hb_ p3; go_simp; with_reducible rfl)); (case ha => (simp only [Act.put, List.setIfInBounds_toArray, List.set_cons_zero, List.set_cons_succ, i64_w, i32_w]; rfl))))
            refine s_oneL rfl (fun K hK => ?_) rfl
            go_wp2_with (go_at_call 14; (with_reducible refine (same_any (HT.out.below hS) HH.out (HR.out.below hS) last HEL.out).mono ?_); rintro e wz1 ⟨rfl, hB⟩)
            have hS2 : Below wc.heap.size wc wz1 := hS.trans (below_sub hB hS.size)
            clear hB hS
            have hS := hS2
            clear hS2
            refine hK _ _ hS ?_
            clear hK
            repeat (first
              | (refine s_pure (v := ?_) (a' := ?_) rfl (fun _ _ _ h => h) rfl ?hy ?ha ?_; (case hy => (intro w_; go_simp; with_reducible rfl)); (case ha => (simp only [Act.put, List.setIfInBounds_toArray, List.set_cons_zero, List.set_cons_succ, i64_w, i32_w]; rfl)))
              | (refine s_held (v := ?_) (a' := ?_) hS rfl (fun _ _ _ h => h) rfl ?hy ?ha ?_; (case hy => (intro w_ hb_; have s0 := pw_cell_below hb_ b0; have s1 := pw_cell_below hb_ b1; have s2 := pw_cell_below hb_ b2; have s3 := pw_cell_below hb_ p1; have s4 := pw_cell_below hb_ p2; have s5 := pw_cell_below hb_ p3; go_simp; with_reducible rfl)); (case ha => (simp only [Act.put, List.setIfInBounds_toArray, List.set_cons_zero, List.set_cons_succ, i64_w, i32_w]; rfl))))
            refine s_oneL rfl (fun K hK => ?_) rfl
            go_wp2_with (go_at_call 24; (with_reducible refine (liv_any (HT.out.below hS) y2 HW.out.h2).mono ?_); rintro e w0z ⟨rfl, rfl⟩)
            refine hK _ _ hS ?_
            clear hK
            as_aux_lemma =>
              repeat (first
                | (refine s_pure (v := ?_) (a' := ?_) rfl (fun _ _ _ h => h) rfl ?hy ?ha ?_; (case hy => (intro w_; go_simp; with_reducible rfl)); (case ha => (simp only [Act.put, List.setIfInBounds_toArray, List.set_cons_zero, List.set_cons_succ, i64_w, i32_w]; rfl)))
                | (refine s_held (v := ?_) (a' := ?_) hS rfl (fun _ _ _ h => h) rfl ?hy ?ha ?_; (case hy => (intro w_ hb_; have s0 := pw_cell_below hb_ b0; have s1 := pw_cell_below hb_ b1; have s2 := pw_cell_below hb_ b2; have s3 := pw_cell_below hb_ p1; have s4 := pw_cell_below hb_ p2; have s5 := pw_cell_below hb_ p3; go_simp; with_reducible rfl)); (case ha => (simp only [Act.put, List.setIfInBounds_toArray, List.set_cons_zero, List.set_cons_succ, i64_w, i32_w]; rfl))))
              refine s_oneL rfl (fun K hK => ?_) rfl
              go_wp2_with (go_at_call 25; (with_reducible refine (rlive_any HH.out (HR.out.below hS) last y2).mono ?_); rintro e wz2 ⟨rfl, hB⟩)
              have hS2 : Below wc.heap.size wc wz2 := hS.trans (below_sub hB hS.size)
              clear hB hS
              have hS := hS2
              clear hS2
              refine hK _ _ hS ?_
              clear hK
              repeat (first
                | (refine s_pure (v := ?_) (a' := ?_) rfl (fun _ _ _ h => h) rfl ?hy ?ha ?_; (case hy => (intro w_; go_simp; with_reducible rfl)); (case ha => (simp only [Act.put, List.setIfInBounds_toArray, List.set_cons_zero, List.set_cons_succ, i64_w, i32_w]; rfl)))
                | (refine s_held (v := ?_) (a' := ?_) hS rfl (fun _ _ _ h => h) rfl ?hy ?ha ?_; (case hy => (intro w_ hb_; have s0 := pw_cell_below hb_ b0; have s1 := pw_cell_below hb_ b1; have s2 := pw_cell_below hb_ b2; have s3 := pw_cell_below hb_ p1; have s4 := pw_cell_below hb_ p2; have s5 := pw_cell_below hb_ p3; go_simp; with_reducible rfl)); (case ha => (simp only [Act.put, List.setIfInBounds_toArray, List.set_cons_zero, List.set_cons_succ, i64_w, i32_w]; rfl))))
              refine s_oneL rfl (fun K hK => ?_) rfl
              go_wp2_with (go_at_call 26; (with_reducible refine (how_any (HT.out.below hS) y2 y3 HW.out.h2).mono ?_); rintro e wz3 ⟨rfl, hB⟩)
              have hS2 : Below wc.heap.size wc wz3 := hS.trans (below_sub hB hS.size)
              clear hB hS
              have hS := hS2
              clear hS2
              refine hK _ _ hS ?_
              clear hK
              as_aux_lemma =>
                repeat (first
                  | (refine s_pure (v := ?_) (a' := ?_) rfl (fun _ _ _ h => h) rfl ?hy ?ha ?_; (case hy => (intro w_; go_simp; with_reducible rfl)); (case ha => (simp only [Act.put, List.setIfInBounds_toArray, List.set_cons_zero, List.set_cons_succ, i64_w, i32_w]; rfl)))
                  | (refine s_held (v := ?_) (a' := ?_) hS rfl (fun _ _ _ h => h) rfl ?hy ?ha ?_; (case hy => (intro w_ hb_; have s0 := pw_cell_below hb_ b0; have s1 := pw_cell_below hb_ b1; have s2 := pw_cell_below hb_ b2; have s3 := pw_cell_below hb_ p1; have s4 := pw_cell_below hb_ p2; have s5 := pw_cell_below hb_ p3; go_simp; with_reducible rfl)); (case ha => (simp only [Act.put, List.setIfInBounds_toArray, List.set_cons_zero, List.set_cons_succ, i64_w, i32_w]; rfl))))
                refine s_oneL rfl (fun K hK => ?_) rfl
                go_wp2_with (go_at_call 27; (with_reducible refine (rhow_any HH.out (HR.out.below hS) last y2 y3 HSET.out).mono ?_); rintro e wz4 ⟨rfl, hB⟩)
                have hS2 : Below wc.heap.size wc wz4 := hS.trans (below_sub hB hS.size)
                clear hB hS
                have hS := hS2
                clear hS2
                refine hK _ _ hS ?_
                clear hK
                repeat (first
                  | (refine s_pure (v := ?_) (a' := ?_) rfl (fun _ _ _ h => h) rfl ?hy ?ha ?_; (case hy => (intro w_; go_simp; with_reducible rfl)); (case ha => (simp only [Act.put, List.setIfInBounds_toArray, List.set_cons_zero, List.set_cons_succ, i64_w, i32_w]; rfl)))
                  | (refine s_held (v := ?_) (a' := ?_) hS rfl (fun _ _ _ h => h) rfl ?hy ?ha ?_; (case hy => (intro w_ hb_; have s0 := pw_cell_below hb_ b0; have s1 := pw_cell_below hb_ b1; have s2 := pw_cell_below hb_ b2; have s3 := pw_cell_below hb_ p1; have s4 := pw_cell_below hb_ p2; have s5 := pw_cell_below hb_ p3; go_simp; with_reducible rfl)); (case ha => (simp only [Act.put, List.setIfInBounds_toArray, List.set_cons_zero, List.set_cons_succ, i64_w, i32_w]; rfl))))
                refine s_oneL rfl (fun K hK => ?_) rfl
                go_wp2_with (go_at_call 28; (with_reducible refine (child_any (HT.out.below hS) y1 y2 HW.out.h2 HW.out.h1).mono ?_); rintro e w0z ⟨rfl, rfl⟩)
                refine hK _ _ hS ?_
                clear hK
                as_aux_lemma =>
                  repeat (first
                    | (refine s_pure (v := ?_) (a' := ?_) rfl (fun _ _ _ h => h) rfl ?hy ?ha ?_; (case hy => (intro w_; go_simp; with_reducible rfl)); (case ha => (simp only [Act.put, List.setIfInBounds_toArray, List.set_cons_zero, List.set_cons_succ, i64_w, i32_w]; rfl)))
                    | (refine s_held (v := ?_) (a' := ?_) hS rfl (fun _ _ _ h => h) rfl ?hy ?ha ?_; (case hy => (intro w_ hb_; have s0 := pw_cell_below hb_ b0; have s1 := pw_cell_below hb_ b1; have s2 := pw_cell_below hb_ b2; have s3 := pw_cell_below hb_ p1; have s4 := pw_cell_below hb_ p2; have s5 := pw_cell_below hb_ p3; go_simp; with_reducible rfl)); (case ha => (simp only [Act.put, List.setIfInBounds_toArray, List.set_cons_zero, List.set_cons_succ, i64_w, i32_w]; rfl))))
                  refine s_oneL rfl (fun K hK => ?_) rfl
                  go_wp2_with (go_at_call 29; (with_reducible refine (rchild_any HH.out (HR.out.below hS) last y1 y2).mono ?_); rintro e wz5 ⟨rfl, hB⟩)
                  have hS2 : Below wc.heap.size wc wz5 := hS.trans (below_sub hB hS.size)
                  clear hB hS
                  have hS := hS2
                  clear hS2
                  refine hK _ _ hS ?_
                  clear hK
                  repeat (first
                    | (refine s_pure (v := ?_) (a' := ?_) rfl (fun _ _ _ h => h) rfl ?hy ?ha ?_; (case hy => (intro w_; go_simp; with_reducible rfl)); (case ha => (simp only [Act.put, List.setIfInBounds_toArray, List.set_cons_zero, List.set_cons_succ, i64_w, i32_w]; rfl)))
                    | (refine s_held (v := ?_) (a' := ?_) hS rfl (fun _ _ _ h => h) rfl ?hy ?ha ?_; (case hy => (intro w_ hb_; have s0 := pw_cell_below hb_ b0; have s1 := pw_cell_below hb_ b1; have s2 := pw_cell_below hb_ b2; have s3 := pw_cell_below hb_ p1; have s4 := pw_cell_below hb_ p2; have s5 := pw_cell_below hb_ p3; go_simp; with_reducible rfl)); (case ha => (simp only [Act.put, List.setIfInBounds_toArray, List.set_cons_zero, List.set_cons_succ, i64_w, i32_w]; rfl))))
                  refine s_oneL rfl (fun K hK => ?_) rfl
                  go_wp2_with (go_at_call 30; (with_reducible refine (pend_any (HT.out.below hS) y2 HW.out.h2).mono ?_); rintro e w0z ⟨rfl, rfl⟩)
                  refine hK _ _ hS ?_
                  clear hK
                  as_aux_lemma =>
                    repeat (first
                      | (refine s_pure (v := ?_) (a' := ?_) rfl (fun _ _ _ h => h) rfl ?hy ?ha ?_; (case hy => (intro w_; go_simp; with_reducible rfl)); (case ha => (simp only [Act.put, List.setIfInBounds_toArray, List.set_cons_zero, List.set_cons_succ, i64_w, i32_w]; rfl)))
                      | (refine s_held (v := ?_) (a' := ?_) hS rfl (fun _ _ _ h => h) rfl ?hy ?ha ?_; (case hy => (intro w_ hb_; have s0 := pw_cell_below hb_ b0; have s1 := pw_cell_below hb_ b1; have s2 := pw_cell_below hb_ b2; have s3 := pw_cell_below hb_ p1; have s4 := pw_cell_below hb_ p2; have s5 := pw_cell_below hb_ p3; go_simp; with_reducible rfl)); (case ha => (simp only [Act.put, List.setIfInBounds_toArray, List.set_cons_zero, List.set_cons_succ, i64_w, i32_w]; rfl))))
                    refine s_oneL rfl (fun K hK => ?_) rfl
                    go_wp2_with (go_at_call 31; (with_reducible refine (rpend_any HH.out (HR.out.below hS) last y2).mono ?_); rintro e wz6 ⟨rfl, hB⟩)
                    have hS2 : Below wc.heap.size wc wz6 := hS.trans (below_sub hB hS.size)
                    clear hB hS
                    have hS := hS2
                    clear hS2
                    refine hK _ _ hS ?_
                    clear hK
                    repeat (first
                      | (refine s_pure (v := ?_) (a' := ?_) rfl (fun _ _ _ h => h) rfl ?hy ?ha ?_; (case hy => (intro w_; go_simp; with_reducible rfl)); (case ha => (simp only [Act.put, List.setIfInBounds_toArray, List.set_cons_zero, List.set_cons_succ, i64_w, i32_w]; rfl)))
                      | (refine s_held (v := ?_) (a' := ?_) hS rfl (fun _ _ _ h => h) rfl ?hy ?ha ?_; (case hy => (intro w_ hb_; have s0 := pw_cell_below hb_ b0; have s1 := pw_cell_below hb_ b1; have s2 := pw_cell_below hb_ b2; have s3 := pw_cell_below hb_ p1; have s4 := pw_cell_below hb_ p2; have s5 := pw_cell_below hb_ p3; go_simp; with_reducible rfl)); (case ha => (simp only [Act.put, List.setIfInBounds_toArray, List.set_cons_zero, List.set_cons_succ, i64_w, i32_w]; rfl))))
                    refine s_tailL _ (by kernel_rfl) ?_
                    simp only [opsAt, List.filterMap_nil]
                    clear b0 b1 b2 p0 p1 p2 p3 p4 p5
                    have HN := Aside0.mk (show KSt w1 wz6 g gt (i + 1) from ⟨_, _, _, _, _, _, _, _, _, _, _, _, _, _, _, HS.out.below hS⟩)
                    clear hS
                    go_wp2
                    go_roundw
                    case measure => simp [intOf]; omega
                    case rel => exact ⟨i + 1, by omega, by go_num, HN⟩
      · obtain rfl : i = k0 := by omega
        clear hS
        go_wp2
        go_ret
        exact ⟨rfl, HB1.out.trans (below_sub HS.out.bel HB1.out.size)⟩
end Go.Proofs.YtbgodajbdbgdfaaDoor.Kern
