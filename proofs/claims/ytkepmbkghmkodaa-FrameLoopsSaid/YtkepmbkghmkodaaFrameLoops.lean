/- FrameLoops: for every row of kinds, every number and every node that can be read the law returns true. No condition. -/
import Derived.Test.YtkepmbkghmkodaaRows
import Derived.Test.YtkepmbkghmkodaaFrameGood
import Derived.Test.YtkepmbkghmkodaaWeights5
import Derived.ProofKit
import Derived.OpenShut
import Derived.ShutString
import Derived.ChangeOld
import Derived.SizedLaws
namespace Go.Proofs.Ytkepmbkghmkodaa
open Go.RowKit Go.Proofs.YtkepmbkghmkodaaW.PrintWords Go.Proofs.YtkepmbkghmkodaaW.PrintLast Go.Proofs.Ytkepmbkghmkodaa.Base Go.Proofs.Ytkepmbkghmkodaa.Frame Go.Proofs.Ytkepmbkghmkodaa.Q
set_option linter.unusedVariables false
set_option linter.unusedSimpArgs false
theorem at_u8 {w : World} {A : Option Addr} {n : Nat} {xs : List Int} (h : Kd.C (Kd.int .u8) w A n xs) (i : Nat) (hi : i < xs.length) : ∃ ad, A = some ad ∧ w.cell? (ad.add i) = some (.int .u8 xs[i]) := by
  obtain ⟨ad, c, e, _, hK, hc0⟩ := Kd.C_get h 0 (i : Int) (by omega) (by have := h.1; omega)
  rw [Int.toNat_natCast] at hK hc0
  have hd : xs.getD i 0 = xs[i] := by simp [List.getD_eq_getElem?_getD, List.getElem?_eq_getElem hi]
  rw [hd] at hK
  obtain rfl : c = [.int .u8 xs[i]] := hK
  refine ⟨ad, e, ?_⟩
  have := hc0 0 _ rfl
  rw [show i * (Kd.int .u8).sz + 0 = i by show i * 1 + 0 = i; omega] at this
  exact this
/-- What is pushed. -/
def mkI (k nk : Int) (nm : ByteArray) (gv : Bool) (s1 s2 s3 s4 s5 : Sl) : It := { (default : It) with kind := k, nk := nk, nname := nm, ngiven := gv, s1 := s1, s2 := s2, s3 := s3, s4 := s4, s5 := s5 }
/-- The stack in the loop: what is good, and how many loops. -/
structure LoopSt (w : World) (base g : Nat) (c : Int) (k : Nat) : Prop where
  ex : ∃ r, StR w base g r ∧ Frame.Good r ∧ (cntR r : Int) = c ∧ r.length ≤ k + 1
theorem loop_push {w : World} {base g k : Nat} {r : List It} {x : It} {c c' : Int} (hS : StR w base g ([x].reverse ++ r)) (hg : Frame.Good r) (hc : (cntR r : Int) = c) (hl : r.length ≤ k + 1) (hw : isWall x.kind = false) (hcc : c' = if isLoop x.kind = true then c + 1 else c) : LoopSt w base g c' (k + 1) := by
  refine ⟨x :: r, hS, good_push hg hw, ?_, by simp; omega⟩
  rw [cntR_cons]
  subst hcc
  by_cases h : isLoop x.kind = true
  · rw [if_pos h, if_pos h]; omega
  · rw [if_neg h, if_neg h, if_neg (by rw [hw]; decide)]; exact hc
theorem tmod_cases (b : Int) (h0 : 0 ≤ b) : b.tmod 14 = 0 ∨ b.tmod 14 = 1 ∨ b.tmod 14 = 2 ∨ b.tmod 14 = 3 ∨ b.tmod 14 = 4 ∨ b.tmod 14 = 5 ∨ b.tmod 14 = 6 ∨ b.tmod 14 = 7 ∨ b.tmod 14 = 8 ∨ b.tmod 14 = 9 ∨ b.tmod 14 = 10 ∨ b.tmod 14 = 11 ∨ b.tmod 14 = 12 ∨ b.tmod 14 = 13 := by
  rw [Int.tmod_eq_emod_of_nonneg h0]
  omega
theorem u8_rng {c : Int} (h : (Lit.int .u8 c).wf = true) : 0 ≤ c ∧ c ≤ 255 := by
  simp only [Lit.wf, Bool.and_eq_true, decide_eq_true_eq] at h
  have h1 : IntKind.u8.min = 0 := rfl
  have h2 : IntKind.u8.max = 255 := rfl
  rw [h1, h2] at h
  exact h
def zNode : Value := .agg #[.int .i64 0, .string ⟨#[]⟩, .bool false, .slice none 0 0, .slice none 0 0, .slice none 0 0, .slice none 0 0, .slice none 0 0]
theorem push_one {w w3 : World} {base g : Nat} {r : List It} (hS : StR w base g r) (hT : Below base w3 w) (x : It) (cs : Array Value) (e : cs = ([x].flatMap It.cells).toArray) : kIt.C (w.alloc (.cells cs 60)) (some ⟨w.heap.size, 0, none⟩) 1 [x] ∧ StR (w.alloc (.cells cs 60)) base g r ∧ Below base w3 (w.alloc (.cells cs 60)) := by
  obtain ⟨A, c, hg, hbg, hR, hlc, hbl⟩ := StR_open hS
  exact ⟨it_rows (ys := [x]) (blk_new w _) e (by simp), StR_below hS (below_alloc (Below.refl _ _) _), below_trans hT (below_sub (below_alloc (Below.refl _ _) _) hbl)⟩
theorem key2 {r : List It} {n c : Int} (hg : Frame.Good r) (hcr : (cntR r : Int) = c) (hc : c ≤ 60) (hl : r.length ≤ 61) (hn : n ≤ 255) : ∃ (r2 : List It) (c2 : Int), brkR r n = r2 ∧ Frame.Good r2 ∧ (cntR r2 : Int) = c2 ∧ 0 ≤ c2 ∧ c2 ≤ 60 ∧ r2.length ≤ 61 ∧
    ((decide (1 ≤ n) = true ∧ decide (n ≤ c) = true ∧ brkB r n = true ∧ wrap64 (c - n) = c2 ∧ c - n = c2) ∨ (decide (1 ≤ n) = true ∧ decide (n ≤ c) = false ∧ brkB r n = false ∧ c2 = c) ∨ (decide (1 ≤ n) = false ∧ brkB r n = false ∧ c2 = c)) := by
  have hiff := brkB_iff r n
  rw [hcr] at hiff
  have hlen := brkR_len r n
  cases hb : brkB r n with
  | true =>
    rw [hb] at hiff
    have h2 := hiff.symm
    rw [Bool.and_eq_true] at h2
    obtain ⟨g2, c2⟩ := good_brk hg hb
    have h3 := of_decide_eq_true h2.2
    have h4 := of_decide_eq_true h2.1
    exact ⟨_, c - n, rfl, g2, by omega, by omega, by omega, by omega, .inl ⟨h2.1, h2.2, rfl, by unfold wrap64; omega, rfl⟩⟩
  | false =>
    rw [hb] at hiff
    have h2 := hiff.symm
    refine ⟨r, c, (brk_off hb).1, hg, hcr, by omega, hc, hl, .inr ?_⟩
    cases h1 : decide (1 ≤ n) with
    | true => rw [h1, Bool.true_and] at h2; exact .inl ⟨rfl, h2, rfl, rfl⟩
    | false => exact .inr ⟨rfl, rfl, rfl⟩
theorem key3 {r : List It} {c : Int} (hg : Frame.Good r) (hcr : (cntR r : Int) = c) (h0 : 0 ≤ c) : ∃ r3 : List It, Frame.Good r3 ∧ ((decide (0 < c) = true ∧ brkB r c = true ∧ conR r c = r3 ∧ (cntR r3 : Int) = 1) ∨ (decide (0 < c) = false ∧ r3 = r)) := by
  by_cases h : 0 < c
  · have hb : brkB r c = true := by rw [brkB_iff, hcr, decide_eq_true (by omega), decide_eq_true (by omega)]; rfl
    obtain ⟨g, h1⟩ := good_con hg hb hcr.symm
    exact ⟨_, g, .inl ⟨decide_eq_true h, hb, rfl, by rw [h1]; rfl⟩⟩
  · exact ⟨r, hg, .inr ⟨decide_eq_false h, rfl⟩⟩
theorem off_next {r : List It} {c : Int} (hcr : (cntR r : Int) = c) : brkB r (c + 1) = false := by
  rw [brkB_iff, hcr, decide_eq_false (show ¬ c + 1 ≤ c by omega), Bool.and_false]
set_option maxHeartbeats 8000000 in
set_option maxRecDepth 100000 in
theorem loops_law (A0 : Option Addr) (m0 c0 : Nat) (l : List Int) (n : Int) (x : S52) (cs : Array Value) (w : World) (hr : Kd.C (Kd.int .u8) w A0 m0 l) (hl8 : ∀ b ∈ l, 0 ≤ b ∧ b ≤ 255) (hn0 : 0 ≤ n) (hn1 : n ≤ 255) (hx : k52.K w x cs.toList) (hfit : NodeOps.FitNode x) :
    Calls Try.prog 6 #[.slice A0 m0 c0, .int .u8 n, .agg cs] w fun e w' => e = .returned (.bool true) ∧ Below w.heap.size w w' := by
  obtain rfl := hr.1
  obtain ⟨A3, c3, A4, c4, A5, c5, A6, c6, A7, c7, hcs, l3, g3, l4, g4, l5, g5, l6, g6, l7, g7⟩ := k52_open hx
  obtain rfl : cs = #[.int .i64 x.f0, .string x.f1, .bool x.f2, .slice A3 x.f3.length c3, .slice A4 x.f4.length c4, .slice A5 x.f5.length c5, .slice A6 x.f6.length c6, .slice A7 x.f7.length c7] := by
    have := congrArg List.toArray hcs
    simpa using this
  obtain ⟨wt, t0, t1, hev⟩ := Weights.w05 x hfit
  obtain ⟨kk, hkk⟩ := hev.rounds
  have HWF := Aside0.mk (show deadfallref05_Weight.f kk x.f0 x.f1 x.f2 x.f3 x.f4 x.f5 x.f6 x.f7 0 = some wt from hkk)
  have HR := Aside0.mk hr
  have HL8 := Aside0.mk hl8
  have H3 := Aside0.mk g3
  have H4 := Aside0.mk g4
  have H5 := Aside0.mk g5
  have H6 := Aside0.mk g6
  have H7 := Aside0.mk g7
  have HC := Aside0.mk (And.intro l3 (And.intro l4 (And.intro l5 (And.intro l6 l7))))
  clear hr hl8 g3 g4 g5 g6 g7 l3 l4 l5 l6 l7 hx hcs hev hkk hfit t0 t1
  have HBX := Aside0.mk (blk_new w (.cells #[Value.int .i64 x.f0, .string x.f1, .bool x.f2, .slice A3 x.f3.length c3, .slice A4 x.f4.length c4, .slice A5 x.f5.length c5, .slice A6 x.f6.length c6, .slice A7 x.f7.length c7] 52))
  have HB := Aside0.mk (below_alloc (Below.refl w.heap.size w) (.cells #[Value.int .i64 x.f0, .string x.f1, .bool x.f2, .slice A3 x.f3.length c3, .slice A4 x.f4.length c4, .slice A5 x.f5.length c5, .slice A6 x.f6.length c6, .slice A7 x.f7.length c7] 52))
  go_enter Try.func6, Try.ntmps6
  go_upto_region 1 with (fail)
  generalize w.alloc (.cells #[Value.int .i64 x.f0, .string x.f1, .bool x.f2, .slice A3 x.f3.length c3, .slice A4 x.f4.length c4, .slice A5 x.f5.length c5, .slice A6 x.f6.length c6, .slice A7 x.f7.length c7] 52) = w1 at *
  go_upto_region 3 with (go_at_call 23; (with_reducible refine (alive_any _).mono ?_); rintro e w2 ⟨rfl, hB⟩; have n0 := Aside0.mk (blk_below HBX.out hB); have n1 := Aside0.mk (below_trans HB.out (below_sub hB HB.out.size)); clear HBX HB hB; have HBX := n0; have HB := n1; clear n0 n1)
  have b0 : w2.cell? ⟨w.heap.size, 0, none⟩ = some (.int .i64 x.f0) := (blk_cell HBX.out 0).trans rfl
  have b1 : w2.cell? ⟨w.heap.size, 1, none⟩ = some (.string x.f1) := (blk_cell HBX.out 1).trans rfl
  have b2 : w2.cell? ⟨w.heap.size, 2, none⟩ = some (.bool x.f2) := (blk_cell HBX.out 2).trans rfl
  have b3 : w2.cell? ⟨w.heap.size, 3, none⟩ = some (.slice A3 x.f3.length c3) := (blk_cell HBX.out 3).trans rfl
  have b4 : w2.cell? ⟨w.heap.size, 4, none⟩ = some (.slice A4 x.f4.length c4) := (blk_cell HBX.out 4).trans rfl
  have b5 : w2.cell? ⟨w.heap.size, 5, none⟩ = some (.slice A5 x.f5.length c5) := (blk_cell HBX.out 5).trans rfl
  have b6 : w2.cell? ⟨w.heap.size, 6, none⟩ = some (.slice A6 x.f6.length c6) := (blk_cell HBX.out 6).trans rfl
  have b7 : w2.cell? ⟨w.heap.size, 7, none⟩ = some (.slice A7 x.f7.length c7) := (blk_cell HBX.out 7).trans rfl
  by_cases hlen : l.length > 60
  · have d0 : decide ((60 : Int) < (l.length : Int)) = true := decide_eq_true (by omega)
    go_wp2
    go_ret
    exact ⟨rfl, HB.out⟩
  have d0 : decide ((60 : Int) < (l.length : Int)) = false := decide_eq_false (by omega)
  have HLN := Aside0.mk hlen
  clear hlen
  by_cases hwt : wt > 300
  · have d1 : decide ((300 : Int) < wt) = true := decide_eq_true hwt
    go_wp2_with (go_at_call 24; (with_reducible refine (deadfallref05_Weight.calls kk _ _ _ _ _ _ _ _ _ _ _ _ _ _ _ _ _ _ 0 wt _ (Kd.C_below H3.out HB.out) HC.out.1 (Kd.C_below H4.out HB.out) HC.out.2.1 (Kd.C_below H5.out HB.out) HC.out.2.2.1 (Kd.C_below H6.out HB.out) HC.out.2.2.2.1 (Kd.C_below H7.out HB.out) HC.out.2.2.2.2 HWF.out).mono ?_); rintro e w3 ⟨rfl, hB⟩; have n1 := Aside0.mk (below_trans HB.out (below_sub hB HB.out.size)); clear HB hB b0 b1 b2 b3 b4 b5 b6 b7; have HB := n1; clear n1)
    go_ret
    exact ⟨rfl, HB.out⟩
  have d1 : decide ((300 : Int) < wt) = false := decide_eq_false hwt
  clear hwt
  go_upto_region 5 with (go_at_call 24; (with_reducible refine (deadfallref05_Weight.calls kk _ _ _ _ _ _ _ _ _ _ _ _ _ _ _ _ _ _ 0 wt _ (Kd.C_below H3.out HB.out) HC.out.1 (Kd.C_below H4.out HB.out) HC.out.2.1 (Kd.C_below H5.out HB.out) HC.out.2.2.1 (Kd.C_below H6.out HB.out) HC.out.2.2.2.1 (Kd.C_below H7.out HB.out) HC.out.2.2.2.2 HWF.out).mono ?_); rintro e w3 ⟨rfl, hB⟩; have n0 := Aside0.mk (blk_below HBX.out hB); have n1 := Aside0.mk (below_trans HB.out (below_sub hB HB.out.size)); clear HBX HB hB b0 b1 b2 b3 b4 b5 b6 b7; have HBX := n0; have HB := n1; clear n0 n1)
  clear d0 d1
  have HBlt := Aside0.mk (blk_lt HBX.out)
  have HS := Aside0.mk (show StR (w3.alloc (.cells #[.slice none 0 0] 56)) w3.heap.size w3.heap.size [] from ⟨_, blk_new w3 _, Nat.le_refl _, Kd.R_nil _ _ _ _ _⟩)
  have HT := Aside0.mk (below_alloc (Below.refl w3.heap.size w3) (.cells #[.slice none 0 0] 56))
  go_upto_region 6 with (fail)
  generalize w3.alloc (.cells #[.slice none 0 0] 56) = w4 at *
  obtain ⟨i9, hi9⟩ : ∃ i9 : It, i9 = { (default : It) with kind := 9, status := 7 } := ⟨_, rfl⟩
  have HCC := Aside0.mk (it_rows (ys := [i9]) (blk_new w4 (.cells #[Value.int .i64 9, .int .i64 0, .string ⟨#[]⟩, .bool false, .slice none 0 0, .slice none 0 0, .slice none 0 0, .slice none 0 0, .slice none 0 0, .int .i64 0, .int .i64 7, .bool false, .slice none 0 0, .slice none 0 0] 60)) (by rw [hi9]; rfl) (by simp))
  have HX := Aside0.mk (below_alloc (Below.refl w4.heap.size w4) (.cells #[Value.int .i64 9, .int .i64 0, .string ⟨#[]⟩, .bool false, .slice none 0 0, .slice none 0 0, .slice none 0 0, .slice none 0 0, .slice none 0 0, .int .i64 0, .int .i64 7, .bool false, .slice none 0 0, .slice none 0 0] 60))
  have HSX := Aside0.mk (StR_below HS.out HX.out)
  have HTX := Aside0.mk (below_trans HT.out (below_sub HX.out HT.out.size))
  have HG9 := Aside0.mk (show Frame.Good [i9] from .inl ⟨rfl, by rw [hi9], by rw [hi9]⟩)
  have HC9 := Aside0.mk (show cntR [i9] = 0 by rw [cntR_cons, hi9]; rfl)
  clear HS HX HT hi9
  go_upto_region 7 with (go_at_call 25; (with_reducible refine (push_any w3.heap.size w3.heap.size [] [i9] _ 1 1 _ HSX.out HCC.out (by simp)).mono ?_); rintro e w5 ⟨rfl, hS, hB⟩; have HLS := Aside0.mk (show LoopSt w5 w3.heap.size w3.heap.size 0 0 from ⟨[i9], hS, HG9.out, by rw [HC9.out]; rfl, Nat.le_refl _⟩); have HT := Aside0.mk (below_trans HTX.out hB); clear hS hB HSX HTX HCC HG9 HC9)
  go_wp2
  go_loopw [34, 8] (fun v34 v8 wr => ∃ (k : Nat) (c : Int), k ≤ l.length ∧ v34 = .int .i64 k ∧ v8 = .int .i64 c ∧ 0 ≤ c ∧ c ≤ k ∧ Aside0 (LoopSt wr w3.heap.size w3.heap.size c k) ∧ Aside0 (Below w3.heap.size w3 wr)) (fun v34 _ _ => l.length - (intOf v34).toNat)
  case atStart => exact ⟨0, 0, Nat.zero_le _, rfl, rfl, by omega, by omega, HLS, HT⟩
  case round =>
    clear HLS HT
    obtain ⟨k, c, hk, rfl, rfl, hc0, hc1, HLS, HT⟩ := hrel
    by_cases hlt : k < l.length
    · obtain ⟨ad, rfl, hb⟩ := at_u8 HR.out k hlt
      have hbr := HL8.out _ (List.getElem_mem hlt)
      have hb' := pw_cell_below HT.out (pw_cell_below HB.out hb)
      clear hb
      generalize l[k] = b at *
      obtain ⟨hb0, hb1⟩ := hbr
      obtain ⟨r, hS, hg, hcr, hlr⟩ := HLS.out.ex
      have HSr := Aside0.mk hS
      have HGr := Aside0.mk hg
      have HCr := Aside0.mk hcr
      have HLr := Aside0.mk hlr
      have HKn := Aside0.mk (show k ≤ 60 by have := HLN.out; omega)
      clear hS hg hcr hlr HLS
      have hkk : k ≤ 60 := HKn.out
      have ho0 : decide (0 ≤ (k : Int)) = true := decide_eq_true (by omega)
      have ho1 : decide ((k : Int) < (l.length : Int)) = true := decide_eq_true (by omega)
      have HBXr := Aside0.mk (blk_below HBX.out HT.out)
      have b0 : wr.cell? ⟨w.heap.size, 0, none⟩ = some (.int .i64 x.f0) := (blk_cell HBXr.out 0).trans rfl
      have b1 : wr.cell? ⟨w.heap.size, 1, none⟩ = some (.string x.f1) := (blk_cell HBXr.out 1).trans rfl
      have b2 : wr.cell? ⟨w.heap.size, 2, none⟩ = some (.bool x.f2) := (blk_cell HBXr.out 2).trans rfl
      have b3 : wr.cell? ⟨w.heap.size, 3, none⟩ = some (.slice A3 x.f3.length c3) := (blk_cell HBXr.out 3).trans rfl
      have b4 : wr.cell? ⟨w.heap.size, 4, none⟩ = some (.slice A4 x.f4.length c4) := (blk_cell HBXr.out 4).trans rfl
      have b5 : wr.cell? ⟨w.heap.size, 5, none⟩ = some (.slice A5 x.f5.length c5) := (blk_cell HBXr.out 5).trans rfl
      have b6 : wr.cell? ⟨w.heap.size, 6, none⟩ = some (.slice A6 x.f6.length c6) := (blk_cell HBXr.out 6).trans rfl
      have b7 : wr.cell? ⟨w.heap.size, 7, none⟩ = some (.slice A7 x.f7.length c7) := (blk_cell HBXr.out 7).trans rfl
      have HP : ∀ kd : Int, Aside0 (kIt.C (wr.alloc (.cells #[Value.int .i64 kd, .int .i64 x.f0, .string x.f1, .bool x.f2, .slice A3 x.f3.length c3, .slice A4 x.f4.length c4, .slice A5 x.f5.length c5, .slice A6 x.f6.length c6, .slice A7 x.f7.length c7, .int .i64 0, .int .i64 0, .bool false, .slice none 0 0, .slice none 0 0] 60)) (some ⟨wr.heap.size, 0, none⟩) 1 [mkI kd x.f0 x.f1 x.f2 ⟨A3, x.f3.length, c3⟩ ⟨A4, x.f4.length, c4⟩ ⟨A5, x.f5.length, c5⟩ ⟨A6, x.f6.length, c6⟩ ⟨A7, x.f7.length, c7⟩] ∧ StR (wr.alloc (.cells #[Value.int .i64 kd, .int .i64 x.f0, .string x.f1, .bool x.f2, .slice A3 x.f3.length c3, .slice A4 x.f4.length c4, .slice A5 x.f5.length c5, .slice A6 x.f6.length c6, .slice A7 x.f7.length c7, .int .i64 0, .int .i64 0, .bool false, .slice none 0 0, .slice none 0 0] 60)) w3.heap.size w3.heap.size r ∧ Below w3.heap.size w3 (wr.alloc (.cells #[Value.int .i64 kd, .int .i64 x.f0, .string x.f1, .bool x.f2, .slice A3 x.f3.length c3, .slice A4 x.f4.length c4, .slice A5 x.f5.length c5, .slice A6 x.f6.length c6, .slice A7 x.f7.length c7, .int .i64 0, .int .i64 0, .bool false, .slice none 0 0, .slice none 0 0] 60))) := fun kd =>
        ⟨it_rows (ys := [_]) (blk_new wr _) rfl (by simp), StR_below HSr.out (below_alloc (Below.refl _ _) _), below_trans HT.out (below_sub (below_alloc (Below.refl _ _) _) HT.out.size)⟩
      clear HBXr HSr
      rcases tmod_cases b hb0 with hq | hq | hq | hq | hq | hq | hq | hq | hq | hq | hq | hq | hq | hq
      all_goals
        go_wp2_with (go_at_call 25; (with_reducible refine (push_any w3.heap.size w3.heap.size r _ _ 1 1 _ (HP _).out.2.1 (HP _).out.1 (by have := HLr.out; omega)).mono ?_); rintro e w6 ⟨rfl, hS, hB⟩; have HS6 := Aside0.mk hS; have HT6 := Aside0.mk (below_trans (HP _).out.2.2 hB); clear hS hB)
        go_roundw
        case measure => simp [intOf]; omega
        case rel => exact ⟨k + 1, _, by omega, by go_num, rfl, by omega, by omega, ⟨loop_push HS6.out HGr.out HCr.out HLr.out rfl (by simp [mkI, isLoop])⟩, HT6⟩
    · have ho1 : decide ((k : Int) < (l.length : Int)) = false := decide_eq_false (by omega)
      have hk60 : k ≤ 60 := by have := HLN.out; omega
      obtain ⟨r, hS, hg, hcr, hlr⟩ := HLS.out.ex
      obtain ⟨r2, c2, hr2, hg2, hcr2, hc20, hc21, hl2, hcase⟩ := key2 (n := n) hg hcr (by omega) (by omega) hn1
      have HS := Aside0.mk hS
      have HCr := Aside0.mk hcr
      have HR2 := Aside0.mk hr2
      have HG2 := Aside0.mk hg2
      have HC2 := Aside0.mk hcr2
      have hrl : r.length ≤ 61 := by omega
      clear hS hg hcr hlr HLS hr2 hg2 hcr2
      go_upto_region 21 with (go_at_call 26; (with_reducible refine (loops_any _ _ _ _ HS.out (by omega)).mono ?_); rintro e w7 ⟨rfl, hB⟩; rw [HCr.out]; have n0 := Aside0.mk (StR_below HS.out hB); have n1 := Aside0.mk (below_trans HT.out (below_sub hB HT.out.size)); clear HS HT hB; have HS := n0; have HT := n1; clear n0 n1)
      rcases hcase with ⟨e1, e2, e3, e4, e4'⟩ | ⟨e1, e2, e3, e4⟩ | ⟨e1, e3, e4⟩
      case inr.inl => 
        have E3 := Aside0.mk e3
        subst e4
        clear e3
        go_upto_region 25 with (go_at_call 27; (with_reducible refine (brk_any _ _ _ n _ HS.out (by omega) (by omega) (by omega)).mono ?_); rintro e w8 ⟨rfl, hS, hB⟩; rw [E3.out]; have n0 := Aside0.mk (show StR w8 w3.heap.size w3.heap.size r2 from by rw [← HR2.out]; exact hS); have n1 := Aside0.mk (below_trans HT.out hB); clear HS HT hB hS E3; have HS := n0; have HT := n1; clear n0 n1)
        clear e1 e2 ho1 HCr HR2 hrl hk60
        have hw2 : wrap64 (c2 + 1) = c2 + 1 := by unfold wrap64; omega
        obtain ⟨r3, hg3, hcase3⟩ := key3 HG2.out HC2.out hc20
        have HG3 := Aside0.mk hg3
        have HOFF := Aside0.mk (off_next HC2.out)
        clear hg3
        rcases hcase3 with ⟨e5, e6, e7, e8⟩ | ⟨e5, rfl⟩
        case inl =>
          have E6 := Aside0.mk e6
          have E7 := Aside0.mk e7
          have E8 := Aside0.mk e8
          have hl3 : r3.length ≤ 61 := by have := conR_len r2 c2; rw [e7] at this; omega
          clear e6 e7 e8
          go_upto_region 27 with (first
            | (go_at_call 26; (with_reducible refine (loops_any _ _ r2 _ HS.out (by omega)).mono ?_); rintro e w9 ⟨rfl, hB⟩; rw [HC2.out]; have n0 := Aside0.mk (StR_below HS.out hB); have n1 := Aside0.mk (below_trans HT.out (below_sub hB HT.out.size)); clear HS HT hB; have HS := n0; have HT := n1; clear n0 n1)
            | (go_at_call 26; (with_reducible refine (loops_any _ _ r3 _ HS.out (by omega)).mono ?_); rintro e w9 ⟨rfl, hB⟩; rw [E8.out]; have n0 := Aside0.mk (StR_below HS.out hB); have n1 := Aside0.mk (below_trans HT.out (below_sub hB HT.out.size)); clear HS HT hB; have HS := n0; have HT := n1; clear n0 n1)
            | (go_at_call 28; (with_reducible refine (con_any _ _ _ (c2 + 1) _ HS.out (by omega) (by omega) (by omega)).mono ?_); rintro e w10 ⟨rfl, hS, hB⟩; rw [HOFF.out]; have n0 := Aside0.mk (show StR w10 w3.heap.size w3.heap.size r2 from by rw [← (brk_off HOFF.out).2]; exact hS); have n1 := Aside0.mk (below_trans HT.out hB); clear HS HT hB hS; have HS := n0; have HT := n1; clear n0 n1)
            | (go_at_call 28; (with_reducible refine (con_any _ _ _ c2 _ HS.out (by omega) (by omega) (by omega)).mono ?_); rintro e w11 ⟨rfl, hS, hB⟩; rw [E6.out]; have n0 := Aside0.mk (show StR w11 w3.heap.size w3.heap.size r3 from by rw [← E7.out]; exact hS); have n1 := Aside0.mk (below_trans HT.out hB); clear HS HT hB hS; have HS := n0; have HT := n1; clear n0 n1))
          obtain ⟨i12, hi12⟩ : ∃ i : It, i = { (default : It) with kind := 12, status := 3 } := ⟨_, rfl⟩
          have hk12 : i12.kind = 12 := by rw [hi12]
          have hs12 : i12.status = 3 := by rw [hi12]
          have HP := Aside0.mk (push_one HS.out HT.out i12 #[Value.int .i64 12, .int .i64 0, .string ⟨#[]⟩, .bool false, .slice none 0 0, .slice none 0 0, .slice none 0 0, .slice none 0 0, .slice none 0 0, .int .i64 0, .int .i64 3, .bool false, .slice none 0 0, .slice none 0 0] (by rw [hi12]; rfl))
          have HF1 := Aside0.mk (show cut isBack (i12 :: r3) 0 = none by unfold cut; rw [hk12]; rfl)
          have HF2 := Aside0.mk (show cntR (i12 :: r3) = 0 by rw [cntR_cons, hk12]; rfl)
          have HF3 := Aside0.mk (show brkB (i12 :: r3) 1 = false by rw [brkB_iff, HF2.out]; rfl)
          have HF4 := Aside0.mk (show savN (i12 :: r3) = 3 by show (if isAct i12.kind = true then i12.status else savN r3) = 3; rw [hk12, hs12]; rfl)
          have HF5 := Aside0.mk (show savB (i12 :: r3) = true by show (isAct i12.kind || savB r3) = true; rw [hk12]; rfl)
          obtain ⟨x9, h9, hs9⟩ := good_ret HG3.out
          have H9 := Aside0.mk h9
          have HS9 := Aside0.mk hs9
          have hll : (i12 :: r3).length ≤ 62 := by rw [List.length_cons]; omega
          have HBR := Aside0.mk (brk_off HF3.out).1
          clear hi12 hk12 hs12 h9 hs9 hw2 e5 HS HT
          go_upto_region 28 with (go_at_call 25; (with_reducible refine (push_any _ _ r3 [i12] _ 1 1 _ HP.out.2.1 HP.out.1 (by omega)).mono ?_); rintro e w12 ⟨rfl, hS, hB⟩; have HS := Aside0.mk (show StR w12 w3.heap.size w3.heap.size (i12 :: r3) from hS); have HT := Aside0.mk (below_trans HP.out.2.2 hB); clear hS hB HP)
          go_upto_region 29 with (go_at_call 29; (with_reducible refine (ret_no _ _ (i12 :: r3) _ HS.out (by omega) HF1.out).mono ?_); rintro e w13 ⟨rfl, hS, hB⟩; have n0 := Aside0.mk (push_one hS (below_trans HT.out hB) default #[Value.int .i64 0, .int .i64 0, .string ⟨#[]⟩, .bool false, .slice none 0 0, .slice none 0 0, .slice none 0 0, .slice none 0 0, .slice none 0 0, .int .i64 0, .int .i64 0, .bool false, .slice none 0 0, .slice none 0 0] rfl); clear hS hB HS HT; have HP := n0; clear n0)
          have HS := Aside0.mk HP.out.2.1
          have HT := Aside0.mk HP.out.2.2
          clear HP
          generalize w13.alloc (.cells #[Value.int .i64 0, .int .i64 0, .string ⟨#[]⟩, .bool false, .slice none 0 0, .slice none 0 0, .slice none 0 0, .slice none 0 0, .slice none 0 0, .int .i64 0, .int .i64 0, .bool false, .slice none 0 0, .slice none 0 0] 60) = w14 at *
          go_upto_region 31 with (first
            | (go_at_call 26; (with_reducible refine (loops_any _ _ (i12 :: r3) _ HS.out (by omega)).mono ?_); rintro e w15 ⟨rfl, hB⟩; rw [HF2.out]; have n0 := Aside0.mk (StR_below HS.out hB); have n1 := Aside0.mk (below_trans HT.out (below_sub hB HT.out.size)); clear HS HT hB; have HS := n0; have HT := n1; clear n0 n1)
            | (go_at_call 27; (with_reducible refine (brk_any _ _ (i12 :: r3) 1 _ HS.out (by omega) (by omega) (by omega)).mono ?_); rintro e w16 ⟨rfl, hS, hB⟩; rw [HF3.out]; have n0 := Aside0.mk (show StR w16 w3.heap.size w3.heap.size (i12 :: r3) from by rw [← HBR.out]; exact hS); have n1 := Aside0.mk (below_trans HT.out hB); clear HS HT hB hS; have HS := n0; have HT := n1; clear n0 n1))
          go_upto_region 33 with (first
            | (go_at_call 30; (with_reducible refine (sav_any _ _ (i12 :: r3) _ HS.out (by omega)).mono ?_); rintro e w17 ⟨rfl, hB⟩; rw [HF4.out, HF5.out]; have n0 := Aside0.mk (StR_below HS.out hB); have n1 := Aside0.mk (below_trans HT.out (below_sub hB HT.out.size)); clear HS HT hB; have HS := n0; have HT := n1; clear n0 n1)
            | (go_at_call 31; (with_reducible refine (pop_yes _ _ i12 r3 _ HS.out (by omega)).mono ?_); rintro e w18 ⟨rfl, hS, hB⟩; have n0 := Aside0.mk hS; have n1 := Aside0.mk (below_trans HT.out hB); clear HS HT hB hS; have HS := n0; have HT := n1; clear n0 n1))
          go_upto_region 34 with (go_at_call 29; (with_reducible refine (ret_yes _ _ r3 [] x9 _ HS.out (by omega) H9.out).mono ?_); rintro e w19 ⟨rfl, hS, hB⟩; have n0 := Aside0.mk (push_one hS (below_trans HT.out hB) x9 #[Value.int .i64 x9.kind, .int .i64 x9.nk, .string x9.nname, .bool x9.ngiven, .slice x9.s1.a x9.s1.n x9.s1.c, .slice x9.s2.a x9.s2.n x9.s2.c, .slice x9.s3.a x9.s3.n x9.s3.c, .slice x9.s4.a x9.s4.n x9.s4.c, .slice x9.s5.a x9.s5.n x9.s5.c, .int .i64 x9.at_, .int .i64 x9.status, .bool x9.free, .slice x9.s6.a x9.s6.n x9.s6.c, .slice x9.s7.a x9.s7.n x9.s7.c] rfl); clear hS hB HS HT; have HP := n0; clear n0)
          have HS := Aside0.mk HP.out.2.1
          have HT := Aside0.mk HP.out.2.2
          have k10 : (w19.alloc (.cells #[Value.int .i64 x9.kind, .int .i64 x9.nk, .string x9.nname, .bool x9.ngiven, .slice x9.s1.a x9.s1.n x9.s1.c, .slice x9.s2.a x9.s2.n x9.s2.c, .slice x9.s3.a x9.s3.n x9.s3.c, .slice x9.s4.a x9.s4.n x9.s4.c, .slice x9.s5.a x9.s5.n x9.s5.c, .int .i64 x9.at_, .int .i64 x9.status, .bool x9.free, .slice x9.s6.a x9.s6.n x9.s6.c, .slice x9.s7.a x9.s7.n x9.s7.c] 60)).cell? ⟨w19.heap.size, 10, none⟩ = some (.int .i64 7) := ((blk_cell (blk_new w19 _) 10).trans rfl).trans (show some (Value.int .i64 x9.status) = some (.int .i64 7) by rw [HS9.out])
          clear HP
          generalize w19.alloc (.cells #[Value.int .i64 x9.kind, .int .i64 x9.nk, .string x9.nname, .bool x9.ngiven, .slice x9.s1.a x9.s1.n x9.s1.c, .slice x9.s2.a x9.s2.n x9.s2.c, .slice x9.s3.a x9.s3.n x9.s3.c, .slice x9.s4.a x9.s4.n x9.s4.c, .slice x9.s5.a x9.s5.n x9.s5.c, .int .i64 x9.at_, .int .i64 x9.status, .bool x9.free, .slice x9.s6.a x9.s6.n x9.s6.c, .slice x9.s7.a x9.s7.n x9.s7.c] 60) = w20 at *
          go_wp2_with (go_at_call 32; (with_reducible refine (len_any _ _ [] _ HS.out).mono ?_); rintro e w' ⟨rfl, rfl⟩; rw [show (([] : List It).length : Int) = 0 from rfl])
          go_ret
          exact ⟨rfl, below_trans HB.out (below_sub HT.out HB.out.size)⟩
        case inr =>
          have hl3 : r3.length ≤ 61 := hl2
          go_upto_region 27 with (first
            | (go_at_call 26; (with_reducible refine (loops_any _ _ r3 _ HS.out (by omega)).mono ?_); rintro e w9 ⟨rfl, hB⟩; rw [HC2.out]; have n0 := Aside0.mk (StR_below HS.out hB); have n1 := Aside0.mk (below_trans HT.out (below_sub hB HT.out.size)); clear HS HT hB; have HS := n0; have HT := n1; clear n0 n1)
            | (go_at_call 28; (with_reducible refine (con_any _ _ _ (c2 + 1) _ HS.out (by omega) (by omega) (by omega)).mono ?_); rintro e w10 ⟨rfl, hS, hB⟩; rw [HOFF.out]; have n0 := Aside0.mk (show StR w10 w3.heap.size w3.heap.size r3 from by rw [← (brk_off HOFF.out).2]; exact hS); have n1 := Aside0.mk (below_trans HT.out hB); clear HS HT hB hS; have HS := n0; have HT := n1; clear n0 n1))
          obtain ⟨i12, hi12⟩ : ∃ i : It, i = { (default : It) with kind := 12, status := 3 } := ⟨_, rfl⟩
          have hk12 : i12.kind = 12 := by rw [hi12]
          have hs12 : i12.status = 3 := by rw [hi12]
          have HP := Aside0.mk (push_one HS.out HT.out i12 #[Value.int .i64 12, .int .i64 0, .string ⟨#[]⟩, .bool false, .slice none 0 0, .slice none 0 0, .slice none 0 0, .slice none 0 0, .slice none 0 0, .int .i64 0, .int .i64 3, .bool false, .slice none 0 0, .slice none 0 0] (by rw [hi12]; rfl))
          have HF1 := Aside0.mk (show cut isBack (i12 :: r3) 0 = none by unfold cut; rw [hk12]; rfl)
          have HF2 := Aside0.mk (show cntR (i12 :: r3) = 0 by rw [cntR_cons, hk12]; rfl)
          have HF3 := Aside0.mk (show brkB (i12 :: r3) 1 = false by rw [brkB_iff, HF2.out]; rfl)
          have HF4 := Aside0.mk (show savN (i12 :: r3) = 3 by show (if isAct i12.kind = true then i12.status else savN r3) = 3; rw [hk12, hs12]; rfl)
          have HF5 := Aside0.mk (show savB (i12 :: r3) = true by show (isAct i12.kind || savB r3) = true; rw [hk12]; rfl)
          obtain ⟨x9, h9, hs9⟩ := good_ret HG3.out
          have H9 := Aside0.mk h9
          have HS9 := Aside0.mk hs9
          have hll : (i12 :: r3).length ≤ 62 := by rw [List.length_cons]; omega
          have HBR := Aside0.mk (brk_off HF3.out).1
          clear hi12 hk12 hs12 h9 hs9 hw2 e5 HS HT
          go_upto_region 28 with (go_at_call 25; (with_reducible refine (push_any _ _ r3 [i12] _ 1 1 _ HP.out.2.1 HP.out.1 (by omega)).mono ?_); rintro e w12 ⟨rfl, hS, hB⟩; have HS := Aside0.mk (show StR w12 w3.heap.size w3.heap.size (i12 :: r3) from hS); have HT := Aside0.mk (below_trans HP.out.2.2 hB); clear hS hB HP)
          go_upto_region 29 with (go_at_call 29; (with_reducible refine (ret_no _ _ (i12 :: r3) _ HS.out (by omega) HF1.out).mono ?_); rintro e w13 ⟨rfl, hS, hB⟩; have n0 := Aside0.mk (push_one hS (below_trans HT.out hB) default #[Value.int .i64 0, .int .i64 0, .string ⟨#[]⟩, .bool false, .slice none 0 0, .slice none 0 0, .slice none 0 0, .slice none 0 0, .slice none 0 0, .int .i64 0, .int .i64 0, .bool false, .slice none 0 0, .slice none 0 0] rfl); clear hS hB HS HT; have HP := n0; clear n0)
          have HS := Aside0.mk HP.out.2.1
          have HT := Aside0.mk HP.out.2.2
          clear HP
          generalize w13.alloc (.cells #[Value.int .i64 0, .int .i64 0, .string ⟨#[]⟩, .bool false, .slice none 0 0, .slice none 0 0, .slice none 0 0, .slice none 0 0, .slice none 0 0, .int .i64 0, .int .i64 0, .bool false, .slice none 0 0, .slice none 0 0] 60) = w14 at *
          go_upto_region 31 with (first
            | (go_at_call 26; (with_reducible refine (loops_any _ _ (i12 :: r3) _ HS.out (by omega)).mono ?_); rintro e w15 ⟨rfl, hB⟩; rw [HF2.out]; have n0 := Aside0.mk (StR_below HS.out hB); have n1 := Aside0.mk (below_trans HT.out (below_sub hB HT.out.size)); clear HS HT hB; have HS := n0; have HT := n1; clear n0 n1)
            | (go_at_call 27; (with_reducible refine (brk_any _ _ (i12 :: r3) 1 _ HS.out (by omega) (by omega) (by omega)).mono ?_); rintro e w16 ⟨rfl, hS, hB⟩; rw [HF3.out]; have n0 := Aside0.mk (show StR w16 w3.heap.size w3.heap.size (i12 :: r3) from by rw [← HBR.out]; exact hS); have n1 := Aside0.mk (below_trans HT.out hB); clear HS HT hB hS; have HS := n0; have HT := n1; clear n0 n1))
          go_upto_region 33 with (first
            | (go_at_call 30; (with_reducible refine (sav_any _ _ (i12 :: r3) _ HS.out (by omega)).mono ?_); rintro e w17 ⟨rfl, hB⟩; rw [HF4.out, HF5.out]; have n0 := Aside0.mk (StR_below HS.out hB); have n1 := Aside0.mk (below_trans HT.out (below_sub hB HT.out.size)); clear HS HT hB; have HS := n0; have HT := n1; clear n0 n1)
            | (go_at_call 31; (with_reducible refine (pop_yes _ _ i12 r3 _ HS.out (by omega)).mono ?_); rintro e w18 ⟨rfl, hS, hB⟩; have n0 := Aside0.mk hS; have n1 := Aside0.mk (below_trans HT.out hB); clear HS HT hB hS; have HS := n0; have HT := n1; clear n0 n1))
          go_upto_region 34 with (go_at_call 29; (with_reducible refine (ret_yes _ _ r3 [] x9 _ HS.out (by omega) H9.out).mono ?_); rintro e w19 ⟨rfl, hS, hB⟩; have n0 := Aside0.mk (push_one hS (below_trans HT.out hB) x9 #[Value.int .i64 x9.kind, .int .i64 x9.nk, .string x9.nname, .bool x9.ngiven, .slice x9.s1.a x9.s1.n x9.s1.c, .slice x9.s2.a x9.s2.n x9.s2.c, .slice x9.s3.a x9.s3.n x9.s3.c, .slice x9.s4.a x9.s4.n x9.s4.c, .slice x9.s5.a x9.s5.n x9.s5.c, .int .i64 x9.at_, .int .i64 x9.status, .bool x9.free, .slice x9.s6.a x9.s6.n x9.s6.c, .slice x9.s7.a x9.s7.n x9.s7.c] rfl); clear hS hB HS HT; have HP := n0; clear n0)
          have HS := Aside0.mk HP.out.2.1
          have HT := Aside0.mk HP.out.2.2
          have k10 : (w19.alloc (.cells #[Value.int .i64 x9.kind, .int .i64 x9.nk, .string x9.nname, .bool x9.ngiven, .slice x9.s1.a x9.s1.n x9.s1.c, .slice x9.s2.a x9.s2.n x9.s2.c, .slice x9.s3.a x9.s3.n x9.s3.c, .slice x9.s4.a x9.s4.n x9.s4.c, .slice x9.s5.a x9.s5.n x9.s5.c, .int .i64 x9.at_, .int .i64 x9.status, .bool x9.free, .slice x9.s6.a x9.s6.n x9.s6.c, .slice x9.s7.a x9.s7.n x9.s7.c] 60)).cell? ⟨w19.heap.size, 10, none⟩ = some (.int .i64 7) := ((blk_cell (blk_new w19 _) 10).trans rfl).trans (show some (Value.int .i64 x9.status) = some (.int .i64 7) by rw [HS9.out])
          clear HP
          generalize w19.alloc (.cells #[Value.int .i64 x9.kind, .int .i64 x9.nk, .string x9.nname, .bool x9.ngiven, .slice x9.s1.a x9.s1.n x9.s1.c, .slice x9.s2.a x9.s2.n x9.s2.c, .slice x9.s3.a x9.s3.n x9.s3.c, .slice x9.s4.a x9.s4.n x9.s4.c, .slice x9.s5.a x9.s5.n x9.s5.c, .int .i64 x9.at_, .int .i64 x9.status, .bool x9.free, .slice x9.s6.a x9.s6.n x9.s6.c, .slice x9.s7.a x9.s7.n x9.s7.c] 60) = w20 at *
          go_wp2_with (go_at_call 32; (with_reducible refine (len_any _ _ [] _ HS.out).mono ?_); rintro e w' ⟨rfl, rfl⟩; rw [show (([] : List It).length : Int) = 0 from rfl])
          go_ret
          exact ⟨rfl, below_trans HB.out (below_sub HT.out HB.out.size)⟩
      case inr.inr =>
        have E3 := Aside0.mk e3
        subst e4
        clear e3
        go_upto_region 25 with (go_at_call 27; (with_reducible refine (brk_any _ _ _ n _ HS.out (by omega) (by omega) (by omega)).mono ?_); rintro e w8 ⟨rfl, hS, hB⟩; rw [E3.out]; have n0 := Aside0.mk (show StR w8 w3.heap.size w3.heap.size r2 from by rw [← HR2.out]; exact hS); have n1 := Aside0.mk (below_trans HT.out hB); clear HS HT hB hS E3; have HS := n0; have HT := n1; clear n0 n1)
        clear e1 ho1 HCr HR2 hrl hk60
        have hw2 : wrap64 (c2 + 1) = c2 + 1 := by unfold wrap64; omega
        obtain ⟨r3, hg3, hcase3⟩ := key3 HG2.out HC2.out hc20
        have HG3 := Aside0.mk hg3
        have HOFF := Aside0.mk (off_next HC2.out)
        clear hg3
        rcases hcase3 with ⟨e5, e6, e7, e8⟩ | ⟨e5, rfl⟩
        case inl =>
          have E6 := Aside0.mk e6
          have E7 := Aside0.mk e7
          have E8 := Aside0.mk e8
          have hl3 : r3.length ≤ 61 := by have := conR_len r2 c2; rw [e7] at this; omega
          clear e6 e7 e8
          go_upto_region 27 with (first
            | (go_at_call 26; (with_reducible refine (loops_any _ _ r2 _ HS.out (by omega)).mono ?_); rintro e w9 ⟨rfl, hB⟩; rw [HC2.out]; have n0 := Aside0.mk (StR_below HS.out hB); have n1 := Aside0.mk (below_trans HT.out (below_sub hB HT.out.size)); clear HS HT hB; have HS := n0; have HT := n1; clear n0 n1)
            | (go_at_call 26; (with_reducible refine (loops_any _ _ r3 _ HS.out (by omega)).mono ?_); rintro e w9 ⟨rfl, hB⟩; rw [E8.out]; have n0 := Aside0.mk (StR_below HS.out hB); have n1 := Aside0.mk (below_trans HT.out (below_sub hB HT.out.size)); clear HS HT hB; have HS := n0; have HT := n1; clear n0 n1)
            | (go_at_call 28; (with_reducible refine (con_any _ _ _ (c2 + 1) _ HS.out (by omega) (by omega) (by omega)).mono ?_); rintro e w10 ⟨rfl, hS, hB⟩; rw [HOFF.out]; have n0 := Aside0.mk (show StR w10 w3.heap.size w3.heap.size r2 from by rw [← (brk_off HOFF.out).2]; exact hS); have n1 := Aside0.mk (below_trans HT.out hB); clear HS HT hB hS; have HS := n0; have HT := n1; clear n0 n1)
            | (go_at_call 28; (with_reducible refine (con_any _ _ _ c2 _ HS.out (by omega) (by omega) (by omega)).mono ?_); rintro e w11 ⟨rfl, hS, hB⟩; rw [E6.out]; have n0 := Aside0.mk (show StR w11 w3.heap.size w3.heap.size r3 from by rw [← E7.out]; exact hS); have n1 := Aside0.mk (below_trans HT.out hB); clear HS HT hB hS; have HS := n0; have HT := n1; clear n0 n1))
          obtain ⟨i12, hi12⟩ : ∃ i : It, i = { (default : It) with kind := 12, status := 3 } := ⟨_, rfl⟩
          have hk12 : i12.kind = 12 := by rw [hi12]
          have hs12 : i12.status = 3 := by rw [hi12]
          have HP := Aside0.mk (push_one HS.out HT.out i12 #[Value.int .i64 12, .int .i64 0, .string ⟨#[]⟩, .bool false, .slice none 0 0, .slice none 0 0, .slice none 0 0, .slice none 0 0, .slice none 0 0, .int .i64 0, .int .i64 3, .bool false, .slice none 0 0, .slice none 0 0] (by rw [hi12]; rfl))
          have HF1 := Aside0.mk (show cut isBack (i12 :: r3) 0 = none by unfold cut; rw [hk12]; rfl)
          have HF2 := Aside0.mk (show cntR (i12 :: r3) = 0 by rw [cntR_cons, hk12]; rfl)
          have HF3 := Aside0.mk (show brkB (i12 :: r3) 1 = false by rw [brkB_iff, HF2.out]; rfl)
          have HF4 := Aside0.mk (show savN (i12 :: r3) = 3 by show (if isAct i12.kind = true then i12.status else savN r3) = 3; rw [hk12, hs12]; rfl)
          have HF5 := Aside0.mk (show savB (i12 :: r3) = true by show (isAct i12.kind || savB r3) = true; rw [hk12]; rfl)
          obtain ⟨x9, h9, hs9⟩ := good_ret HG3.out
          have H9 := Aside0.mk h9
          have HS9 := Aside0.mk hs9
          have hll : (i12 :: r3).length ≤ 62 := by rw [List.length_cons]; omega
          have HBR := Aside0.mk (brk_off HF3.out).1
          clear hi12 hk12 hs12 h9 hs9 hw2 e5 HS HT
          go_upto_region 28 with (go_at_call 25; (with_reducible refine (push_any _ _ r3 [i12] _ 1 1 _ HP.out.2.1 HP.out.1 (by omega)).mono ?_); rintro e w12 ⟨rfl, hS, hB⟩; have HS := Aside0.mk (show StR w12 w3.heap.size w3.heap.size (i12 :: r3) from hS); have HT := Aside0.mk (below_trans HP.out.2.2 hB); clear hS hB HP)
          go_upto_region 29 with (go_at_call 29; (with_reducible refine (ret_no _ _ (i12 :: r3) _ HS.out (by omega) HF1.out).mono ?_); rintro e w13 ⟨rfl, hS, hB⟩; have n0 := Aside0.mk (push_one hS (below_trans HT.out hB) default #[Value.int .i64 0, .int .i64 0, .string ⟨#[]⟩, .bool false, .slice none 0 0, .slice none 0 0, .slice none 0 0, .slice none 0 0, .slice none 0 0, .int .i64 0, .int .i64 0, .bool false, .slice none 0 0, .slice none 0 0] rfl); clear hS hB HS HT; have HP := n0; clear n0)
          have HS := Aside0.mk HP.out.2.1
          have HT := Aside0.mk HP.out.2.2
          clear HP
          generalize w13.alloc (.cells #[Value.int .i64 0, .int .i64 0, .string ⟨#[]⟩, .bool false, .slice none 0 0, .slice none 0 0, .slice none 0 0, .slice none 0 0, .slice none 0 0, .int .i64 0, .int .i64 0, .bool false, .slice none 0 0, .slice none 0 0] 60) = w14 at *
          go_upto_region 31 with (first
            | (go_at_call 26; (with_reducible refine (loops_any _ _ (i12 :: r3) _ HS.out (by omega)).mono ?_); rintro e w15 ⟨rfl, hB⟩; rw [HF2.out]; have n0 := Aside0.mk (StR_below HS.out hB); have n1 := Aside0.mk (below_trans HT.out (below_sub hB HT.out.size)); clear HS HT hB; have HS := n0; have HT := n1; clear n0 n1)
            | (go_at_call 27; (with_reducible refine (brk_any _ _ (i12 :: r3) 1 _ HS.out (by omega) (by omega) (by omega)).mono ?_); rintro e w16 ⟨rfl, hS, hB⟩; rw [HF3.out]; have n0 := Aside0.mk (show StR w16 w3.heap.size w3.heap.size (i12 :: r3) from by rw [← HBR.out]; exact hS); have n1 := Aside0.mk (below_trans HT.out hB); clear HS HT hB hS; have HS := n0; have HT := n1; clear n0 n1))
          go_upto_region 33 with (first
            | (go_at_call 30; (with_reducible refine (sav_any _ _ (i12 :: r3) _ HS.out (by omega)).mono ?_); rintro e w17 ⟨rfl, hB⟩; rw [HF4.out, HF5.out]; have n0 := Aside0.mk (StR_below HS.out hB); have n1 := Aside0.mk (below_trans HT.out (below_sub hB HT.out.size)); clear HS HT hB; have HS := n0; have HT := n1; clear n0 n1)
            | (go_at_call 31; (with_reducible refine (pop_yes _ _ i12 r3 _ HS.out (by omega)).mono ?_); rintro e w18 ⟨rfl, hS, hB⟩; have n0 := Aside0.mk hS; have n1 := Aside0.mk (below_trans HT.out hB); clear HS HT hB hS; have HS := n0; have HT := n1; clear n0 n1))
          go_upto_region 34 with (go_at_call 29; (with_reducible refine (ret_yes _ _ r3 [] x9 _ HS.out (by omega) H9.out).mono ?_); rintro e w19 ⟨rfl, hS, hB⟩; have n0 := Aside0.mk (push_one hS (below_trans HT.out hB) x9 #[Value.int .i64 x9.kind, .int .i64 x9.nk, .string x9.nname, .bool x9.ngiven, .slice x9.s1.a x9.s1.n x9.s1.c, .slice x9.s2.a x9.s2.n x9.s2.c, .slice x9.s3.a x9.s3.n x9.s3.c, .slice x9.s4.a x9.s4.n x9.s4.c, .slice x9.s5.a x9.s5.n x9.s5.c, .int .i64 x9.at_, .int .i64 x9.status, .bool x9.free, .slice x9.s6.a x9.s6.n x9.s6.c, .slice x9.s7.a x9.s7.n x9.s7.c] rfl); clear hS hB HS HT; have HP := n0; clear n0)
          have HS := Aside0.mk HP.out.2.1
          have HT := Aside0.mk HP.out.2.2
          have k10 : (w19.alloc (.cells #[Value.int .i64 x9.kind, .int .i64 x9.nk, .string x9.nname, .bool x9.ngiven, .slice x9.s1.a x9.s1.n x9.s1.c, .slice x9.s2.a x9.s2.n x9.s2.c, .slice x9.s3.a x9.s3.n x9.s3.c, .slice x9.s4.a x9.s4.n x9.s4.c, .slice x9.s5.a x9.s5.n x9.s5.c, .int .i64 x9.at_, .int .i64 x9.status, .bool x9.free, .slice x9.s6.a x9.s6.n x9.s6.c, .slice x9.s7.a x9.s7.n x9.s7.c] 60)).cell? ⟨w19.heap.size, 10, none⟩ = some (.int .i64 7) := ((blk_cell (blk_new w19 _) 10).trans rfl).trans (show some (Value.int .i64 x9.status) = some (.int .i64 7) by rw [HS9.out])
          clear HP
          generalize w19.alloc (.cells #[Value.int .i64 x9.kind, .int .i64 x9.nk, .string x9.nname, .bool x9.ngiven, .slice x9.s1.a x9.s1.n x9.s1.c, .slice x9.s2.a x9.s2.n x9.s2.c, .slice x9.s3.a x9.s3.n x9.s3.c, .slice x9.s4.a x9.s4.n x9.s4.c, .slice x9.s5.a x9.s5.n x9.s5.c, .int .i64 x9.at_, .int .i64 x9.status, .bool x9.free, .slice x9.s6.a x9.s6.n x9.s6.c, .slice x9.s7.a x9.s7.n x9.s7.c] 60) = w20 at *
          go_wp2_with (go_at_call 32; (with_reducible refine (len_any _ _ [] _ HS.out).mono ?_); rintro e w' ⟨rfl, rfl⟩; rw [show (([] : List It).length : Int) = 0 from rfl])
          go_ret
          exact ⟨rfl, below_trans HB.out (below_sub HT.out HB.out.size)⟩
        case inr =>
          have hl3 : r3.length ≤ 61 := hl2
          go_upto_region 27 with (first
            | (go_at_call 26; (with_reducible refine (loops_any _ _ r3 _ HS.out (by omega)).mono ?_); rintro e w9 ⟨rfl, hB⟩; rw [HC2.out]; have n0 := Aside0.mk (StR_below HS.out hB); have n1 := Aside0.mk (below_trans HT.out (below_sub hB HT.out.size)); clear HS HT hB; have HS := n0; have HT := n1; clear n0 n1)
            | (go_at_call 28; (with_reducible refine (con_any _ _ _ (c2 + 1) _ HS.out (by omega) (by omega) (by omega)).mono ?_); rintro e w10 ⟨rfl, hS, hB⟩; rw [HOFF.out]; have n0 := Aside0.mk (show StR w10 w3.heap.size w3.heap.size r3 from by rw [← (brk_off HOFF.out).2]; exact hS); have n1 := Aside0.mk (below_trans HT.out hB); clear HS HT hB hS; have HS := n0; have HT := n1; clear n0 n1))
          obtain ⟨i12, hi12⟩ : ∃ i : It, i = { (default : It) with kind := 12, status := 3 } := ⟨_, rfl⟩
          have hk12 : i12.kind = 12 := by rw [hi12]
          have hs12 : i12.status = 3 := by rw [hi12]
          have HP := Aside0.mk (push_one HS.out HT.out i12 #[Value.int .i64 12, .int .i64 0, .string ⟨#[]⟩, .bool false, .slice none 0 0, .slice none 0 0, .slice none 0 0, .slice none 0 0, .slice none 0 0, .int .i64 0, .int .i64 3, .bool false, .slice none 0 0, .slice none 0 0] (by rw [hi12]; rfl))
          have HF1 := Aside0.mk (show cut isBack (i12 :: r3) 0 = none by unfold cut; rw [hk12]; rfl)
          have HF2 := Aside0.mk (show cntR (i12 :: r3) = 0 by rw [cntR_cons, hk12]; rfl)
          have HF3 := Aside0.mk (show brkB (i12 :: r3) 1 = false by rw [brkB_iff, HF2.out]; rfl)
          have HF4 := Aside0.mk (show savN (i12 :: r3) = 3 by show (if isAct i12.kind = true then i12.status else savN r3) = 3; rw [hk12, hs12]; rfl)
          have HF5 := Aside0.mk (show savB (i12 :: r3) = true by show (isAct i12.kind || savB r3) = true; rw [hk12]; rfl)
          obtain ⟨x9, h9, hs9⟩ := good_ret HG3.out
          have H9 := Aside0.mk h9
          have HS9 := Aside0.mk hs9
          have hll : (i12 :: r3).length ≤ 62 := by rw [List.length_cons]; omega
          have HBR := Aside0.mk (brk_off HF3.out).1
          clear hi12 hk12 hs12 h9 hs9 hw2 e5 HS HT
          go_upto_region 28 with (go_at_call 25; (with_reducible refine (push_any _ _ r3 [i12] _ 1 1 _ HP.out.2.1 HP.out.1 (by omega)).mono ?_); rintro e w12 ⟨rfl, hS, hB⟩; have HS := Aside0.mk (show StR w12 w3.heap.size w3.heap.size (i12 :: r3) from hS); have HT := Aside0.mk (below_trans HP.out.2.2 hB); clear hS hB HP)
          go_upto_region 29 with (go_at_call 29; (with_reducible refine (ret_no _ _ (i12 :: r3) _ HS.out (by omega) HF1.out).mono ?_); rintro e w13 ⟨rfl, hS, hB⟩; have n0 := Aside0.mk (push_one hS (below_trans HT.out hB) default #[Value.int .i64 0, .int .i64 0, .string ⟨#[]⟩, .bool false, .slice none 0 0, .slice none 0 0, .slice none 0 0, .slice none 0 0, .slice none 0 0, .int .i64 0, .int .i64 0, .bool false, .slice none 0 0, .slice none 0 0] rfl); clear hS hB HS HT; have HP := n0; clear n0)
          have HS := Aside0.mk HP.out.2.1
          have HT := Aside0.mk HP.out.2.2
          clear HP
          generalize w13.alloc (.cells #[Value.int .i64 0, .int .i64 0, .string ⟨#[]⟩, .bool false, .slice none 0 0, .slice none 0 0, .slice none 0 0, .slice none 0 0, .slice none 0 0, .int .i64 0, .int .i64 0, .bool false, .slice none 0 0, .slice none 0 0] 60) = w14 at *
          go_upto_region 31 with (first
            | (go_at_call 26; (with_reducible refine (loops_any _ _ (i12 :: r3) _ HS.out (by omega)).mono ?_); rintro e w15 ⟨rfl, hB⟩; rw [HF2.out]; have n0 := Aside0.mk (StR_below HS.out hB); have n1 := Aside0.mk (below_trans HT.out (below_sub hB HT.out.size)); clear HS HT hB; have HS := n0; have HT := n1; clear n0 n1)
            | (go_at_call 27; (with_reducible refine (brk_any _ _ (i12 :: r3) 1 _ HS.out (by omega) (by omega) (by omega)).mono ?_); rintro e w16 ⟨rfl, hS, hB⟩; rw [HF3.out]; have n0 := Aside0.mk (show StR w16 w3.heap.size w3.heap.size (i12 :: r3) from by rw [← HBR.out]; exact hS); have n1 := Aside0.mk (below_trans HT.out hB); clear HS HT hB hS; have HS := n0; have HT := n1; clear n0 n1))
          go_upto_region 33 with (first
            | (go_at_call 30; (with_reducible refine (sav_any _ _ (i12 :: r3) _ HS.out (by omega)).mono ?_); rintro e w17 ⟨rfl, hB⟩; rw [HF4.out, HF5.out]; have n0 := Aside0.mk (StR_below HS.out hB); have n1 := Aside0.mk (below_trans HT.out (below_sub hB HT.out.size)); clear HS HT hB; have HS := n0; have HT := n1; clear n0 n1)
            | (go_at_call 31; (with_reducible refine (pop_yes _ _ i12 r3 _ HS.out (by omega)).mono ?_); rintro e w18 ⟨rfl, hS, hB⟩; have n0 := Aside0.mk hS; have n1 := Aside0.mk (below_trans HT.out hB); clear HS HT hB hS; have HS := n0; have HT := n1; clear n0 n1))
          go_upto_region 34 with (go_at_call 29; (with_reducible refine (ret_yes _ _ r3 [] x9 _ HS.out (by omega) H9.out).mono ?_); rintro e w19 ⟨rfl, hS, hB⟩; have n0 := Aside0.mk (push_one hS (below_trans HT.out hB) x9 #[Value.int .i64 x9.kind, .int .i64 x9.nk, .string x9.nname, .bool x9.ngiven, .slice x9.s1.a x9.s1.n x9.s1.c, .slice x9.s2.a x9.s2.n x9.s2.c, .slice x9.s3.a x9.s3.n x9.s3.c, .slice x9.s4.a x9.s4.n x9.s4.c, .slice x9.s5.a x9.s5.n x9.s5.c, .int .i64 x9.at_, .int .i64 x9.status, .bool x9.free, .slice x9.s6.a x9.s6.n x9.s6.c, .slice x9.s7.a x9.s7.n x9.s7.c] rfl); clear hS hB HS HT; have HP := n0; clear n0)
          have HS := Aside0.mk HP.out.2.1
          have HT := Aside0.mk HP.out.2.2
          have k10 : (w19.alloc (.cells #[Value.int .i64 x9.kind, .int .i64 x9.nk, .string x9.nname, .bool x9.ngiven, .slice x9.s1.a x9.s1.n x9.s1.c, .slice x9.s2.a x9.s2.n x9.s2.c, .slice x9.s3.a x9.s3.n x9.s3.c, .slice x9.s4.a x9.s4.n x9.s4.c, .slice x9.s5.a x9.s5.n x9.s5.c, .int .i64 x9.at_, .int .i64 x9.status, .bool x9.free, .slice x9.s6.a x9.s6.n x9.s6.c, .slice x9.s7.a x9.s7.n x9.s7.c] 60)).cell? ⟨w19.heap.size, 10, none⟩ = some (.int .i64 7) := ((blk_cell (blk_new w19 _) 10).trans rfl).trans (show some (Value.int .i64 x9.status) = some (.int .i64 7) by rw [HS9.out])
          clear HP
          generalize w19.alloc (.cells #[Value.int .i64 x9.kind, .int .i64 x9.nk, .string x9.nname, .bool x9.ngiven, .slice x9.s1.a x9.s1.n x9.s1.c, .slice x9.s2.a x9.s2.n x9.s2.c, .slice x9.s3.a x9.s3.n x9.s3.c, .slice x9.s4.a x9.s4.n x9.s4.c, .slice x9.s5.a x9.s5.n x9.s5.c, .int .i64 x9.at_, .int .i64 x9.status, .bool x9.free, .slice x9.s6.a x9.s6.n x9.s6.c, .slice x9.s7.a x9.s7.n x9.s7.c] 60) = w20 at *
          go_wp2_with (go_at_call 32; (with_reducible refine (len_any _ _ [] _ HS.out).mono ?_); rintro e w' ⟨rfl, rfl⟩; rw [show (([] : List It).length : Int) = 0 from rfl])
          go_ret
          exact ⟨rfl, below_trans HB.out (below_sub HT.out HB.out.size)⟩
      case inl =>
        have E3 := Aside0.mk e3
        clear e3
        go_upto_region 25 with (go_at_call 27; (with_reducible refine (brk_any _ _ _ n _ HS.out (by omega) (by omega) (by omega)).mono ?_); rintro e w8 ⟨rfl, hS, hB⟩; rw [E3.out]; have n0 := Aside0.mk (show StR w8 w3.heap.size w3.heap.size r2 from by rw [← HR2.out]; exact hS); have n1 := Aside0.mk (below_trans HT.out hB); clear HS HT hB hS E3; have HS := n0; have HT := n1; clear n0 n1)
        clear e1 e2 e4 e4' ho1 HCr HR2 hrl hk60
        have hw2 : wrap64 (c2 + 1) = c2 + 1 := by unfold wrap64; omega
        obtain ⟨r3, hg3, hcase3⟩ := key3 HG2.out HC2.out hc20
        have HG3 := Aside0.mk hg3
        have HOFF := Aside0.mk (off_next HC2.out)
        clear hg3
        rcases hcase3 with ⟨e5, e6, e7, e8⟩ | ⟨e5, rfl⟩
        case inl =>
          have E6 := Aside0.mk e6
          have E7 := Aside0.mk e7
          have E8 := Aside0.mk e8
          have hl3 : r3.length ≤ 61 := by have := conR_len r2 c2; rw [e7] at this; omega
          clear e6 e7 e8
          go_upto_region 27 with (first
            | (go_at_call 26; (with_reducible refine (loops_any _ _ r2 _ HS.out (by omega)).mono ?_); rintro e w9 ⟨rfl, hB⟩; rw [HC2.out]; have n0 := Aside0.mk (StR_below HS.out hB); have n1 := Aside0.mk (below_trans HT.out (below_sub hB HT.out.size)); clear HS HT hB; have HS := n0; have HT := n1; clear n0 n1)
            | (go_at_call 26; (with_reducible refine (loops_any _ _ r3 _ HS.out (by omega)).mono ?_); rintro e w9 ⟨rfl, hB⟩; rw [E8.out]; have n0 := Aside0.mk (StR_below HS.out hB); have n1 := Aside0.mk (below_trans HT.out (below_sub hB HT.out.size)); clear HS HT hB; have HS := n0; have HT := n1; clear n0 n1)
            | (go_at_call 28; (with_reducible refine (con_any _ _ _ (c2 + 1) _ HS.out (by omega) (by omega) (by omega)).mono ?_); rintro e w10 ⟨rfl, hS, hB⟩; rw [HOFF.out]; have n0 := Aside0.mk (show StR w10 w3.heap.size w3.heap.size r2 from by rw [← (brk_off HOFF.out).2]; exact hS); have n1 := Aside0.mk (below_trans HT.out hB); clear HS HT hB hS; have HS := n0; have HT := n1; clear n0 n1)
            | (go_at_call 28; (with_reducible refine (con_any _ _ _ c2 _ HS.out (by omega) (by omega) (by omega)).mono ?_); rintro e w11 ⟨rfl, hS, hB⟩; rw [E6.out]; have n0 := Aside0.mk (show StR w11 w3.heap.size w3.heap.size r3 from by rw [← E7.out]; exact hS); have n1 := Aside0.mk (below_trans HT.out hB); clear HS HT hB hS; have HS := n0; have HT := n1; clear n0 n1))
          obtain ⟨i12, hi12⟩ : ∃ i : It, i = { (default : It) with kind := 12, status := 3 } := ⟨_, rfl⟩
          have hk12 : i12.kind = 12 := by rw [hi12]
          have hs12 : i12.status = 3 := by rw [hi12]
          have HP := Aside0.mk (push_one HS.out HT.out i12 #[Value.int .i64 12, .int .i64 0, .string ⟨#[]⟩, .bool false, .slice none 0 0, .slice none 0 0, .slice none 0 0, .slice none 0 0, .slice none 0 0, .int .i64 0, .int .i64 3, .bool false, .slice none 0 0, .slice none 0 0] (by rw [hi12]; rfl))
          have HF1 := Aside0.mk (show cut isBack (i12 :: r3) 0 = none by unfold cut; rw [hk12]; rfl)
          have HF2 := Aside0.mk (show cntR (i12 :: r3) = 0 by rw [cntR_cons, hk12]; rfl)
          have HF3 := Aside0.mk (show brkB (i12 :: r3) 1 = false by rw [brkB_iff, HF2.out]; rfl)
          have HF4 := Aside0.mk (show savN (i12 :: r3) = 3 by show (if isAct i12.kind = true then i12.status else savN r3) = 3; rw [hk12, hs12]; rfl)
          have HF5 := Aside0.mk (show savB (i12 :: r3) = true by show (isAct i12.kind || savB r3) = true; rw [hk12]; rfl)
          obtain ⟨x9, h9, hs9⟩ := good_ret HG3.out
          have H9 := Aside0.mk h9
          have HS9 := Aside0.mk hs9
          have hll : (i12 :: r3).length ≤ 62 := by rw [List.length_cons]; omega
          have HBR := Aside0.mk (brk_off HF3.out).1
          clear hi12 hk12 hs12 h9 hs9 hw2 e5 HS HT
          go_upto_region 28 with (go_at_call 25; (with_reducible refine (push_any _ _ r3 [i12] _ 1 1 _ HP.out.2.1 HP.out.1 (by omega)).mono ?_); rintro e w12 ⟨rfl, hS, hB⟩; have HS := Aside0.mk (show StR w12 w3.heap.size w3.heap.size (i12 :: r3) from hS); have HT := Aside0.mk (below_trans HP.out.2.2 hB); clear hS hB HP)
          go_upto_region 29 with (go_at_call 29; (with_reducible refine (ret_no _ _ (i12 :: r3) _ HS.out (by omega) HF1.out).mono ?_); rintro e w13 ⟨rfl, hS, hB⟩; have n0 := Aside0.mk (push_one hS (below_trans HT.out hB) default #[Value.int .i64 0, .int .i64 0, .string ⟨#[]⟩, .bool false, .slice none 0 0, .slice none 0 0, .slice none 0 0, .slice none 0 0, .slice none 0 0, .int .i64 0, .int .i64 0, .bool false, .slice none 0 0, .slice none 0 0] rfl); clear hS hB HS HT; have HP := n0; clear n0)
          have HS := Aside0.mk HP.out.2.1
          have HT := Aside0.mk HP.out.2.2
          clear HP
          generalize w13.alloc (.cells #[Value.int .i64 0, .int .i64 0, .string ⟨#[]⟩, .bool false, .slice none 0 0, .slice none 0 0, .slice none 0 0, .slice none 0 0, .slice none 0 0, .int .i64 0, .int .i64 0, .bool false, .slice none 0 0, .slice none 0 0] 60) = w14 at *
          go_upto_region 31 with (first
            | (go_at_call 26; (with_reducible refine (loops_any _ _ (i12 :: r3) _ HS.out (by omega)).mono ?_); rintro e w15 ⟨rfl, hB⟩; rw [HF2.out]; have n0 := Aside0.mk (StR_below HS.out hB); have n1 := Aside0.mk (below_trans HT.out (below_sub hB HT.out.size)); clear HS HT hB; have HS := n0; have HT := n1; clear n0 n1)
            | (go_at_call 27; (with_reducible refine (brk_any _ _ (i12 :: r3) 1 _ HS.out (by omega) (by omega) (by omega)).mono ?_); rintro e w16 ⟨rfl, hS, hB⟩; rw [HF3.out]; have n0 := Aside0.mk (show StR w16 w3.heap.size w3.heap.size (i12 :: r3) from by rw [← HBR.out]; exact hS); have n1 := Aside0.mk (below_trans HT.out hB); clear HS HT hB hS; have HS := n0; have HT := n1; clear n0 n1))
          go_upto_region 33 with (first
            | (go_at_call 30; (with_reducible refine (sav_any _ _ (i12 :: r3) _ HS.out (by omega)).mono ?_); rintro e w17 ⟨rfl, hB⟩; rw [HF4.out, HF5.out]; have n0 := Aside0.mk (StR_below HS.out hB); have n1 := Aside0.mk (below_trans HT.out (below_sub hB HT.out.size)); clear HS HT hB; have HS := n0; have HT := n1; clear n0 n1)
            | (go_at_call 31; (with_reducible refine (pop_yes _ _ i12 r3 _ HS.out (by omega)).mono ?_); rintro e w18 ⟨rfl, hS, hB⟩; have n0 := Aside0.mk hS; have n1 := Aside0.mk (below_trans HT.out hB); clear HS HT hB hS; have HS := n0; have HT := n1; clear n0 n1))
          go_upto_region 34 with (go_at_call 29; (with_reducible refine (ret_yes _ _ r3 [] x9 _ HS.out (by omega) H9.out).mono ?_); rintro e w19 ⟨rfl, hS, hB⟩; have n0 := Aside0.mk (push_one hS (below_trans HT.out hB) x9 #[Value.int .i64 x9.kind, .int .i64 x9.nk, .string x9.nname, .bool x9.ngiven, .slice x9.s1.a x9.s1.n x9.s1.c, .slice x9.s2.a x9.s2.n x9.s2.c, .slice x9.s3.a x9.s3.n x9.s3.c, .slice x9.s4.a x9.s4.n x9.s4.c, .slice x9.s5.a x9.s5.n x9.s5.c, .int .i64 x9.at_, .int .i64 x9.status, .bool x9.free, .slice x9.s6.a x9.s6.n x9.s6.c, .slice x9.s7.a x9.s7.n x9.s7.c] rfl); clear hS hB HS HT; have HP := n0; clear n0)
          have HS := Aside0.mk HP.out.2.1
          have HT := Aside0.mk HP.out.2.2
          have k10 : (w19.alloc (.cells #[Value.int .i64 x9.kind, .int .i64 x9.nk, .string x9.nname, .bool x9.ngiven, .slice x9.s1.a x9.s1.n x9.s1.c, .slice x9.s2.a x9.s2.n x9.s2.c, .slice x9.s3.a x9.s3.n x9.s3.c, .slice x9.s4.a x9.s4.n x9.s4.c, .slice x9.s5.a x9.s5.n x9.s5.c, .int .i64 x9.at_, .int .i64 x9.status, .bool x9.free, .slice x9.s6.a x9.s6.n x9.s6.c, .slice x9.s7.a x9.s7.n x9.s7.c] 60)).cell? ⟨w19.heap.size, 10, none⟩ = some (.int .i64 7) := ((blk_cell (blk_new w19 _) 10).trans rfl).trans (show some (Value.int .i64 x9.status) = some (.int .i64 7) by rw [HS9.out])
          clear HP
          generalize w19.alloc (.cells #[Value.int .i64 x9.kind, .int .i64 x9.nk, .string x9.nname, .bool x9.ngiven, .slice x9.s1.a x9.s1.n x9.s1.c, .slice x9.s2.a x9.s2.n x9.s2.c, .slice x9.s3.a x9.s3.n x9.s3.c, .slice x9.s4.a x9.s4.n x9.s4.c, .slice x9.s5.a x9.s5.n x9.s5.c, .int .i64 x9.at_, .int .i64 x9.status, .bool x9.free, .slice x9.s6.a x9.s6.n x9.s6.c, .slice x9.s7.a x9.s7.n x9.s7.c] 60) = w20 at *
          go_wp2_with (go_at_call 32; (with_reducible refine (len_any _ _ [] _ HS.out).mono ?_); rintro e w' ⟨rfl, rfl⟩; rw [show (([] : List It).length : Int) = 0 from rfl])
          go_ret
          exact ⟨rfl, below_trans HB.out (below_sub HT.out HB.out.size)⟩
        case inr =>
          have hl3 : r3.length ≤ 61 := hl2
          go_upto_region 27 with (first
            | (go_at_call 26; (with_reducible refine (loops_any _ _ r3 _ HS.out (by omega)).mono ?_); rintro e w9 ⟨rfl, hB⟩; rw [HC2.out]; have n0 := Aside0.mk (StR_below HS.out hB); have n1 := Aside0.mk (below_trans HT.out (below_sub hB HT.out.size)); clear HS HT hB; have HS := n0; have HT := n1; clear n0 n1)
            | (go_at_call 28; (with_reducible refine (con_any _ _ _ (c2 + 1) _ HS.out (by omega) (by omega) (by omega)).mono ?_); rintro e w10 ⟨rfl, hS, hB⟩; rw [HOFF.out]; have n0 := Aside0.mk (show StR w10 w3.heap.size w3.heap.size r3 from by rw [← (brk_off HOFF.out).2]; exact hS); have n1 := Aside0.mk (below_trans HT.out hB); clear HS HT hB hS; have HS := n0; have HT := n1; clear n0 n1))
          obtain ⟨i12, hi12⟩ : ∃ i : It, i = { (default : It) with kind := 12, status := 3 } := ⟨_, rfl⟩
          have hk12 : i12.kind = 12 := by rw [hi12]
          have hs12 : i12.status = 3 := by rw [hi12]
          have HP := Aside0.mk (push_one HS.out HT.out i12 #[Value.int .i64 12, .int .i64 0, .string ⟨#[]⟩, .bool false, .slice none 0 0, .slice none 0 0, .slice none 0 0, .slice none 0 0, .slice none 0 0, .int .i64 0, .int .i64 3, .bool false, .slice none 0 0, .slice none 0 0] (by rw [hi12]; rfl))
          have HF1 := Aside0.mk (show cut isBack (i12 :: r3) 0 = none by unfold cut; rw [hk12]; rfl)
          have HF2 := Aside0.mk (show cntR (i12 :: r3) = 0 by rw [cntR_cons, hk12]; rfl)
          have HF3 := Aside0.mk (show brkB (i12 :: r3) 1 = false by rw [brkB_iff, HF2.out]; rfl)
          have HF4 := Aside0.mk (show savN (i12 :: r3) = 3 by show (if isAct i12.kind = true then i12.status else savN r3) = 3; rw [hk12, hs12]; rfl)
          have HF5 := Aside0.mk (show savB (i12 :: r3) = true by show (isAct i12.kind || savB r3) = true; rw [hk12]; rfl)
          obtain ⟨x9, h9, hs9⟩ := good_ret HG3.out
          have H9 := Aside0.mk h9
          have HS9 := Aside0.mk hs9
          have hll : (i12 :: r3).length ≤ 62 := by rw [List.length_cons]; omega
          have HBR := Aside0.mk (brk_off HF3.out).1
          clear hi12 hk12 hs12 h9 hs9 hw2 e5 HS HT
          go_upto_region 28 with (go_at_call 25; (with_reducible refine (push_any _ _ r3 [i12] _ 1 1 _ HP.out.2.1 HP.out.1 (by omega)).mono ?_); rintro e w12 ⟨rfl, hS, hB⟩; have HS := Aside0.mk (show StR w12 w3.heap.size w3.heap.size (i12 :: r3) from hS); have HT := Aside0.mk (below_trans HP.out.2.2 hB); clear hS hB HP)
          go_upto_region 29 with (go_at_call 29; (with_reducible refine (ret_no _ _ (i12 :: r3) _ HS.out (by omega) HF1.out).mono ?_); rintro e w13 ⟨rfl, hS, hB⟩; have n0 := Aside0.mk (push_one hS (below_trans HT.out hB) default #[Value.int .i64 0, .int .i64 0, .string ⟨#[]⟩, .bool false, .slice none 0 0, .slice none 0 0, .slice none 0 0, .slice none 0 0, .slice none 0 0, .int .i64 0, .int .i64 0, .bool false, .slice none 0 0, .slice none 0 0] rfl); clear hS hB HS HT; have HP := n0; clear n0)
          have HS := Aside0.mk HP.out.2.1
          have HT := Aside0.mk HP.out.2.2
          clear HP
          generalize w13.alloc (.cells #[Value.int .i64 0, .int .i64 0, .string ⟨#[]⟩, .bool false, .slice none 0 0, .slice none 0 0, .slice none 0 0, .slice none 0 0, .slice none 0 0, .int .i64 0, .int .i64 0, .bool false, .slice none 0 0, .slice none 0 0] 60) = w14 at *
          go_upto_region 31 with (first
            | (go_at_call 26; (with_reducible refine (loops_any _ _ (i12 :: r3) _ HS.out (by omega)).mono ?_); rintro e w15 ⟨rfl, hB⟩; rw [HF2.out]; have n0 := Aside0.mk (StR_below HS.out hB); have n1 := Aside0.mk (below_trans HT.out (below_sub hB HT.out.size)); clear HS HT hB; have HS := n0; have HT := n1; clear n0 n1)
            | (go_at_call 27; (with_reducible refine (brk_any _ _ (i12 :: r3) 1 _ HS.out (by omega) (by omega) (by omega)).mono ?_); rintro e w16 ⟨rfl, hS, hB⟩; rw [HF3.out]; have n0 := Aside0.mk (show StR w16 w3.heap.size w3.heap.size (i12 :: r3) from by rw [← HBR.out]; exact hS); have n1 := Aside0.mk (below_trans HT.out hB); clear HS HT hB hS; have HS := n0; have HT := n1; clear n0 n1))
          go_upto_region 33 with (first
            | (go_at_call 30; (with_reducible refine (sav_any _ _ (i12 :: r3) _ HS.out (by omega)).mono ?_); rintro e w17 ⟨rfl, hB⟩; rw [HF4.out, HF5.out]; have n0 := Aside0.mk (StR_below HS.out hB); have n1 := Aside0.mk (below_trans HT.out (below_sub hB HT.out.size)); clear HS HT hB; have HS := n0; have HT := n1; clear n0 n1)
            | (go_at_call 31; (with_reducible refine (pop_yes _ _ i12 r3 _ HS.out (by omega)).mono ?_); rintro e w18 ⟨rfl, hS, hB⟩; have n0 := Aside0.mk hS; have n1 := Aside0.mk (below_trans HT.out hB); clear HS HT hB hS; have HS := n0; have HT := n1; clear n0 n1))
          go_upto_region 34 with (go_at_call 29; (with_reducible refine (ret_yes _ _ r3 [] x9 _ HS.out (by omega) H9.out).mono ?_); rintro e w19 ⟨rfl, hS, hB⟩; have n0 := Aside0.mk (push_one hS (below_trans HT.out hB) x9 #[Value.int .i64 x9.kind, .int .i64 x9.nk, .string x9.nname, .bool x9.ngiven, .slice x9.s1.a x9.s1.n x9.s1.c, .slice x9.s2.a x9.s2.n x9.s2.c, .slice x9.s3.a x9.s3.n x9.s3.c, .slice x9.s4.a x9.s4.n x9.s4.c, .slice x9.s5.a x9.s5.n x9.s5.c, .int .i64 x9.at_, .int .i64 x9.status, .bool x9.free, .slice x9.s6.a x9.s6.n x9.s6.c, .slice x9.s7.a x9.s7.n x9.s7.c] rfl); clear hS hB HS HT; have HP := n0; clear n0)
          have HS := Aside0.mk HP.out.2.1
          have HT := Aside0.mk HP.out.2.2
          have k10 : (w19.alloc (.cells #[Value.int .i64 x9.kind, .int .i64 x9.nk, .string x9.nname, .bool x9.ngiven, .slice x9.s1.a x9.s1.n x9.s1.c, .slice x9.s2.a x9.s2.n x9.s2.c, .slice x9.s3.a x9.s3.n x9.s3.c, .slice x9.s4.a x9.s4.n x9.s4.c, .slice x9.s5.a x9.s5.n x9.s5.c, .int .i64 x9.at_, .int .i64 x9.status, .bool x9.free, .slice x9.s6.a x9.s6.n x9.s6.c, .slice x9.s7.a x9.s7.n x9.s7.c] 60)).cell? ⟨w19.heap.size, 10, none⟩ = some (.int .i64 7) := ((blk_cell (blk_new w19 _) 10).trans rfl).trans (show some (Value.int .i64 x9.status) = some (.int .i64 7) by rw [HS9.out])
          clear HP
          generalize w19.alloc (.cells #[Value.int .i64 x9.kind, .int .i64 x9.nk, .string x9.nname, .bool x9.ngiven, .slice x9.s1.a x9.s1.n x9.s1.c, .slice x9.s2.a x9.s2.n x9.s2.c, .slice x9.s3.a x9.s3.n x9.s3.c, .slice x9.s4.a x9.s4.n x9.s4.c, .slice x9.s5.a x9.s5.n x9.s5.c, .int .i64 x9.at_, .int .i64 x9.status, .bool x9.free, .slice x9.s6.a x9.s6.n x9.s6.c, .slice x9.s7.a x9.s7.n x9.s7.c] 60) = w20 at *
          go_wp2_with (go_at_call 32; (with_reducible refine (len_any _ _ [] _ HS.out).mono ?_); rintro e w' ⟨rfl, rfl⟩; rw [show (([] : List It).length : Int) = 0 from rfl])
          go_ret
          exact ⟨rfl, below_trans HB.out (below_sub HT.out HB.out.size)⟩
namespace RowFrameLoops
open Go.ChangeShapes Go.WideShapes Go.ChangeAt Go.RowKit
open Go.ChangeMaps (open_string shut_string)
theorem own : ownKnob Try.prog.godebug = none := by kernel_rfl
theorem laidOut : laidOutB Try.prog = true := by kernel_rfl
set_option maxRecDepth 100000 in
theorem lifted (os : Os) (started : os.Started) (H : Type) (enc : TypeId × Value → H) :
    ReturnsInHanded {} Try.checked os 6 .any (Rows.frameLoopsSpec.pre6 enc Try.prog Try.f6 Rows.frameLoopsRow.domain false) (Rows.frameLoopsSpec.post enc Try.prog Try.f6 false true false false) := by
  refine returnsInHanded_of_change_sized (C := Try.checked) own started (by kernel_rfl) Try.func6
    (ChangeSpec.witness6 (enc := enc) (C := Try.checked) false ⟨#[], #[.slice none 0 0, .int .u8 0, zNode], []⟩ 8 (by kernel_rfl) (by kernel_rfl) (by kernel_rfl) (by kernel_rfl)) ?_
  intro W base args ds gs before hval0 hW hcnd hsz0 _
  have hsz : (DataW.weightsEach Try.prog (Try.f6.params.toList ++ Rows.frameLoopsSpec.plain.varTypes Try.prog) (ds ++ gs)).all (· ≤ reachBytes) = true := hsz0
  have hval : ∀ (j : Nat) t v, Try.f6.params[j]? = some t → args[j]? = some v → Value.okWide Try.prog W .any base t v := hval0
  have hW' := hW
  obtain ⟨p, q, hA0, hV, rfl, hfz, hnd⟩ := hW
  have hA : DataW.TrodAll enc Try.prog W 0 (fun _ => true) true Try.f6.params.toList args.toList ds p := hA0
  rw [Try.params6] at hA hval hsz
  obtain ⟨v0, vs0, d0, ds0, p0, q0, hargs, rfl, rfl, h0, r0⟩ := trodAll_cons hA
  obtain ⟨v1, vs1, d1, ds1, p1, q1, rfl, rfl, rfl, h1, r1⟩ := trodAll_cons r0
  obtain ⟨v2, vs2, d2, ds2, p2, q2, rfl, rfl, rfl, h2, r2⟩ := trodAll_cons r1
  obtain ⟨rfl, rfl, rfl⟩ := trodAll_nil r2
  obtain rfl : args = #[v0, v1, v2] := by cases args; simp_all
  obtain ⟨rfl, rfl⟩ := trodVars_none hV
  obtain ⟨a0, n0, c0, rfl⟩ := okWide_slice Try.underlying45 (hval 0 45 v0 rfl rfl)
  have t0 := h0
  have lt0 : ∀ x ∈ p0, x.block < W.heap.size := by obtain ⟨m, hm⟩ := t0; exact DataW.trod_lt m _ _ _ hm
  have z0 : ∀ n ∈ d0.weights Try.prog 45, n ≤ reachBytes := fun n hn => by simpa using List.all_eq_true.1 hsz n (DataW.weights_mem_each (j := 0) rfl rfl n hn)
  obtain ⟨l0, C0, k0, V0⟩ := Open.open_sl (Open.op_slice Try.underlying45 (by kernel_rfl) (Open.op_int Try.underlying5)) h0 z0
  obtain ⟨x1, rfl, rfl, rfl, V1⟩ := open_int Try.underlying5 (hval 1 5 v1 rfl rfl) h1
  obtain ⟨cs2, rfl, _⟩ := okWide_struct Try.underlying52 (hval 2 52 v2 rfl rfl)
  have t2 := h2
  have lt2 : ∀ x ∈ p2, x.block < W.heap.size := by obtain ⟨m, hm⟩ := t2; exact DataW.trod_lt m _ _ _ hm
  have z2 : ∀ n ∈ d2.weights Try.prog 52, n ≤ reachBytes := fun n hn => by simpa using List.all_eq_true.1 hsz n (DataW.weights_mem_each (j := 2) rfl rfl n hn)
  obtain ⟨y2, K2, V2⟩ := Open.open_st (NodeOps.op_node W) h2 z2
  clear hA0 hval0 hsz0 hsz
  refine (loops_law _ _ _ l0 x1 _ _ W C0 (fun b hb => u8_rng (V0.2 b hb)) (u8_rng V1).1 (u8_rng V1).2 K2 V2).mono fun e W' ⟨he, bel⟩ => ?_
  subst he
  exact ⟨_, rfl, _, _, _, [], _, [], hW', trodAll_mk1 (shut_bool Try.underlying4 _), (trodAll_cons_mk (Below.trod laidOut (by kernel_rfl) (of_decide_eq_true (by kernel_rfl)) t0 bel lt0) (trodAll_cons_mk (shut_int Try.underlying5 V1) (trodAll_cons_mk (Below.trod laidOut (by kernel_rfl) (of_decide_eq_true (by kernel_rfl)) t2 bel lt2) trodAll_mk0))), rfl, bel.frame _, fun h => by cases h⟩
theorem proved : Rows.FrameLoopsSaid :=
  OpenClaim.holds_of_wide 6 Try.f6 rfl rfl rfl rfl rfl rfl rfl ⟨rfl, rfl, rfl, rfl, rfl⟩ rfl rfl rfl rfl rfl (by kernel_rfl) Try.func6 (by kernel_rfl)
    (of_decide_eq_true (by kernel_rfl)) (by unfold Func.isWrapper; first | (rw [if_pos (by decide +kernel)]; kernel_rfl) | (rw [if_neg (by decide +kernel)]; exact ⟨rfl, rfl⟩))
    (fun os started H enc _ => lifted os started H enc)
end RowFrameLoops
theorem frameLoops_holds : Rows.FrameLoopsSaid := RowFrameLoops.proved
#print axioms frameLoops_holds
end Go.Proofs.Ytkepmbkghmkodaa
