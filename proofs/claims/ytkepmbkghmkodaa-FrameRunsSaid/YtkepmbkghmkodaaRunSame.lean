/- FrameRuns: the law's Same at a stack and a row of the same items: it is 1. -/
import Derived.Test.YtkepmbkghmkodaaRunRet
namespace Go.Proofs.Ytkepmbkghmkodaa.Frame
open Go.RowKit Go.Proofs.YtkepmbkghmkodaaW.PrintWords Go.Proofs.YtkepmbkghmkodaaW.PrintLast Go.Proofs.Ytkepmbkghmkodaa.Base Go.Proofs.Ytkepmbkghmkodaa.Seq Go.Proofs.Ytkepmbkghmkodaa.Q
set_option linter.unusedVariables false
set_option linter.unusedSimpArgs false
section
variable {ops : Array Oper} {rest : List Oper} {o : Oper} {a : Act} {Q : Exit → Act → World → Prop}
theorem app_i {w0 W : World} (base : Nat) {N : Tmp} (hd : o.dst = some N) (hgd : o.guard = none) (s x : Operand) (ho : o.op = .call { callee := .builtin .append, args := #[s, x], argTypes := #[58, 58] })
    (v : Value) (xs : List Int) (p : Int) (hs : a.eval s = v) (hx : a.eval x = .slice (some ⟨W.heap.size, 0, none⟩) 1 1)
    (HO : (Kd.int .i64).R 3 W base ok0 v xs) (HB : Below base w0 W) (hbase : base ≤ W.heap.size) (hl : xs.length + 1 ≤ 1000000000000)
    (h : ∀ A n c w1, (Kd.int .i64).R 3 w1 base ok0 (.slice A n c) (xs ++ [p]) → Below base w0 w1 → wpList Try.prog ops Q rest (a.put (some N) (.slice A n c)) w1) :
    wpList Try.prog ops Q (o :: rest) a (W.alloc (.cells #[.int .i64 p] 3)) := by
  refine Kd.R_append (Kd.int .i64) (w0 := w0) base hgd s x 58 3 (.int .i64 0) 8 ho Try.underlying58 (by kernel_rfl) rfl (by decide) (by decide) v xs p [.int .i64 p] ok0 (fun _ => False) hs hx rfl (fun _ h => h.elim) (fun _ _ => trivial) HO HB hbase (by omega) ?_
  intro v1 w1 hR hB hG _
  obtain ⟨A, n, c, rfl⟩ := R_slice3 hR
  rw [hd]
  exact h A n c w1 hR hB
end
/-- A row of numbers that is handed back. -/
def IntsOut (w w' : World) (e : Ending) (n : Nat) (l : List Int) : Prop := ∃ B q, e = .returned (.slice B n q) ∧ (Kd.int .i64).C w' B n l ∧ n ≤ q ∧ Below w.heap.size w w'
theorem take_kind {l : List It} {k : Nat} (h : k < l.length) : (l.take (k + 1)).map It.kind = (l.take k).map It.kind ++ [l[k].kind] := by
  rw [List.take_succ_eq_append_getElem h, List.map_append]; rfl
set_option maxHeartbeats 4000000 in
set_option maxRecDepth 100000 in
theorem kinds_any (base g : Nat) (r : List It) (w : World) (h : StR w base g r) (hl : r.length ≤ 1000000) :
    Calls Try.prog 91 #[.pointer (some ⟨g, 0, none⟩)] w fun e w' => IntsOut w w' e r.length (r.reverse.map It.kind) := by
  obtain ⟨A, cp, hg0, hbg, hR0, hlc, hbl⟩ := StR_open h
  have c0 : w.cell? ⟨g, 0, none⟩ = some (.slice A r.length cp) := (blk_cell hg0 0).trans rfl
  have HC := Aside0.mk (R_C hR0)
  have hrl : r.reverse.length = r.length := List.length_reverse
  clear hg0 h hR0
  go_enter Try.func91, Try.ntmps91
  go_wp2
  clear c0
  go_loopw [3, 11] (fun v3 v11 w' => ∃ (k : Nat) (B : Option Addr) (m q : Nat), k ≤ r.length ∧ v11 = .int .i64 (k : Int) ∧ v3 = .slice B m q ∧ Aside0 ((Kd.int .i64).R 3 w' w.heap.size ok0 (.slice B m q) ((r.reverse.take k).map It.kind)) ∧ Aside0 (Below w.heap.size w w')) (fun _ v11 _ => r.length - (intOf v11).toNat)
  case atStart => exact ⟨0, none, 0, 0, Nat.zero_le _, rfl, rfl, ⟨Kd.R_nil _ _ _ _ _⟩, ⟨Below.refl _ _⟩⟩
  case round =>
    obtain ⟨k, B, m, q, hk, rfl, rfl, HO, HB⟩ := hrel
    by_cases hkn : k < r.length
    · have hkr : k < r.reverse.length := by omega
      obtain ⟨ad, rfl, hx⟩ := at_it HC.out k hkr
      obtain ⟨k0, k1, k2, k3, k4, k5, k6, k7, k8, k9, k10, k11, k12, k13⟩ := Cells_below hx HB.out
      have htk := take_kind hkr
      generalize r.reverse[k] = x at *
      have HTK := Aside0.mk htk
      have HBX := (it_cells (X := x) (blk_new wr (.cells #[Value.int .i64 x.kind, .int .i64 x.nk, .string x.nname, .bool x.ngiven, .slice x.s1.a x.s1.n x.s1.c, .slice x.s2.a x.s2.n x.s2.c, .slice x.s3.a x.s3.n x.s3.c, .slice x.s4.a x.s4.n x.s4.c, .slice x.s5.a x.s5.n x.s5.c, .int .i64 x.at_, .int .i64 x.status, .bool x.free, .slice x.s6.a x.s6.n x.s6.c, .slice x.s7.a x.s7.n x.s7.c] 60))).1
      have HBB := Aside0.mk (below_alloc HB.out (.cells #[Value.int .i64 x.kind, .int .i64 x.nk, .string x.nname, .bool x.ngiven, .slice x.s1.a x.s1.n x.s1.c, .slice x.s2.a x.s2.n x.s2.c, .slice x.s3.a x.s3.n x.s3.c, .slice x.s4.a x.s4.n x.s4.c, .slice x.s5.a x.s5.n x.s5.c, .int .i64 x.at_, .int .i64 x.status, .bool x.free, .slice x.s6.a x.s6.n x.s6.c, .slice x.s7.a x.s7.n x.s7.c] 60))
      have HO2 := Aside0.mk (Kd.R_below HO.out (below_alloc (Below.refl wr.heap.size wr) (.cells #[Value.int .i64 x.kind, .int .i64 x.nk, .string x.nname, .bool x.ngiven, .slice x.s1.a x.s1.n x.s1.c, .slice x.s2.a x.s2.n x.s2.c, .slice x.s3.a x.s3.n x.s3.c, .slice x.s4.a x.s4.n x.s4.c, .slice x.s5.a x.s5.n x.s5.c, .int .i64 x.at_, .int .i64 x.status, .bool x.free, .slice x.s6.a x.s6.n x.s6.c, .slice x.s7.a x.s7.n x.s7.c] 60)))
      clear hx htk
      go_upto_region 5 with (fail)
      clear k0 k1 k2 k3 k4 k5 k6 k7 k8 k9 k10 k11 k12 k13
      generalize wr.alloc (.cells #[Value.int .i64 x.kind, .int .i64 x.nk, .string x.nname, .bool x.ngiven, .slice x.s1.a x.s1.n x.s1.c, .slice x.s2.a x.s2.n x.s2.c, .slice x.s3.a x.s3.n x.s3.c, .slice x.s4.a x.s4.n x.s4.c, .slice x.s5.a x.s5.n x.s5.c, .int .i64 x.at_, .int .i64 x.status, .bool x.free, .slice x.s6.a x.s6.n x.s6.c, .slice x.s7.a x.s7.n x.s7.c] 60) = wb at *
      have hml : ((r.reverse.take k).map It.kind).length ≤ 1000000 := by simp; omega
      go_wp2_with ((with_reducible refine gate_dst (N := 19) rfl ?_)
                   go_loud (refine app_i w.heap.size (N := 19) (w0 := w) (W := wb) rfl rfl (.tmp 15) (.tmp 18) rfl (.slice B m q) ((r.reverse.take k).map It.kind) x.kind rfl rfl HO2.out HBB.out HBB.out.size (by omega) ?_)
                   intro A1 n1 cp1 w5 hR hB
                   have HR8 := Aside0.mk hR
                   have HS5 := Aside0.mk hB
                   clear hR hB HBX)
      go_roundw
      case measure => simp [intOf]; omega
      case rel => exact ⟨k + 1, A1, n1, cp1, by omega, by go_num, rfl, ⟨by rw [HTK.out]; exact HR8.out⟩, HS5⟩
    · have hke : k = r.length := by omega
      go_wp2
      go_ret
      obtain ⟨e1, e2, e3⟩ := Kd.R_reads' HO.out
      have e4 : (r.reverse.take k).map It.kind = r.reverse.map It.kind := by rw [hke, ← hrl, List.take_length]
      rw [e4] at e1 e3
      have e5 : (r.reverse.map It.kind).length = r.length := by simp
      rw [e5] at e1 e3
      subst e1
      exact ⟨B, q, rfl, e3, e2, HB.out⟩
theorem rLoops (r : List It) (A : Option Addr) (n c : Nat) (w : World) (h : kIt.C w A n r.reverse) (hc : n ≤ c) (hok : ∀ x ∈ r, Ok w x) (hl : r.length ≤ 1000000) :
    Calls Try.prog 92 #[.slice A n c] w fun e w' => e = .returned (.int .i64 (cntR r : Int)) ∧ Below w.heap.size w w' := by
  obtain ⟨vs, hV, hk, hf⟩ := row_of_words h (fun x hx => hok x (List.mem_reverse.1 hx))
  obtain rfl := hV.1
  obtain ⟨k, hev⟩ := loopsN_ev hk (by rw [List.length_reverse]; exact hl)
  rw [List.reverse_reverse] at hev
  exact deadfallref15_Loops.calls k A c vs _ w hV hc (hev k (Nat.le_refl _))
theorem rSaved (r : List It) (A : Option Addr) (n c : Nat) (w : World) (h : kIt.C w A n r.reverse) (hc : n ≤ c) (hok : ∀ x ∈ r, Ok w x) (hl : r.length ≤ 1000000) :
    Calls Try.prog 90 #[.slice A n c] w fun e w' => e = .returned (.tuple #[.int .i64 (savN r), .bool (savB r)]) ∧ Below w.heap.size w w' := by
  obtain ⟨vs, hV, hk, hf⟩ := row_of_words h (fun x hx => hok x (List.mem_reverse.1 hx))
  obtain rfl := hV.1
  obtain ⟨k, hev⟩ := saved_ev hk (by rw [List.length_reverse]; exact hl)
  rw [List.reverse_reverse] at hev
  exact (deadfallref15_Saved.calls k A c vs _ _ w hV hc (hev k (Nat.le_refl _))).mono fun e w' q => ⟨q.1, q.2.below⟩
end Go.Proofs.Ytkepmbkghmkodaa.Frame
namespace Go.Proofs.Ytkepmbkghmkodaa.Seq
open Go.RowKit Go.Proofs.YtkepmbkghmkodaaW.PrintWords Go.Proofs.YtkepmbkghmkodaaW.PrintLast Go.Proofs.Ytkepmbkghmkodaa.Base
theorem s_offOne {P : Program} {ops : Array Oper} {Q : Exit → Act → World → Prop} {S : World → Prop} {i : Nat} {N : Option Tmp} {r : List (Nat × Option Tmp × K)} {o : Oper} {a a' : Act} {w : World} (ho : ops[i]? = some o) (hN : o.dst = N)
    (hw : Region.wanted o (yielded ops a.tmps) = false) (ha : a.put N undef = a') (h : wpSeq P ops Q S r a' w) : wpSeq P ops Q S ((i, N, .one) :: r) a w := by
  subst ha
  subst hN
  unfold wpSeq wpOp
  simp only [ho, hw, Bool.false_eq_true, if_false]
  exact ⟨id, h⟩
end Go.Proofs.Ytkepmbkghmkodaa.Seq
namespace Go.Proofs.Ytkepmbkghmkodaa.Frame
open Go.RowKit Go.Proofs.YtkepmbkghmkodaaW.PrintWords Go.Proofs.YtkepmbkghmkodaaW.PrintLast Go.Proofs.Ytkepmbkghmkodaa.Base Go.Proofs.Ytkepmbkghmkodaa.Seq Go.Proofs.Ytkepmbkghmkodaa.Q
set_option linter.unusedVariables false
set_option linter.unusedSimpArgs false
theorem sameZero (w : World) : Calls Try.prog 37 #[.agg #[Value.int .i64 0, .int .i64 0, .string ⟨#[]⟩, .bool false, .slice none 0 0, .slice none 0 0, .slice none 0 0, .slice none 0 0, .slice none 0 0, .int .i64 0, .int .i64 0, .bool false, .slice none 0 0, .slice none 0 0], .agg #[Value.int .i64 0, .int .i64 0, .string ⟨#[]⟩, .bool false, .slice none 0 0, .slice none 0 0, .slice none 0 0, .slice none 0 0, .slice none 0 0, .int .i64 0, .int .i64 0, .bool false, .slice none 0 0, .slice none 0 0]] w fun e w' => e = .returned (.int .i64 1) ∧ Below w.heap.size w w' := sameItem default w (ok_zero w)
set_option maxHeartbeats 8000000 in
set_option maxRecDepth 100000 in
theorem same_any (base g : Nat) (r : List It) (A : Option Addr) (n c : Nat) (w : World) (h : StR w base g r) (hr : kIt.C w A n r.reverse) (hc : n ≤ c) (hok : ∀ x ∈ r, Ok w x) (hl : r.length ≤ 1000000) :
    Calls Try.prog 42 #[.pointer (some ⟨g, 0, none⟩), .slice A n c] w fun e w' => e = .returned (.int .i64 1) ∧ Below w.heap.size w w' := by
  have hn : r.reverse.length = n := hr.1
  have hn2 : r.length = n := by rw [← hn, List.length_reverse]
  have HS0 := Aside0.mk h
  have HC0 := Aside0.mk hr
  have HOK0 := Aside0.mk hok
  have HCC := Aside0.mk hc
  have HL := Aside0.mk hl
  clear h hr hok
  have HE := Aside0.mk (show (Kd.int .i64).R 3 (w.alloc (.cells #[] 3)) w.heap.size ok0 (.slice (some ⟨w.heap.size, 0, none⟩) 0 0) [] from R_empty (blk_new w _) (Nat.le_refl _))
  have HBE := Aside0.mk (below_alloc (Below.refl w.heap.size w) (.cells #[] 3))
  go_enter Try.func42, Try.ntmps42
  go_wp2
  generalize w.alloc (.cells #[] 3) = wa at *
  go_loopw [5, 17] (fun v5 v17 w' => ∃ (k : Nat) (B : Option Addr) (m q : Nat), k ≤ n ∧ v17 = .int .i64 (k : Int) ∧ v5 = .slice B m q ∧ Aside0 ((Kd.int .i64).R 3 w' w.heap.size ok0 (.slice B m q) ((r.reverse.take k).map It.kind)) ∧ Aside0 (Below w.heap.size w w')) (fun _ v17 _ => n - (intOf v17).toNat)
  case atStart => exact ⟨0, _, 0, 0, Nat.zero_le _, rfl, rfl, HE, HBE⟩
  case round =>
    obtain ⟨k, B, m, q, hk, rfl, rfl, HO, HB⟩ := hrel
    by_cases hkn : k < n
    · have hkr : k < r.reverse.length := by omega
      obtain ⟨ad, rfl, hx⟩ := at_it HC0.out k hkr
      obtain ⟨k0, k1, k2, k3, k4, k5, k6, k7, k8, k9, k10, k11, k12, k13⟩ := Cells_below hx HB.out
      have htk := take_kind hkr
      generalize r.reverse[k] = x at *
      have HTK := Aside0.mk htk
      have HBX := (cells_box (x := x) (blk_new wr (.cells #[Value.int .i64 x.kind, .int .i64 x.nk, .string x.nname, .bool x.ngiven, .slice x.s1.a x.s1.n x.s1.c, .slice x.s2.a x.s2.n x.s2.c, .slice x.s3.a x.s3.n x.s3.c, .slice x.s4.a x.s4.n x.s4.c, .slice x.s5.a x.s5.n x.s5.c, .int .i64 x.at_, .int .i64 x.status, .bool x.free, .slice x.s6.a x.s6.n x.s6.c, .slice x.s7.a x.s7.n x.s7.c] 74))).1
      have HBB := Aside0.mk (below_alloc HB.out (.cells #[Value.int .i64 x.kind, .int .i64 x.nk, .string x.nname, .bool x.ngiven, .slice x.s1.a x.s1.n x.s1.c, .slice x.s2.a x.s2.n x.s2.c, .slice x.s3.a x.s3.n x.s3.c, .slice x.s4.a x.s4.n x.s4.c, .slice x.s5.a x.s5.n x.s5.c, .int .i64 x.at_, .int .i64 x.status, .bool x.free, .slice x.s6.a x.s6.n x.s6.c, .slice x.s7.a x.s7.n x.s7.c] 74))
      have HO2 := Aside0.mk (Kd.R_below HO.out (below_alloc (Below.refl wr.heap.size wr) (.cells #[Value.int .i64 x.kind, .int .i64 x.nk, .string x.nname, .bool x.ngiven, .slice x.s1.a x.s1.n x.s1.c, .slice x.s2.a x.s2.n x.s2.c, .slice x.s3.a x.s3.n x.s3.c, .slice x.s4.a x.s4.n x.s4.c, .slice x.s5.a x.s5.n x.s5.c, .int .i64 x.at_, .int .i64 x.status, .bool x.free, .slice x.s6.a x.s6.n x.s6.c, .slice x.s7.a x.s7.n x.s7.c] 74)))
      clear hx htk
      go_upto_region 5 with (fail)
      clear k0 k1 k2 k3 k4 k5 k6 k7 k8 k9 k10 k11 k12 k13
      generalize wr.alloc (.cells #[Value.int .i64 x.kind, .int .i64 x.nk, .string x.nname, .bool x.ngiven, .slice x.s1.a x.s1.n x.s1.c, .slice x.s2.a x.s2.n x.s2.c, .slice x.s3.a x.s3.n x.s3.c, .slice x.s4.a x.s4.n x.s4.c, .slice x.s5.a x.s5.n x.s5.c, .int .i64 x.at_, .int .i64 x.status, .bool x.free, .slice x.s6.a x.s6.n x.s6.c, .slice x.s7.a x.s7.n x.s7.c] 74) = wb at *
      have hml : ((r.reverse.take k).map It.kind).length ≤ 1000000 := by simp; omega
      go_wp2_with ((with_reducible refine gate_dst (N := 25) rfl ?_)
                   go_loud (refine app_i w.heap.size (N := 25) (w0 := w) (W := wb) rfl rfl (.tmp 21) (.tmp 24) rfl (.slice B m q) ((r.reverse.take k).map It.kind) x.kind rfl rfl HO2.out HBB.out HBB.out.size (by omega) ?_)
                   intro A1 n1 cp1 w5 hR hB
                   have HR8 := Aside0.mk hR
                   have HS5 := Aside0.mk hB
                   clear hR hB HBX)
      go_roundw
      case measure => simp [intOf]; omega
      case rel => exact ⟨k + 1, A1, n1, cp1, by omega, by go_num, rfl, ⟨by rw [HTK.out]; exact HR8.out⟩, HS5⟩
    · have hke : k = n := by omega
      obtain ⟨e1, e2, e3⟩ := Kd.R_reads' HO.out
      have e4 : (r.reverse.take k).map It.kind = r.reverse.map It.kind := by rw [hke, ← hn, List.take_length]
      rw [e4] at e1 e3
      rw [← e1] at e3
      have KW := Aside0.mk e3
      have KQ := Aside0.mk e2
      clear e1 e2 e3 e4 hke HO HE
      have HSR := Aside0.mk (StR_below HS0.out HB.out)
      have HCR := Aside0.mk (Kd.C_below HC0.out HB.out)
      have HKR := Aside0.mk (fun x hx => (HOK0.out x hx).below HB.out)
      go_upto_region 9 with (first
        | (go_at_call 30; (with_reducible refine (sav_any base g r _ HSR.out (by have := HL.out; omega)).mono ?_); rintro e w1 ⟨rfl, hB⟩; have S1 := Aside0.mk hB; clear hB)
        | (go_at_call 90; (with_reducible refine (rSaved r A n c _ (Kd.C_below HCR.out S1.out) HCC.out (fun x hx => (HKR.out x hx).below S1.out) HL.out).mono ?_); rintro e w2 ⟨rfl, hB⟩; have S2 := Aside0.mk (below_trans S1.out (below_sub hB S1.out.size)); clear hB))
      go_upto_region 11 with (first
        | (go_at_call 32; (with_reducible refine (len_any base g r _ (StR_below HSR.out S2.out)).mono ?_); rintro e w' ⟨rfl, rfl⟩; rw [hn2])
        | (go_at_call 91; (with_reducible refine (kinds_any base g r _ (StR_below HSR.out S2.out) HL.out).mono ?_); rintro e w3 ⟨B3, q3, rfl, hC3, hq3, hB⟩; rw [hn2] at hC3 hq3; have KK := Aside0.mk hC3; have KL := Aside0.mk hq3; have S3 := Aside0.mk (below_trans S2.out (below_sub hB S2.out.size)); clear hB hC3 hq3)
        | (go_at_call 87; (with_reducible refine (sameInts_eq _ _ _ _ _ _ _ _ KK.out KL.out (Kd.C_below KW.out S3.out) KQ.out (by have := HL.out; simp; omega)).mono ?_); rintro e w4 ⟨rfl, hB⟩; have S4 := Aside0.mk (below_trans S3.out (below_sub hB S3.out.size)); clear hB)
        | (go_at_call 26; (with_reducible refine (loops_any base g r _ (StR_below HSR.out S4.out) (by have := HL.out; omega)).mono ?_); rintro e w5 ⟨rfl, hB⟩; have S5 := Aside0.mk (below_trans S4.out (below_sub hB S4.out.size)); clear hB)
        | (go_at_call 92; (with_reducible refine (rLoops r A n c _ (Kd.C_below HCR.out S5.out) HCC.out (fun x hx => (HKR.out x hx).below S5.out) HL.out).mono ?_); rintro e w6 ⟨rfl, hB⟩; have S6 := Aside0.mk (below_trans S5.out (below_sub hB S5.out.size)); clear hB))
      clear hkn hk
      cases r with
      | nil =>
        obtain rfl : n = 0 := hn2.symm
        go_upto_region 12 with (go_at_call 84; (with_reducible refine (top_no base g _ (StR_below HSR.out S6.out)).mono ?_); rintro e w7 ⟨rfl, hB⟩; have S7 := Aside0.mk (below_trans S6.out (below_sub hB S6.out.size)); clear hB)
        obtain ⟨z0, z1, z2, z3, z4, z5, z6, z7, z8, z9, z10, z11, z12, z13⟩ := cells_box (x := ⟨0, 0, ⟨#[]⟩, false, ⟨none, 0, 0⟩, ⟨none, 0, 0⟩, ⟨none, 0, 0⟩, ⟨none, 0, 0⟩, ⟨none, 0, 0⟩, 0, 0, false, ⟨none, 0, 0⟩, ⟨none, 0, 0⟩⟩) (blk_new w7 (.cells #[Value.int .i64 0, .int .i64 0, .string ⟨#[]⟩, .bool false, .slice none 0 0, .slice none 0 0, .slice none 0 0, .slice none 0 0, .slice none 0 0, .int .i64 0, .int .i64 0, .bool false, .slice none 0 0, .slice none 0 0] 60))
        dsimp only at z0 z1 z2 z3 z4 z5 z6 z7 z8 z9 z10 z11 z12 z13
        have S8 := Aside0.mk (below_alloc S7.out (.cells #[Value.int .i64 0, .int .i64 0, .string ⟨#[]⟩, .bool false, .slice none 0 0, .slice none 0 0, .slice none 0 0, .slice none 0 0, .slice none 0 0, .int .i64 0, .int .i64 0, .bool false, .slice none 0 0, .slice none 0 0] 60))
        generalize w7.alloc (.cells #[Value.int .i64 0, .int .i64 0, .string ⟨#[]⟩, .bool false, .slice none 0 0, .slice none 0 0, .slice none 0 0, .slice none 0 0, .slice none 0 0, .int .i64 0, .int .i64 0, .bool false, .slice none 0 0, .slice none 0 0] 60) = w8 at *
        generalize w7.heap.size = g8 at *
        have HBF := Aside0.mk (below_trans HB.out (below_sub S8.out HB.out.size))
        refine region_seq (fun w_ => Below w8.heap.size w8 w_) []
          [(0, some 71, .pure), (1, some 72, .pure), (2, some 73, .pure), (3, some 74, .pure), (4, some 75, .pure), (5, some 76, .pure), (6, some 77, .pure), (7, some 78, .pure), (8, some 79, .pure), (10, some 81, .pure), (9, some 80, .held), (11, some 82, .one), (12, some 83, .pure), (13, some 84, .pure), (14, some 85, .pure), (15, some 86, .pure), (16, some 87, .pure), (17, some 88, .pure), (19, some 90, .pure), (20, some 91, .pure), (21, some 92, .pure), (22, some 93, .pure), (23, some 94, .pure), (18, some 89, .held), (24, some 95, .held), (25, some 96, .one), (26, some 97, .pure), (27, some 98, .pure), (28, some 99, .pure)] (by kernel_rfl) (by kernel_rfl) ?_
        have hS := below_drew (Below.refl w8.heap.size w8)
        repeat (first
          | (refine s_pure (v := ?_) (a' := ?_) rfl (fun _ _ _ h => h) rfl ?hy ?ha ?_; (case hy => (intro w_; go_simp; with_reducible rfl)); (case ha => (simp only [Act.put, List.setIfInBounds_toArray, List.set_cons_zero, List.set_cons_succ, i64_w, i32_w]; rfl)))
          | (refine s_held (v := ?_) (a' := ?_) hS rfl (fun _ _ _ h => h) rfl ?hy ?ha ?_; (case hy => (intro w_ hb_; have s0 := pw_cell_below hb_ z0; have s1 := pw_cell_below hb_ z1; have s2 := pw_cell_below hb_ z2; have s3 := pw_cell_below hb_ z3; have s4 := pw_cell_below hb_ z4; have s5 := pw_cell_below hb_ z5; have s6 := pw_cell_below hb_ z6; have s7 := pw_cell_below hb_ z7; have s8 := pw_cell_below hb_ z8; have s9 := pw_cell_below hb_ z9; have s10 := pw_cell_below hb_ z10; have s11 := pw_cell_below hb_ z11; have s12 := pw_cell_below hb_ z12; have s13 := pw_cell_below hb_ z13; go_simp; with_reducible rfl)); (case ha => (simp only [Act.put, List.setIfInBounds_toArray, List.set_cons_zero, List.set_cons_succ, i64_w, i32_w]; rfl)))
          | (refine s_off (a' := ?_) rfl (fun _ _ _ h => h) rfl ?ha ?_; (case ha => (simp only [Act.put, List.setIfInBounds_toArray, List.set_cons_zero, List.set_cons_succ, i64_w, i32_w]; rfl)))
          | (refine s_offHeld (a' := ?_) hS rfl (fun _ _ _ h => h) rfl ?ha ?_; (case ha => (simp only [Act.put, List.setIfInBounds_toArray, List.set_cons_zero, List.set_cons_succ, i64_w, i32_w]; rfl)))
          | (refine s_offOne (a' := ?_) rfl rfl rfl ?ha ?_; (case ha => (simp only [Act.put, List.setIfInBounds_toArray, List.set_cons_zero, List.set_cons_succ, i64_w, i32_w]; rfl))))
        clear z0 z1 z2 z3 z4 z5 z6 z7 z8 z9 z10 z11 z12 z13
        refine s_oneL rfl (fun K hK => ?_) rfl
        go_wp2_with (go_at_call 37; (with_reducible refine (sameZero _).mono ?_); rintro e w9 ⟨rfl, hB⟩)
        have hS2 : Below w8.heap.size w8 w9 := hS.trans (below_sub hB hS.size)
        clear hB
        replace hS := hS2
        clear hS2
        refine hK _ _ hS ?_
        clear hK
        repeat (first
          | (refine s_pure (v := ?_) (a' := ?_) rfl (fun _ _ _ h => h) rfl ?hy ?ha ?_; (case hy => (intro w_; go_simp; with_reducible rfl)); (case ha => (simp only [Act.put, List.setIfInBounds_toArray, List.set_cons_zero, List.set_cons_succ, i64_w, i32_w]; rfl)))
          | (refine s_held (v := ?_) (a' := ?_) hS rfl (fun _ _ _ h => h) rfl ?hy ?ha ?_; (case hy => (intro w_ hb_; go_simp; with_reducible rfl)); (case ha => (simp only [Act.put, List.setIfInBounds_toArray, List.set_cons_zero, List.set_cons_succ, i64_w, i32_w]; rfl)))
          | (refine s_off (a' := ?_) rfl (fun _ _ _ h => h) rfl ?ha ?_; (case ha => (simp only [Act.put, List.setIfInBounds_toArray, List.set_cons_zero, List.set_cons_succ, i64_w, i32_w]; rfl)))
          | (refine s_offHeld (a' := ?_) hS rfl (fun _ _ _ h => h) rfl ?ha ?_; (case ha => (simp only [Act.put, List.setIfInBounds_toArray, List.set_cons_zero, List.set_cons_succ, i64_w, i32_w]; rfl)))
          | (refine s_offOne (a' := ?_) rfl rfl rfl ?ha ?_; (case ha => (simp only [Act.put, List.setIfInBounds_toArray, List.set_cons_zero, List.set_cons_succ, i64_w, i32_w]; rfl))))
        refine s_tailL _ (by kernel_rfl) ?_
        simp only [opsAt, List.filterMap_nil]
        have HS2 := Aside0.mk (HBF.out.trans (below_sub hS HBF.out.size))
        clear hS
        go_wp2
        go_ret
        exact ⟨rfl, HS2.out⟩
      | cons x r' =>
        have hlc := HL.out
        rw [List.length_cons] at hlc
        have hn0 : 0 < n := by rw [← hn2]; simp
        have hw1 : wrap64 ((n : Int) - 1) = (r'.length : Int) := by rw [← hn2, List.length_cons]; unfold wrap64; omega
        have hi1 : (r'.length : Int) < (n : Int) := by rw [← hn2, List.length_cons]; omega
        have hi0 : (0 : Int) ≤ (r'.length : Int) := by omega
        have hxl : r'.length < (x :: r').reverse.length := by simp
        obtain ⟨ad, rfl, hx⟩ := at_it HCR.out r'.length hxl
        rw [show (x :: r').reverse[r'.length] = x by simp] at hx
        have HX := Aside0.mk hx
        have HXO := Aside0.mk (HKR.out x (List.mem_cons_self))
        clear hx hxl
        go_upto_region 12 with (go_at_call 84; (with_reducible refine (top_yes base g x r' _ (StR_below HSR.out S6.out) (by rw [List.length_cons]; omega)).mono ?_); rintro e w7 ⟨rfl, hB⟩; have S7 := Aside0.mk (below_trans S6.out (below_sub hB S6.out.size)); clear hB)
        obtain ⟨z0, z1, z2, z3, z4, z5, z6, z7, z8, z9, z10, z11, z12, z13⟩ := cells_box (x := x) (blk_new w7 (.cells #[Value.int .i64 x.kind, .int .i64 x.nk, .string x.nname, .bool x.ngiven, .slice x.s1.a x.s1.n x.s1.c, .slice x.s2.a x.s2.n x.s2.c, .slice x.s3.a x.s3.n x.s3.c, .slice x.s4.a x.s4.n x.s4.c, .slice x.s5.a x.s5.n x.s5.c, .int .i64 x.at_, .int .i64 x.status, .bool x.free, .slice x.s6.a x.s6.n x.s6.c, .slice x.s7.a x.s7.n x.s7.c] 60))
        have S8 := Aside0.mk (below_alloc S7.out (.cells #[Value.int .i64 x.kind, .int .i64 x.nk, .string x.nname, .bool x.ngiven, .slice x.s1.a x.s1.n x.s1.c, .slice x.s2.a x.s2.n x.s2.c, .slice x.s3.a x.s3.n x.s3.c, .slice x.s4.a x.s4.n x.s4.c, .slice x.s5.a x.s5.n x.s5.c, .int .i64 x.at_, .int .i64 x.status, .bool x.free, .slice x.s6.a x.s6.n x.s6.c, .slice x.s7.a x.s7.n x.s7.c] 60))
        generalize w7.alloc (.cells #[Value.int .i64 x.kind, .int .i64 x.nk, .string x.nname, .bool x.ngiven, .slice x.s1.a x.s1.n x.s1.c, .slice x.s2.a x.s2.n x.s2.c, .slice x.s3.a x.s3.n x.s3.c, .slice x.s4.a x.s4.n x.s4.c, .slice x.s5.a x.s5.n x.s5.c, .int .i64 x.at_, .int .i64 x.status, .bool x.free, .slice x.s6.a x.s6.n x.s6.c, .slice x.s7.a x.s7.n x.s7.c] 60) = w8 at *
        generalize w7.heap.size = g8 at *
        have HBF := Aside0.mk (below_trans HB.out (below_sub S8.out HB.out.size))
        obtain ⟨k0, k1, k2, k3, k4, k5, k6, k7, k8, k9, k10, k11, k12, k13⟩ := Cells_below HX.out S8.out
        have HX8 := Aside0.mk (HXO.out.below S8.out)
        refine region_seq (fun w_ => Below w8.heap.size w8 w_) []
          [(0, some 71, .pure), (1, some 72, .pure), (2, some 73, .pure), (3, some 74, .pure), (4, some 75, .pure), (5, some 76, .pure), (6, some 77, .pure), (7, some 78, .pure), (8, some 79, .pure), (10, some 81, .pure), (9, some 80, .held), (11, some 82, .one), (12, some 83, .pure), (13, some 84, .pure), (14, some 85, .pure), (15, some 86, .pure), (16, some 87, .pure), (17, some 88, .pure), (19, some 90, .pure), (20, some 91, .pure), (21, some 92, .pure), (22, some 93, .pure), (23, some 94, .pure), (18, some 89, .held), (24, some 95, .held), (25, some 96, .one), (26, some 97, .pure), (27, some 98, .pure), (28, some 99, .pure)] (by kernel_rfl) (by kernel_rfl) ?_
        have hS := below_drew (Below.refl w8.heap.size w8)
        repeat (first
          | (refine s_pure (v := ?_) (a' := ?_) rfl (fun _ _ _ h => h) rfl ?hy ?ha ?_; (case hy => (intro w_; go_simp; with_reducible rfl)); (case ha => (simp only [Act.put, List.setIfInBounds_toArray, List.set_cons_zero, List.set_cons_succ, i64_w, i32_w]; rfl)))
          | (refine s_held (v := ?_) (a' := ?_) hS rfl (fun _ _ _ h => h) rfl ?hy ?ha ?_; (case hy => (intro w_ hb_; have s0 := pw_cell_below hb_ z0; have s1 := pw_cell_below hb_ z1; have s2 := pw_cell_below hb_ z2; have s3 := pw_cell_below hb_ z3; have s4 := pw_cell_below hb_ z4; have s5 := pw_cell_below hb_ z5; have s6 := pw_cell_below hb_ z6; have s7 := pw_cell_below hb_ z7; have s8 := pw_cell_below hb_ z8; have s9 := pw_cell_below hb_ z9; have s10 := pw_cell_below hb_ z10; have s11 := pw_cell_below hb_ z11; have s12 := pw_cell_below hb_ z12; have s13 := pw_cell_below hb_ z13; have s14 := pw_cell_below hb_ k0; have s15 := pw_cell_below hb_ k1; have s16 := pw_cell_below hb_ k2; have s17 := pw_cell_below hb_ k3; have s18 := pw_cell_below hb_ k4; have s19 := pw_cell_below hb_ k5; have s20 := pw_cell_below hb_ k6; have s21 := pw_cell_below hb_ k7; have s22 := pw_cell_below hb_ k8; have s23 := pw_cell_below hb_ k9; have s24 := pw_cell_below hb_ k10; have s25 := pw_cell_below hb_ k11; have s26 := pw_cell_below hb_ k12; have s27 := pw_cell_below hb_ k13; go_simp; with_reducible rfl)); (case ha => (simp only [Act.put, List.setIfInBounds_toArray, List.set_cons_zero, List.set_cons_succ, i64_w, i32_w]; rfl)))
          | (refine s_off (a' := ?_) rfl (fun _ _ _ h => h) rfl ?ha ?_; (case ha => (simp only [Act.put, List.setIfInBounds_toArray, List.set_cons_zero, List.set_cons_succ, i64_w, i32_w]; rfl)))
          | (refine s_offHeld (a' := ?_) hS rfl (fun _ _ _ h => h) rfl ?ha ?_; (case ha => (simp only [Act.put, List.setIfInBounds_toArray, List.set_cons_zero, List.set_cons_succ, i64_w, i32_w]; rfl)))
          | (refine s_offOne (a' := ?_) rfl rfl rfl ?ha ?_; (case ha => (simp only [Act.put, List.setIfInBounds_toArray, List.set_cons_zero, List.set_cons_succ, i64_w, i32_w]; rfl))))
        clear z0 z1 z2 z3 z4 z5 z6 z7 z8 z9 z10 z11 z12 z13 k0 k1 k2 k3 k4 k5 k6 k7 k8 k9 k10 k11 k12 k13
        refine s_oneL rfl (fun K hK => ?_) rfl
        go_wp2_with (go_at_call 37; (with_reducible refine (sameItem x _ (HX8.out.below hS)).mono ?_); rintro e w9 ⟨rfl, hB⟩)
        have hS2 : Below w8.heap.size w8 w9 := hS.trans (below_sub hB hS.size)
        clear hB
        replace hS := hS2
        clear hS2
        refine hK _ _ hS ?_
        clear hK
        repeat (first
          | (refine s_pure (v := ?_) (a' := ?_) rfl (fun _ _ _ h => h) rfl ?hy ?ha ?_; (case hy => (intro w_; go_simp; with_reducible rfl)); (case ha => (simp only [Act.put, List.setIfInBounds_toArray, List.set_cons_zero, List.set_cons_succ, i64_w, i32_w]; rfl)))
          | (refine s_held (v := ?_) (a' := ?_) hS rfl (fun _ _ _ h => h) rfl ?hy ?ha ?_; (case hy => (intro w_ hb_; go_simp; with_reducible rfl)); (case ha => (simp only [Act.put, List.setIfInBounds_toArray, List.set_cons_zero, List.set_cons_succ, i64_w, i32_w]; rfl)))
          | (refine s_off (a' := ?_) rfl (fun _ _ _ h => h) rfl ?ha ?_; (case ha => (simp only [Act.put, List.setIfInBounds_toArray, List.set_cons_zero, List.set_cons_succ, i64_w, i32_w]; rfl)))
          | (refine s_offHeld (a' := ?_) hS rfl (fun _ _ _ h => h) rfl ?ha ?_; (case ha => (simp only [Act.put, List.setIfInBounds_toArray, List.set_cons_zero, List.set_cons_succ, i64_w, i32_w]; rfl)))
          | (refine s_offOne (a' := ?_) rfl rfl rfl ?ha ?_; (case ha => (simp only [Act.put, List.setIfInBounds_toArray, List.set_cons_zero, List.set_cons_succ, i64_w, i32_w]; rfl))))
        refine s_tailL _ (by kernel_rfl) ?_
        simp only [opsAt, List.filterMap_nil]
        have HS2 := Aside0.mk (HBF.out.trans (below_sub hS HBF.out.size))
        clear hS
        go_wp2
        go_ret
        exact ⟨rfl, HS2.out⟩
end Go.Proofs.Ytkepmbkghmkodaa.Frame
