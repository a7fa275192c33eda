/- TellParts: the walk. -/
import Derived.Test.YtkepmbkghmkodaaTellAlive
import Derived.Test.YtkepmbkghmkodaaWMore
namespace Go.Proofs.Ytkepmbkghmkodaa.Tell
open Go.RowKit Go.Proofs.YtkepmbkghmkodaaW.PrintWords Go.Proofs.YtkepmbkghmkodaaW.PrintLast Go.Proofs.Ytkepmbkghmkodaa.Base Go.Proofs.Ytkepmbkghmkodaa.Seq Go.Proofs.Ytkepmbkghmkodaa.MapSum Go.Maps
set_option linter.unusedVariables false
set_option linter.unusedSimpArgs false
theorem keyInt : Keyed Try.prog 3 := int_keyed Try.underlying3
section
variable {ops : Array Oper} {rest : List Oper} {o : Oper} {a : Act} {Q : Exit → Act → World → Prop}
theorem app_ev {w0 W : World} (base : Nat) (hgd : o.guard = none) (s x : Operand) (ho : o.op = .call { callee := .builtin .append, args := #[s, x], argTypes := #[33, 33] })
    (v : Value) (xs : List Evt) (p : Evt) (hs : a.eval s = v) (hx : a.eval x = .slice (some ⟨W.heap.size, 0, none⟩) 1 1)
    (HO : kEv.R 37 W base ok0 v xs) (HB : Below base w0 W) (hbase : base ≤ W.heap.size) (hl : xs.length + 1 ≤ 1000000000000)
    (h : ∀ A n c w1, kEv.R 37 w1 base ok0 (.slice A n c) (xs ++ [p]) → Below base w0 w1 → W.grownBy w1 v.ownBlock → wpList Try.prog ops Q rest (a.put o.dst (.slice A n c)) w1) :
    wpList Try.prog ops Q (o :: rest) a (W.alloc (.cells (ecell p) 37)) := by
  refine Kd.R_append kEv (w0 := w0) base hgd s x 33 37 (.agg #[.int .i64 0, .int .i64 0, .int .i64 0, .int .i64 0]) 32 ho Try.underlying33 (by kernel_rfl) rfl (by decide) (by decide) v xs p [.int .i64 p.k, .int .i64 p.a, .int .i64 p.p, .int .i64 p.s] ok0 (fun _ => False) hs hx ⟨[.int .i64 p.k], [.int .i64 p.a, .int .i64 p.p, .int .i64 p.s], rfl, rfl, [.int .i64 p.a], [.int .i64 p.p, .int .i64 p.s], rfl, rfl, [.int .i64 p.p], [.int .i64 p.s], rfl, rfl, rfl⟩ (fun _ h => h.elim) (fun _ _ => trivial) HO HB hbase (by omega) ?_
  intro v1 w1 hR hB hG _
  obtain ⟨A, n, c, rfl⟩ := R_slice3 hR
  exact h A n c w1 hR hB hG
theorem next_ib (w : World) (hg : o.guard = none) (it : Operand) (hop : o.op = Op.next it false) (b r n : Nat) (D : Dm) (left : Lit → Bool) (cnt : Nat)
    (hit : a.eval it = .pointer (some ⟨r, 0, none⟩)) (h : w.ranges Try.prog 3 (plainElem Try.prog 4) b r n D left cnt)
    (hDone : cnt = 0 → (∀ kl, left kl = false) → wpList Try.prog ops Q rest (a.put o.dst (.tuple #[.bool false])) w)
    (hMore : ∀ (x : Int) (c : BB) (w' : World) (cnt' : Nat), W64 x → left (.int .i64 x) = true → (∀ zd, D.atKey (.int .i64 x) zd = .lit (.bool c.b)) → w'.ranges Try.prog 3 (plainElem Try.prog 4) b r n D (fun z => left z && !z.sameKey (.int .i64 x)) cnt' → cnt' < cnt →
      w.grownBy w' (some r) → w'.heap.size = w.heap.size → (Instr.entry (.pointer (some ⟨r, 0, none⟩))).run Try.prog w' = .ok (.tuple #[.int .i64 x, .bool c.b]) w' → wpList Try.prog ops Q rest (a.put o.dst (.tuple #[.bool true, .int .i64 x, .bool c.b])) w') :
    wpList Try.prog ops Q (o :: rest) a w :=
  wpList_next_ranges (α := Int) (β := Bool) w hg it hop 3 keyInt (plainElem Try.prog 4) (Value.int .i64) Value.bool (fun key kl hk => by obtain ⟨x, rfl, _⟩ := Maps.keyOf_int_inv Try.underlying3 hk; exact ⟨x, rfl⟩) (fun v y hv => by obtain ⟨x, rfl, _⟩ := bool_inv hv; exact ⟨x, rfl⟩)
    b r n D left cnt hit h hDone (fun x c kl y w' cnt' hkey hlk hv hat hrg hlt hgr hsz hen => by
      obtain ⟨x', e, rfl⟩ := bool_inv hv
      cases e
      obtain ⟨q, e2, rfl, hq⟩ := Maps.keyOf_int_inv Try.underlying3 hkey
      cases e2
      exact hMore x ⟨c⟩ w' cnt' hq hlk hat hrg hlt hgr hsz hen)
end
/-- What is added up over the processes that have come. -/
abbrev tlf (g : Evt → List Evt → Int) (R : List Evt) (es : Es) (left : Lit → Bool) : Int := tl (fun k _ => add g R (kint k)) es left
/-- The second loop's state. -/
structure LL (w wq : World) (b gS mP rI n : Nat) (x : Value) (l : List Evt) (es : Es) (left : Lit → Bool) (cnt : Nat) : Prop where
  hg : wq.heap[gS]? = some (.cells (acell (tlf (gk 1) l.reverse es left) (tlf (gk 2) l.reverse es left) (tlf (gk 3) l.reverse es left) (tlf (gk 4) l.reverse es left) (tlf (gk 5) l.reverse es left) (tlf go l.reverse es left)) 39 (0, 0))
  rg : wq.ranges Try.prog 3 (plainElem Try.prog 4) mP rI n (.map es) left cnt
  rw_ : kEv.R 37 wq b ok0 x l
  hb : Below b w wq
theorem tlf_bound (g : Evt → List Evt → Int) (R : List Evt) (es : Es) (left : Lit → Bool) (h0 : ∀ q, 0 ≤ add g R q) : 0 ≤ tlf g R es left ∧ tlf g R es left ≤ sumE (fun k _ => add g R (kint k)) es := tl_le (fun k d => h0 (kint k)) left es
set_option maxHeartbeats 8000000 in
set_option maxRecDepth 100000 in
theorem parts_law (A : Option Addr) (n c : Nat) (l : List Evt) (w : World) (hr : kEv.C w A n l) (hW : ∀ e ∈ l, W64 e.p ∧ W64 e.s) :
    Calls Try.prog 4 #[.slice A n c] w fun r w' => r = .returned (.bool true) ∧ Below w.heap.size w w' := by
  obtain rfl := hr.1
  have HR := Aside0.mk hr
  have HW := Aside0.mk hW
  have hmm := @run_makeMap Try.prog
  clear hr hW
  go_enter Try.func4, Try.ntmps4
  by_cases hlen : l.length > 100
  · have d0 : decide ((100 : Int) < (l.length : Int)) = true := decide_eq_true (by omega)
    go_wp2_with (go_at_call 19; (with_reducible refine (talive_any _).mono ?_); rintro r w1 ⟨rfl, hB⟩; have HB := Aside0.mk hB; clear hB)
    go_ret
    exact ⟨rfl, HB.out⟩
  have d0 : decide ((100 : Int) < (l.length : Int)) = false := decide_eq_false (by omega)
  go_upto_region 6 with (go_at_call 19; (with_reducible refine (talive_any _).mono ?_); rintro r w1 ⟨rfl, hB⟩; have HB := Aside0.mk hB; clear hB)
  have HM0 := Aside0.mk (World.ownsMap_made (H := Unit) w1 Try.prog 3 (plainElem Try.prog 4))
  have HB0 := Aside0.mk (below_alloc (Below.refl w1.heap.size w1) (.map #[] 0))
  go_wp2
  generalize w1.alloc (.map #[] 0) = w2 at *
  clear d0
  go_loopw [18, 3] (fun v18 v3 wr => ∃ (k : Nat) (A3 : Option Addr) (n3 c3 : Nat), k ≤ l.length ∧ v18 = .int .i64 (k : Int) ∧ v3 = .slice A3 n3 c3 ∧ Aside0 (kEv.R 37 wr w1.heap.size ok0 (.slice A3 n3 c3) (l.take k)) ∧ Aside0 (wr.ownsMap Try.prog 3 (plainElem Try.prog 4) w1.heap.size k (DP (l.take k).reverse)) ∧ Aside0 (Below w1.heap.size w1 wr) ∧ Aside0 (∀ e ∈ l.take k, e.p ≠ 0)) (fun v18 _ _ => l.length - (intOf v18).toNat)
  case atStart => exact ⟨0, none, 0, 0, Nat.zero_le _, rfl, rfl, ⟨Kd.R_nil _ _ _ _ _⟩, HM0, HB0, ⟨fun e he => by simp at he⟩⟩
  case round =>
    clear HM0 HB0
    obtain ⟨k, A3, n3, c3, hk, rfl, rfl, HX, HM, HBX, HZ⟩ := hrel
    by_cases hlt : k < l.length
    · obtain ⟨ad, rfl, h0, h1, h2, h3⟩ := at_ev HR.out k hlt
      have HBW := Aside0.mk (HB.out.trans (below_sub HBX.out HB.out.size))
      replace h0 := pw_cell_below HBW.out h0
      replace h1 := pw_cell_below HBW.out h1
      replace h2 := pw_cell_below HBW.out h2
      replace h3 := pw_cell_below HBW.out h3
      have HTK := Aside0.mk (List.take_succ_eq_append_getElem hlt)
      have HRS := Aside0.mk (rev_succ l k hlt)
      have HWE := Aside0.mk (HW.out l[k] (List.getElem_mem hlt))
      have HLK := Aside0.mk (show (l.take k).length + 1 ≤ 1000000000000 by rw [List.length_take]; omega)
      have hkn : k < 1000000 := by omega
      generalize l[k] = e at *
      obtain ⟨kk, a, p, s⟩ := e
      simp only at h0 h1 h2 h3 HWE
      have hi0 : (0 : Int) ≤ (k : Int) := by omega
      have hi1 : (k : Int) < (l.length : Int) := by omega
      have HBL := Aside0.mk (blk_new wr (.cells (ecell ⟨kk, a, p, s⟩) 36))
      have hba := below_alloc (Below.refl wr.heap.size wr) (.cells (ecell ⟨kk, a, p, s⟩) 36)
      have HX1 := Aside0.mk (Kd.R_below HX.out hba)
      have HM1 := Aside0.mk (HM.out.kept (grown_of hba) (by simp))
      have HB1 := Aside0.mk (HBX.out.trans (below_sub hba HBX.out.size))
      clear hba HX HM HBX
      go_upto_region 10 with (fail)
      generalize wr.alloc (.cells (ecell ⟨kk, a, p, s⟩) 36) = wb at *
      generalize wr.heap.size = gb at *
      have b0 : wb.cell? ⟨gb, 0, none⟩ = some (.int .i64 kk) := (blk_cell HBL.out 0).trans rfl
      have b1 : wb.cell? ⟨gb, 1, none⟩ = some (.int .i64 a) := (blk_cell HBL.out 1).trans rfl
      have b2 : wb.cell? ⟨gb, 2, none⟩ = some (.int .i64 p) := (blk_cell HBL.out 2).trans rfl
      have b3 : wb.cell? ⟨gb, 3, none⟩ = some (.int .i64 s) := (blk_cell HBL.out 3).trans rfl
      clear h0 h1 h2 h3
      by_cases hp0 : p = 0
      · have e0 : (p == 0) = true := by rw [hp0]; rfl
        clear hp0
        go_wp2
        go_ret
        exact ⟨rfl, HB.out.trans (below_sub HB1.out HB.out.size)⟩
      · have e0 : (p == 0) = false := beq_eq_false_iff_ne.2 hp0
        have HP0 := Aside0.mk hp0
        clear hp0
        go_wp2_with (first
          | ((with_reducible refine gate_dst (N := 28) rfl ?_)
             go_loud (refine app_ev w1.heap.size (w0 := w1) (W := wb) rfl (.tmp 25) (.tmp 27) rfl (.slice A3 n3 c3) (l.take k) ⟨kk, a, p, s⟩ rfl rfl HX1.out HB1.out HB1.out.size HLK.out ?_)
             intro A5 n5 c5 w5 hR hB hG
             have HM5 := Aside0.mk (HM1.out.kept hG (fun e => by obtain ⟨cells, hc⟩ := Kd.R_typed HX1.out _ e.symm; obtain ⟨es, cl, hb, _⟩ := HM1.out; rw [hc] at hb; cases hb))
             have b2 := (blk_cell (blk_grown HBL.out hG (Kd.R_ne HX1.out HBL.out (by decide))) 2).trans rfl
             have HX5 := Aside0.mk hR
             have HB5 := Aside0.mk hB
             clear hR hB hG)
          | (at_mapUpdate
             go_loud (refine wpList_mapUpdate_own _ rfl _ _ _ 34 rfl 3 4 keyInt Try.underlying34 (plainElem Try.prog 4) w1.heap.size k (DP (l.take k).reverse) rfl HM5.out (by unfold maxLen; omega) _ _ (.int .i64 p) rfl rfl (keyOf_int_mk Try.underlying3 HWE.out.1) _ [] (plainElem_bool Try.underlying4 true) ?_)
             intro w6 own6 hgr
             have HM6 := Aside0.mk own6
             have HX6 := Aside0.mk (Kd.R_grown1 HX5.out rfl hgr (fun e => by obtain ⟨cells, hc⟩ := Kd.R_typed HX5.out _ e.symm; obtain ⟨es, cl, hb, _⟩ := HM5.out; rw [hc] at hb; cases hb))
             have HB6 := Aside0.mk (HB5.out.trans (below_of hgr (Nat.le_refl _) HB5.out.size))
             clear own6 hgr))
        go_roundw
        case measure => simp [intOf]; omega
        case rel =>
          refine ⟨k + 1, A5, n5, c5, by omega, by go_num, rfl, ⟨by rw [HTK.out]; exact HX6.out⟩, ⟨by rw [HRS.out]; exact HM6.out⟩, HB6, ⟨fun e he => ?_⟩⟩
          rw [HTK.out] at he
          rcases List.mem_append.1 he with he | he
          · exact HZ.out e he
          · rw [List.mem_singleton.1 he]; exact HP0.out
    · have hkl : k = l.length := by omega
      subst hkl
      rw [List.take_length] at HX HM HZ
      have hnz : ∀ e ∈ l.reverse, e.p ≠ 0 := fun e he => HZ.out e (List.mem_reverse.1 he)
      have hwr : ∀ x ∈ l.reverse, W64 x.p ∧ W64 x.s := fun x hx => HW.out x (List.mem_reverse.1 hx)
      have hrl : l.reverse.length = l.length := List.length_reverse
      have HNN := Aside0.mk (And.intro (fun j q => (add_gk j l.reverse q).1) (fun q => add_go_nn W64 ky ky_lit ky_inj l.reverse q hwr))
      have HUP := Aside0.mk (And.intro (fun j => (add_gk j l.reverse 0).2) (add_go_le l.reverse 0))
      have HLEN := Aside0.mk (show (l.reverse.length : Int) ≤ 100 by omega)
      obtain ⟨es, hes, hap⟩ := DP_tidy l.reverse
      have HPT := Aside0.mk (fun g => parts l.reverse hnz es hes g)
      rw [hes] at HM
      have HAP := Aside0.mk hap
      have HKY := Aside0.mk (show Keyy es by
        obtain ⟨es', e', _, hk'⟩ := HM.out.entries keyInt
        cases e'
        exact hk')
      have HW2 := Aside0.mk (show ∀ e ∈ l, W64 e.p ∧ W64 e.s from HW.out)
      obtain ⟨rfl, _, _⟩ := Kd.R_reads' HX.out
      have HLL := Aside0.mk (show l.length ≤ 1000 by omega)
      have HSA := Aside0.mk (blk_new wr (.cells (acell 0 0 0 0 0 0) 39))
      have hba := below_alloc (Below.refl wr.heap.size wr) (.cells (acell 0 0 0 0 0 0) 39)
      have HX1 := Aside0.mk (Kd.R_below HX.out hba)
      have HM1 := Aside0.mk (HM.out.kept (grown_of hba) (by simp))
      have HB1 := Aside0.mk (HBX.out.trans (below_sub hba HBX.out.size))
      have HGS := Aside0.mk (show w1.heap.size < wr.heap.size from HM.out.lt)
      clear hes hap hwr hnz hba HX HM HBX hrl
      go_upto_region 16 with (fail)
      generalize wr.alloc (.cells (acell 0 0 0 0 0 0) 39) = wo at *
      generalize wr.heap.size = gS at *
      go_wp2_with (first
        | (at_range; refine wpList_range_own _ rfl _ 34 rfl 3 4 keyInt Try.underlying34 (plainElem Try.prog 4) w1.heap.size l.length (.map es) rfl HM1.out ?_; intro w5 hrg0 hg0 hs0)
        | go_in)
      go_frame
      have HRI := Aside0.mk (show gS < wo.heap.size from blk_lt HSA.out)
      have HRL := Aside0.mk (show LL w1 w5 w1.heap.size gS w1.heap.size wo.heap.size l.length (.slice A3 l.length c3) l es (Maps.has (.map es)) (Maps.size (.map es : Dm)) from
        ⟨by rw [show tlf (gk 1) l.reverse es (Maps.has (.map es)) = 0 from tl_start HKY.out, show tlf (gk 2) l.reverse es (Maps.has (.map es)) = 0 from tl_start HKY.out, show tlf (gk 3) l.reverse es (Maps.has (.map es)) = 0 from tl_start HKY.out, show tlf (gk 4) l.reverse es (Maps.has (.map es)) = 0 from tl_start HKY.out, show tlf (gk 5) l.reverse es (Maps.has (.map es)) = 0 from tl_start HKY.out, show tlf go l.reverse es (Maps.has (.map es)) = 0 from tl_start HKY.out]; exact blk_grown HSA.out hg0 (by simp), hrg0, Kd.R_below HX1.out ⟨hg0.os, hg0.tape, hg0.output, hg0.size, fun i hi => hg0.block i hi (by simp)⟩,
          HB1.out.trans ⟨hg0.os, hg0.tape, hg0.output, hg0.size, fun i hi => hg0.block i (Nat.lt_of_lt_of_le hi HB1.out.size) (by simp)⟩⟩)
      clear hrg0 hg0 hs0 HSA HM1 HX1
      go_loopw [8] (fun _ wq => ∃ (left : Lit → Bool) (cnt : Nat), Aside0 (LL w1 wq w1.heap.size gS w1.heap.size wo.heap.size l.length (.slice A3 l.length c3) l es left cnt)) (fun _ wq => wq.rangeLeft w1.heap.size wo.heap.size)
      case atStart => exact ⟨_, _, HRL⟩
      case round =>
        clear HRL
        obtain ⟨left, cnt, HX⟩ := hrel
        go_wp2_with (first
          | (at_next; refine next_ib _ rfl _ rfl w1.heap.size wo.heap.size l.length (.map es) left cnt rfl HX.out.rg ?_ ?_)
          | go_in)
        · intro _ hl0
          have H1 := Aside0.mk HX.out.hg
          rw [show tlf (gk 1) l.reverse es left = add (gk 1) l.reverse 0 from (tl_end hl0).trans (HPT.out _), show tlf (gk 2) l.reverse es left = add (gk 2) l.reverse 0 from (tl_end hl0).trans (HPT.out _), show tlf (gk 3) l.reverse es left = add (gk 3) l.reverse 0 from (tl_end hl0).trans (HPT.out _), show tlf (gk 4) l.reverse es left = add (gk 4) l.reverse 0 from (tl_end hl0).trans (HPT.out _), show tlf (gk 5) l.reverse es left = add (gk 5) l.reverse 0 from (tl_end hl0).trans (HPT.out _), show tlf go l.reverse es left = add go l.reverse 0 from (tl_end hl0).trans (HPT.out _)] at H1
          have HC := Aside0.mk (R_C HX.out.rw_)
          have HBQ := Aside0.mk (HB.out.trans (below_sub HX.out.hb HB.out.size))
          have heq := fun w_ => eq_same w_ (add (gk 1) l.reverse 0) (add (gk 2) l.reverse 0) (add (gk 3) l.reverse 0) (add (gk 4) l.reverse 0) (add (gk 5) l.reverse 0) (add go l.reverse 0)
          clear HX hl0
          have q0 : wr.cell? ⟨gS, 0, none⟩ = some (.int .i64 (add (gk 1) l.reverse 0)) := (blk_cell H1.out 0).trans rfl
          have q1 : wr.cell? ⟨gS, 1, none⟩ = some (.int .i64 (add (gk 2) l.reverse 0)) := (blk_cell H1.out 1).trans rfl
          have q2 : wr.cell? ⟨gS, 2, none⟩ = some (.int .i64 (add (gk 3) l.reverse 0)) := (blk_cell H1.out 2).trans rfl
          have q3 : wr.cell? ⟨gS, 3, none⟩ = some (.int .i64 (add (gk 4) l.reverse 0)) := (blk_cell H1.out 3).trans rfl
          have q4 : wr.cell? ⟨gS, 4, none⟩ = some (.int .i64 (add (gk 5) l.reverse 0)) := (blk_cell H1.out 4).trans rfl
          have q5 : wr.cell? ⟨gS, 5, none⟩ = some (.int .i64 (add go l.reverse 0)) := (blk_cell H1.out 5).trans rfl
          go_upto_region 21 with (fail)
          refine region_seq (fun w_ => Below wr.heap.size wr w_) []
            [(1, some 74, .pure), (0, some 73, .held), (2, some 75, .one), (3, some 76, .pure), (4, some 2, .pure)] (by kernel_rfl) (by kernel_rfl) ?_
          have hS := below_drew (Below.refl wr.heap.size wr)
          repeat (first
            | (refine s_pure (v := ?_) (a' := ?_) rfl (fun _ _ _ h => h) rfl ?hy ?ha ?_; (case hy => (intro w_; go_simp; with_reducible rfl)); (case ha => (simp only [Act.put, List.setIfInBounds_toArray, List.set_cons_zero, List.set_cons_succ, i64_w, i32_w]; rfl)))
            | (refine s_held (v := ?_) (a' := ?_) hS rfl (fun _ _ _ h => h) rfl ?hy ?ha ?_; (case hy => (intro w_ hb_; have s0 := pw_cell_below hb_ q0; have s1 := pw_cell_below hb_ q1; have s2 := pw_cell_below hb_ q2; have s3 := pw_cell_below hb_ q3; have s4 := pw_cell_below hb_ q4; have s5 := pw_cell_below hb_ q5; go_simp; with_reducible rfl)); (case ha => (simp only [Act.put, List.setIfInBounds_toArray, List.set_cons_zero, List.set_cons_succ, i64_w, i32_w]; rfl))))
          refine s_oneL rfl (fun K hK => ?_) rfl
          go_wp2_with (go_at_call 20; (with_reducible refine (count_first A3 _ c3 l 0 _ (Kd.C_below HC.out hS) HW2.out HLL.out).mono ?_); rintro r w7 ⟨rfl, hB⟩)
          have hS2 : Below wr.heap.size wr w7 := hS.trans (below_sub hB hS.size)
          clear hB
          replace hS := hS2
          refine hK _ _ hS2 ?_
          clear hK
          repeat (first
            | (refine s_pure (v := ?_) (a' := ?_) rfl (fun _ _ _ h => h) rfl ?hy ?ha ?_; (case hy => (intro w_; have t0 := heq w_; go_simp; with_reducible rfl)); (case ha => (simp only [Act.put, List.setIfInBounds_toArray, List.set_cons_zero, List.set_cons_succ, i64_w, i32_w]; rfl))))
          refine s_tailL _ (by kernel_rfl) ?_
          simp only [opsAt, List.filterMap_nil]
          have HS2 := Aside0.mk hS2
          clear hS hS2 q0 q1 q2 q3 q4 q5 heq
          go_wp2
          go_ret
          exact ⟨rfl, HBQ.out.trans (below_sub HS2.out HBQ.out.size)⟩
        · intro x cb w6 cnt1 hwx hlx hat hrg1 hlt1 hg1 hs1 hent
          have hmem := entry_of_at HAP.out HKY.out hat
          have HST := Aside0.mk (fun g : Evt → List Evt → Int => tl_step (f := fun k _ => add g l.reverse (kint k)) (left := left) hlx (show WideAt.IsKeyLit (.int .i64 x) by trivial) HAP.out hmem)
          have HRG := Aside0.mk hrg1
          have HLT := Aside0.mk hlt1
          have HOLD := Aside0.mk HX.out.rg.left_eq
          have HG6 := Aside0.mk (blk_grown HX.out.hg hg1 (by have := HRI.out; simp; omega))
          have HRW6 := Aside0.mk (Kd.R_grown1 HX.out.rw_ rfl hg1 (fun e => by
            obtain ⟨cells, hc⟩ := Kd.R_typed HX.out.rw_ _ e.symm
            obtain ⟨es', clock, since, seen, c0, _, _, _, _, hr', _⟩ := HX.out.rg
            rw [hc] at hr'
            cases hr'))
          have HB6 := Aside0.mk (HX.out.hb.trans (below_of hg1 (by have := HRI.out; have := HGS.out; omega) HX.out.hb.size))
          have HT := Aside0.mk (fun g (h0 : ∀ q, 0 ≤ add g l.reverse q) => tlf_bound g l.reverse es left h0)
          have HT2 := Aside0.mk (fun g (h0 : ∀ q, 0 ≤ add g l.reverse q) => tlf_bound g l.reverse es (fun z => left z && !z.sameKey (.int .i64 x)) h0)
          clear hlx hat hrg1 hlt1 hg1 hs1 hmem HX
          go_upto_region 20 with (go_at_call 20; (with_reducible refine (count_first A3 _ c3 l x _ (R_C HRW6.out) HW2.out HLL.out).mono ?_); rintro r w7 ⟨rfl, hB⟩; have HS7 := Aside0.mk hB; clear hB)
          have HA8 := Aside0.mk (blk_new w7 (.cells (acell (add (gk 1) l.reverse x) (add (gk 2) l.reverse x) (add (gk 3) l.reverse x) (add (gk 4) l.reverse x) (add (gk 5) l.reverse x) (add go l.reverse x)) 39))
          have HB8 := Aside0.mk (below_alloc HS7.out (.cells (acell (add (gk 1) l.reverse x) (add (gk 2) l.reverse x) (add (gk 3) l.reverse x) (add (gk 4) l.reverse x) (add (gk 5) l.reverse x) (add go l.reverse x)) 39))
          generalize w7.alloc (.cells (acell (add (gk 1) l.reverse x) (add (gk 2) l.reverse x) (add (gk 3) l.reverse x) (add (gk 4) l.reverse x) (add (gk 5) l.reverse x) (add go l.reverse x)) 39) = w8 at *
          have HG8 := Aside0.mk (blk_below HG6.out HB8.out)
          have HRW8 := Aside0.mk (Kd.R_below HRW6.out HB8.out)
          have HRG8 := Aside0.mk (HRG.out.kept (grown_of HB8.out) (by simp) (by simp))
          have HBB8 := Aside0.mk (HB6.out.trans (below_sub HB8.out HB6.out.size))
          have HSZ := Aside0.mk (show gS < w7.heap.size from Nat.lt_of_lt_of_le (blk_lt HG6.out) HS7.out.size)
          have hw0 : wrap64 (tlf (gk 1) l.reverse es left + add (gk 1) l.reverse x) = tlf (gk 1) l.reverse es left + add (gk 1) l.reverse x := by
            have h1 := (HT.out (gk 1) (HNN.out.1 1)).1
            have h2 := (HT2.out (gk 1) (HNN.out.1 1)).2
            have h3 : tlf (gk 1) l.reverse es (fun z => left z && !z.sameKey (.int .i64 x)) = tlf (gk 1) l.reverse es left + add (gk 1) l.reverse x := HST.out (gk 1)
            have h4 := HPT.out (gk 1)
            have h5 := (HUP.out.1 1)
            have h6 := HLEN.out
            have h7 := (HNN.out.1 1) x
            unfold wrap64; omega
          have p0 : w8.cell? ⟨gS, 0, none⟩ = some (.int .i64 (tlf (gk 1) l.reverse es left)) := (blk_cell HG8.out 0).trans rfl
          have r0 : w8.cell? ⟨w7.heap.size, 0, none⟩ = some (.int .i64 (add (gk 1) l.reverse x)) := (blk_cell HA8.out 0).trans rfl
          have hw1 : wrap64 (tlf (gk 2) l.reverse es left + add (gk 2) l.reverse x) = tlf (gk 2) l.reverse es left + add (gk 2) l.reverse x := by
            have h1 := (HT.out (gk 2) (HNN.out.1 2)).1
            have h2 := (HT2.out (gk 2) (HNN.out.1 2)).2
            have h3 : tlf (gk 2) l.reverse es (fun z => left z && !z.sameKey (.int .i64 x)) = tlf (gk 2) l.reverse es left + add (gk 2) l.reverse x := HST.out (gk 2)
            have h4 := HPT.out (gk 2)
            have h5 := (HUP.out.1 2)
            have h6 := HLEN.out
            have h7 := (HNN.out.1 2) x
            unfold wrap64; omega
          have p1 : w8.cell? ⟨gS, 1, none⟩ = some (.int .i64 (tlf (gk 2) l.reverse es left)) := (blk_cell HG8.out 1).trans rfl
          have r1 : w8.cell? ⟨w7.heap.size, 1, none⟩ = some (.int .i64 (add (gk 2) l.reverse x)) := (blk_cell HA8.out 1).trans rfl
          have hw2 : wrap64 (tlf (gk 3) l.reverse es left + add (gk 3) l.reverse x) = tlf (gk 3) l.reverse es left + add (gk 3) l.reverse x := by
            have h1 := (HT.out (gk 3) (HNN.out.1 3)).1
            have h2 := (HT2.out (gk 3) (HNN.out.1 3)).2
            have h3 : tlf (gk 3) l.reverse es (fun z => left z && !z.sameKey (.int .i64 x)) = tlf (gk 3) l.reverse es left + add (gk 3) l.reverse x := HST.out (gk 3)
            have h4 := HPT.out (gk 3)
            have h5 := (HUP.out.1 3)
            have h6 := HLEN.out
            have h7 := (HNN.out.1 3) x
            unfold wrap64; omega
          have p2 : w8.cell? ⟨gS, 2, none⟩ = some (.int .i64 (tlf (gk 3) l.reverse es left)) := (blk_cell HG8.out 2).trans rfl
          have r2 : w8.cell? ⟨w7.heap.size, 2, none⟩ = some (.int .i64 (add (gk 3) l.reverse x)) := (blk_cell HA8.out 2).trans rfl
          have hw3 : wrap64 (tlf (gk 4) l.reverse es left + add (gk 4) l.reverse x) = tlf (gk 4) l.reverse es left + add (gk 4) l.reverse x := by
            have h1 := (HT.out (gk 4) (HNN.out.1 4)).1
            have h2 := (HT2.out (gk 4) (HNN.out.1 4)).2
            have h3 : tlf (gk 4) l.reverse es (fun z => left z && !z.sameKey (.int .i64 x)) = tlf (gk 4) l.reverse es left + add (gk 4) l.reverse x := HST.out (gk 4)
            have h4 := HPT.out (gk 4)
            have h5 := (HUP.out.1 4)
            have h6 := HLEN.out
            have h7 := (HNN.out.1 4) x
            unfold wrap64; omega
          have p3 : w8.cell? ⟨gS, 3, none⟩ = some (.int .i64 (tlf (gk 4) l.reverse es left)) := (blk_cell HG8.out 3).trans rfl
          have r3 : w8.cell? ⟨w7.heap.size, 3, none⟩ = some (.int .i64 (add (gk 4) l.reverse x)) := (blk_cell HA8.out 3).trans rfl
          have hw4 : wrap64 (tlf (gk 5) l.reverse es left + add (gk 5) l.reverse x) = tlf (gk 5) l.reverse es left + add (gk 5) l.reverse x := by
            have h1 := (HT.out (gk 5) (HNN.out.1 5)).1
            have h2 := (HT2.out (gk 5) (HNN.out.1 5)).2
            have h3 : tlf (gk 5) l.reverse es (fun z => left z && !z.sameKey (.int .i64 x)) = tlf (gk 5) l.reverse es left + add (gk 5) l.reverse x := HST.out (gk 5)
            have h4 := HPT.out (gk 5)
            have h5 := (HUP.out.1 5)
            have h6 := HLEN.out
            have h7 := (HNN.out.1 5) x
            unfold wrap64; omega
          have p4 : w8.cell? ⟨gS, 4, none⟩ = some (.int .i64 (tlf (gk 5) l.reverse es left)) := (blk_cell HG8.out 4).trans rfl
          have r4 : w8.cell? ⟨w7.heap.size, 4, none⟩ = some (.int .i64 (add (gk 5) l.reverse x)) := (blk_cell HA8.out 4).trans rfl
          have hw5 : wrap64 (tlf go l.reverse es left + add go l.reverse x) = tlf go l.reverse es left + add go l.reverse x := by
            have h1 := (HT.out go HNN.out.2).1
            have h2 := (HT2.out go HNN.out.2).2
            have h3 : tlf go l.reverse es (fun z => left z && !z.sameKey (.int .i64 x)) = tlf go l.reverse es left + add go l.reverse x := HST.out go
            have h4 := HPT.out go
            have h5 := HUP.out.2
            have h6 := HLEN.out
            have h7 := HNN.out.2 x
            unfold wrap64; omega
          have p5 : w8.cell? ⟨gS, 5, none⟩ = some (.int .i64 (tlf go l.reverse es left)) := (blk_cell HG8.out 5).trans rfl
          have r5 : w8.cell? ⟨w7.heap.size, 5, none⟩ = some (.int .i64 (add go l.reverse x)) := (blk_cell HA8.out 5).trans rfl
          go_wp2_with (first
            | ((with_reducible refine gate_st 39 7 72 rfl ?_); go_loud (refine acc_put rfl 7 72 rfl gS _ _ _ _ _ _ _ rfl rfl rfl HG8.out ?_); intro w9 hg9 hgr; have HG9 := Aside0.mk hg9; have HRW9 := Aside0.mk (Kd.R_grown1 HRW8.out rfl hgr (Kd.R_ne HRW8.out HG8.out (by decide))); have HRG9 := Aside0.mk (HRG8.out.kept hgr (by have := HGS.out; simp; omega) (by have := HRI.out; simp; omega)); have HB9 := Aside0.mk (HBB8.out.trans (below_of hgr (Nat.le_of_lt HGS.out) HBB8.out.size)); clear hg9 hgr p0 p1 p2 p3 p4 p5 r0 r1 r2 r3 r4 r5; go_frame))
          go_roundw
          case rel =>
            refine ⟨_, cnt1, ⟨⟨?_, HRG9.out, HRW9.out, HB9.out⟩⟩⟩
            rw [show tlf (gk 1) l.reverse es (fun z => left z && !z.sameKey (.int .i64 x)) = tlf (gk 1) l.reverse es left + add (gk 1) l.reverse x from HST.out (gk 1), show tlf (gk 2) l.reverse es (fun z => left z && !z.sameKey (.int .i64 x)) = tlf (gk 2) l.reverse es left + add (gk 2) l.reverse x from HST.out (gk 2), show tlf (gk 3) l.reverse es (fun z => left z && !z.sameKey (.int .i64 x)) = tlf (gk 3) l.reverse es left + add (gk 3) l.reverse x from HST.out (gk 3), show tlf (gk 4) l.reverse es (fun z => left z && !z.sameKey (.int .i64 x)) = tlf (gk 4) l.reverse es left + add (gk 4) l.reverse x from HST.out (gk 4), show tlf (gk 5) l.reverse es (fun z => left z && !z.sameKey (.int .i64 x)) = tlf (gk 5) l.reverse es left + add (gk 5) l.reverse x from HST.out (gk 5), show tlf go l.reverse es (fun z => left z && !z.sameKey (.int .i64 x)) = tlf go l.reverse es left + add go l.reverse x from HST.out go]
            exact HG9.out
          case measure => rw [HRG9.out.left_eq, HOLD.out]; exact HLT.out
end Go.Proofs.Ytkepmbkghmkodaa.Tell
