/- pattern.Match and pattern.Plain: the walks. -/
import Derived.Test.YtkepmbkghmkodaaPatSpread
namespace Go.Proofs.Ytkepmbkghmkodaa.Pat
open Go.RowKit Go.Proofs.YtkepmbkghmkodaaW.PrintWords Go.Proofs.YtkepmbkghmkodaaW.PrintLast Go.Proofs.Ytkepmbkghmkodaa.Base Go.Proofs.Ytkepmbkghmkodaa.P Go.Proofs.Ytkepmbkghmkodaa.Seq
set_option linter.unusedVariables false
set_option linter.unusedSimpArgs false
def step1 (ts : List Th) (l : List Bool) (c : Int) (nx : List Bool) (k : Nat) : List Bool :=
  if (l.getD k false && (ts.getD k default).has c) = true then (if (kindAt ts k == 2) = true then nx.set k true else nx.set (k + 1) true) else nx
def stepN (ts : List Th) (l : List Bool) (c : Int) : Nat → List Bool
  | 0 => List.replicate (ts.length + 1) false
  | k + 1 => step1 ts l c (stepN ts l c k) k
def stepB (ts : List Th) (l : List Bool) (c : Int) : List Bool := spread ts (stepN ts l c ts.length)
def at0 (ts : List Th) : List Bool := spread ts ((List.replicate (ts.length + 1) false).set 0 true)
def runB (ts : List Th) (s : ByteArray) : Nat → List Bool
  | 0 => at0 ts
  | k + 1 => stepB ts (runB ts s k) (bt s k)
def matchB (ts : List Th) (s : ByteArray) : Bool := (runB ts s s.size).getD ts.length false
theorem stepN_len (ts : List Th) (l : List Bool) (c : Int) : ∀ k, (stepN ts l c k).length = ts.length + 1
  | 0 => List.length_replicate
  | k + 1 => by
    unfold stepN step1
    split
    · split
      · rw [List.length_set, stepN_len ts l c k]
      · rw [List.length_set, stepN_len ts l c k]
    · exact stepN_len ts l c k
theorem runB_len (ts : List Th) (s : ByteArray) : ∀ k, (runB ts s k).length = ts.length + 1
  | 0 => by rw [runB, at0, spread_len, List.length_set, List.length_replicate]
  | k + 1 => by rw [runB, stepB, spread_len, stepN_len]
theorem R_own1 {e : Nat} {w : World} {base : Nat} {v : Value} {xs : List Bool} (h : Kd.bool.R e w base ok0 v xs) : Kd.bool.R e w base (fun k => some k = v.ownBlock) v xs := ⟨fun k hk => hk.symm, h.2⟩
theorem R_own0 {e : Nat} {w : World} {base : Nat} {v : Value} {xs : List Bool} {ok : Nat → Prop} (h : Kd.bool.R e w base ok v xs) : Kd.bool.R e w base ok0 v xs := ⟨fun _ _ => trivial, h.2⟩
theorem own_far {k ga gn n c i : Nat} (hk : some k = (Value.slice (some ⟨ga, 0, none⟩) n c).ownBlock) (hne : gn ≠ ga) : k ≠ (⟨gn, i, none⟩ : Addr).block := by
  have e : k = ga := by simpa [Value.ownBlock] using hk
  subst e
  exact fun e => hne e.symm
theorem Sp.far {w1 w : World} {A : Option Addr} {c : Nat} {ts : List Th} {g5 g6 ga cap : Nat} {l : List Bool} (h : Sp w1 w A c ts g5 g6 ga cap l) {gn : Nat} {cells : Array Value} (hn : w.heap[gn]? = some (.cells cells 4 (0, 0))) (hne : gn ≠ ga) (hb : w1.heap.size ≤ gn) (i : Nat) (v : Value) : Sp w1 (w.setCell ⟨gn, i, none⟩ v) A c ts g5 g6 ga cap l :=
  ⟨h.hb.setCell hb _, blk_far h.h5 (blk_ne h.h5 hn (by decide)) _, blk_far h.h6 (blk_ne h.h6 hn (by decide)) _, R_own0 (Kd.R_far (R_own1 h.hR) (fun k hk => own_far hk hne) _), h.hl, h.hg6⟩
/-- .. and the next row. -/
structure Sq (w1 w : World) (A : Option Addr) (c : Nat) (ts : List Th) (g5 g6 ga cap : Nat) (l : List Bool) (gn capn : Nat) (nx : List Bool) : Prop where
  sp : Sp w1 w A c ts g5 g6 ga cap l
  hN : Kd.bool.R 4 w w1.heap.size ok0 (.slice (some ⟨gn, 0, none⟩) nx.length capn) nx
  ne : gn ≠ ga
  hl : nx.length = ts.length + 1
theorem Sq.below {w1 w w2 : World} {A : Option Addr} {c : Nat} {ts : List Th} {g5 g6 ga cap gn capn : Nat} {l nx : List Bool} (h : Sq w1 w A c ts g5 g6 ga cap l gn capn nx) (hb : Below w.heap.size w w2) : Sq w1 w2 A c ts g5 g6 ga cap l gn capn nx :=
  ⟨h.sp.below hb, Kd.R_below h.hN hb, h.ne, h.hl⟩
theorem Sq.gn_lt {w1 w : World} {A : Option Addr} {c : Nat} {ts : List Th} {g5 g6 ga cap gn capn : Nat} {l nx : List Bool} (h : Sq w1 w A c ts g5 g6 ga cap l gn capn nx) : w1.heap.size ≤ gn ∧ ∃ cells, w.heap[gn]? = some (.cells cells 4 (0, 0)) := by
  obtain ⟨g, cp, e, hg, _, hc⟩ := Kd.R_form h.hN (by rw [h.hl]; omega)
  injection e with e1 _ _
  injection e1 with e1
  injection e1 with e1
  subst e1
  exact ⟨hg, hc⟩
theorem Sq.set {w1 w : World} {A : Option Addr} {c : Nat} {ts : List Th} {g5 g6 ga cap gn capn : Nat} {l nx : List Bool} (h : Sq w1 w A c ts g5 g6 ga cap l gn capn nx) (i : Nat) (b : Bool) : Sq w1 (w.setCell ⟨gn, i, none⟩ (.bool b)) A c ts g5 g6 ga cap l gn capn (nx.set i b) := by
  obtain ⟨hg, cells, hc⟩ := h.gn_lt
  have hp := (Kd.R_putg h.hN (i : Int) b).1
  rw [Int.toNat_natCast] at hp
  exact ⟨h.sp.far hc h.ne hg i _, by rw [List.length_set]; exact hp, h.ne, by rw [List.length_set]; exact h.hl⟩
theorem below_of_none {w w1 : World} (h : w.grownBy w1 none) : Below w.heap.size w w1 := ⟨h.os, h.tape, h.output, h.size, fun i hi => h.block i hi (by simp)⟩
theorem Sq.next {w1 w : World} {A : Option Addr} {c : Nat} {ts : List Th} {g5 g6 ga cap gn capn : Nat} {l nx : List Bool} (h : Sq w1 w A c ts g5 g6 ga cap l gn capn nx) : Sp w1 (w.setCell ⟨g6, 0, none⟩ (.slice (some ⟨gn, 0, none⟩) nx.length capn)) A c ts g5 g6 gn capn nx := by
  obtain ⟨hg, cells, hc⟩ := h.gn_lt
  exact ⟨h.sp.hb.setCell h.sp.hg6 _, blk_far h.sp.h5 (blk_ne h.sp.h5 h.sp.h6 (by decide)) _, blk_put h.sp.h6 0 _ rfl, Kd.R_set h.hN h.sp.h6 (by decide) _ _, h.hl, h.sp.hg6⟩
theorem info_b : (Try.prog.info? 4).map (fun i => (i.zero, i.size, i.bytes)) = some (some (.bool false), 1, 1) := by kernel_rfl
section
variable {ops : Array Oper} {rest : List Oper} {o : Oper} {a : Act} {Q : Exit → Act → World → Prop}
/-- make([]bool, n + 1). -/
theorem mk_bools {w1 W : World} (hgd : o.guard = none) {N : Tmp} (hd : o.dst = some N) (x y : Operand) (ho : o.op = .makeSlice 49 x y) (m : Nat) (hx : a.eval x = .int .i64 (m : Int)) (hy : a.eval y = .int .i64 (m : Int)) (hm : m ≤ 100000000) (hp : 0 < m) (hB : Below w1.heap.size w1 W)
    (h : ∀ gn capn w2, Kd.bool.R 4 w2 w1.heap.size ok0 (.slice (some ⟨gn, 0, none⟩) m capn) (List.replicate m false) → Below W.heap.size W w2 → W.heap.size ≤ gn → wpList Try.prog ops Q rest (a.put o.dst (.slice (some ⟨gn, 0, none⟩) m capn)) w2) : wpList Try.prog ops Q (o :: rest) a W := by
  refine Kd.R_make Kd.bool (w0 := w1) w1.heap.size 4 hgd hd 49 x y ho (m : Int) hx hy Try.underlying49 (.bool false) 1 info_b rfl (by decide) (by decide) false (ok := ok0) (okp := fun _ => False) rfl (fun _ h => h.elim) trivial (by omega) (by omega) hB hB.size ?_
  intro v1 w2 hR hB2 hG hat
  rw [Int.toNat_natCast] at hR
  obtain ⟨g, cp, e, hg, _, hc⟩ := Kd.R_form hR (by simp; omega)
  rw [List.length_replicate] at e
  subst e
  obtain ⟨b, hb, hle⟩ := hat
  have hgb : b = g := by simpa [Value.ownBlock] using hb.symm
  subst hgb
  exact h b cp w2 hR (below_of_none hG) hle
end
theorem exec_load_th {o : Oper} {a : Act} {w : World} {v : Value} {q : Addr} (p : Tmp) (ho : o.op = .load 134 (.tmp p)) (hx : a.eval (.tmp p) = .pointer (some q)) (h : (loadVar 134 q).run Try.prog w = .ok v w) : (execOp a.eval o).run Try.prog w = .ok (.value v) w := by
  unfold execOp
  simp only [ho, hx, Instr.loadAt, Instr.sureAddr, Sem.run_bind, Sem.run_pure, Result.andThen_ok, h]
set_option maxHeartbeats 8000000 in
set_option maxRecDepth 100000 in
theorem match_body (A0 : Option Addr) (c0 : Nat) (l : List S26) (s : ByteArray) (L : List Ch) (kk : Nat) (hL : pattern_chars.f kk l = some L) (w : World) (hr : Kd.C k26 w A0 l.length l) (hc : l.length ≤ c0) (hl : L.length ≤ 1000000) (hb : ∀ x ∈ L, 0 ≤ x.f0 ∧ x.f0 ≤ 255) (hs : s.size ≤ 1000000) (ts : List Th) (hts : thingsL L = ts) (hn : ts.length ≤ 1000000) :
    Calls Try.prog 45 #[.slice A0 l.length c0, .string s] w fun e w' => e = .returned (.bool (matchB ts s)) ∧ Below w.heap.size w w' := by
  have HR := Aside0.mk hr
  have HC := Aside0.mk hc
  have HL := Aside0.mk hL
  have HBY := Aside0.mk hb
  have HM : Aside0 (matchB ts s = (runB ts s s.size).getD ts.length false) := ⟨rfl⟩
  have HTS := Aside0.mk hts
  clear hts
  clear hr hc hL hb
  go_enter Try.func45, Try.ntmps45
  go_upto_region 2 with (first
    | (go_at_call 93; (with_reducible refine (things_body A0 c0 l L kk HL.out _ HR.out HC.out hl HBY.out).mono ?_); intro e w1 hp; obtain ⟨v, rfl, hR, hB⟩ := hp; rw [HTS.out] at hR; obtain ⟨A, c, rfl, hlc, hC⟩ := Kd.R_reads hR; have HT := Aside0.mk hC; have HB := Aside0.mk hB; clear hB hR hC HR HL HC))
  clear HBY
  generalize hwb : w1.alloc (.cells #[.slice A ts.length c] 130) = wb
  have h5 : wb.heap[w1.heap.size]? = some (.cells #[.slice A ts.length c] 130 (0, 0)) := by rw [← hwb]; exact blk_new _ _
  have hbb : Below w1.heap.size w1 wb := by rw [← hwb]; exact below_alloc (Below.refl _ _) _
  have H5 := Aside0.mk h5
  have HBB := Aside0.mk hbb
  have c5 : wb.cell? ⟨w1.heap.size, 0, none⟩ = some (.slice A ts.length c) := (blk_cell h5 0).trans rfl
  clear hwb h5 hbb
  go_upto_region 3 with (first
    | ((with_reducible refine gate_dst (N := 17) rfl ?_); refine mk_bools (w1 := w1) (N := 17) rfl rfl (.tmp 16) (.tmp 16) rfl (ts.length + 1) rfl rfl (by omega) (by omega) HBB.out ?_; intro ga cap w2 hR hB hga; have HRA := Aside0.mk hR; have n0 := Aside0.mk (blk_below H5.out hB); have n1 := Aside0.mk (below_trans HBB.out (below_sub hB HBB.out.size)); have HGA := Aside0.mk hga; clear H5 HBB c5 hB hR hga; have H5 := n0; have HBB := n1; clear n0 n1))
  have hsp : Sp w1 (w2.alloc (.cells #[.slice (some ⟨ga, 0, none⟩) (ts.length + 1) cap] 49)) A c ts w1.heap.size w2.heap.size ga cap (List.replicate (ts.length + 1) false) :=
    ⟨below_alloc HBB.out _, blk_alloc H5.out _, by rw [List.length_replicate]; exact blk_new _ _, by rw [List.length_replicate]; exact Kd.R_below HRA.out (below_alloc (Below.refl _ _) _), List.length_replicate, HBB.out.size⟩
  generalize w2.alloc (.cells #[.slice (some ⟨ga, 0, none⟩) (ts.length + 1) cap] 49) = w3 at *
  have HS0 := Aside0.mk hsp
  have HS1 := Aside0.mk (hsp.set 0 true)
  have c6 : w3.cell? ⟨w2.heap.size, 0, none⟩ = some (.slice (some ⟨ga, 0, none⟩) (ts.length + 1) cap) := by rw [blk_cell hsp.h6, List.length_replicate]; rfl
  obtain ⟨ca, fa⟩ := Kd.R_celln false hsp.hR 0 (by omega) (by rw [List.length_replicate]; omega)
  have hd0 : decide ((0 : Int) < (ts.length : Int) + 1) = true := decide_eq_true (by omega)
  rw [show (0 : Int).toNat = 0 from rfl] at ca fa
  clear hsp H5 HBB HRA
  go_upto_region 5 with (fail)
  generalize w3.setCell ⟨ga, 0, none⟩ (.bool true) = w4 at *
  clear c6 ca fa hd0 HS0
  go_wp2_with (first
    | (go_at_call 94; (with_reducible refine (spread_any w1 A c ts w1.heap.size w2.heap.size ga cap _ w4 HT.out HS1.out hn).mono ?_); rintro e w5 ⟨rfl, hS⟩; have HS := Aside0.mk hS; clear hS HS1))
  go_loopw [25] (fun v25 wr => ∃ (i : Nat) (ga cap : Nat), i ≤ s.size ∧ v25 = .int .i64 i ∧ Aside0 (Sp w1 wr A c ts w1.heap.size w2.heap.size ga cap (runB ts s i))) (fun v25 _ => s.size - (intOf v25).toNat)
  case atStart => exact ⟨0, ga, cap, Nat.zero_le _, rfl, HS⟩
  case round =>
    clear HS HGA
    obtain ⟨i, ga, cap, hi, rfl, HS⟩ := hrel
    have hql := runB_len ts s i
    have HRU : Aside0 (runB ts s (i + 1) = stepB ts (runB ts s i) (bt s i)) := ⟨rfl⟩
    by_cases hlt : i < s.size
    · have hbt := bt_nat s i
      have hb0 := bt_range s i
      obtain ⟨q, hq⟩ : ∃ q, runB ts s i = q := ⟨_, rfl⟩
      rw [hq] at HS HRU hql
      clear hq
      obtain ⟨ch, hch⟩ : ∃ ch, bt s i = ch := ⟨_, rfl⟩
      rw [hch] at hbt HRU hb0
      obtain ⟨hb0, hb1⟩ := hb0
      clear hch
      have hi0 : decide (0 ≤ (i : Int)) = true := decide_eq_true (by omega)
      have hi1 : decide ((i : Int) < (s.size : Int)) = true := decide_eq_true (by omega)
      have c5 : wr.cell? ⟨w1.heap.size, 0, none⟩ = some (.slice A ts.length c) := (blk_cell HS.out.h5 0).trans rfl
      have HSTEP : Aside0 (stepN ts q ch 0 = List.replicate (ts.length + 1) false) := ⟨rfl⟩
      go_upto_block 2 with (first
        | ((with_reducible refine gate_dst (N := 31) rfl ?_); refine mk_bools (w1 := w1) (N := 31) rfl rfl (.tmp 30) (.tmp 30) rfl (ts.length + 1) rfl rfl (by omega) (by omega) HS.out.hb ?_; intro gn capn wn hR hB hga
           have HSQ : Aside0 (Sq w1 wn A c ts w1.heap.size w2.heap.size ga cap q gn capn (stepN ts q ch 0)) := ⟨⟨HS.out.below hB, by rw [HSTEP.out, List.length_replicate]; exact hR, by obtain ⟨_, cl, hcl⟩ := HS.out.ga_lt; have := blk_lt hcl; omega, by rw [HSTEP.out]; exact List.length_replicate⟩⟩
           have n0 : wn.cell? ⟨w1.heap.size, 0, none⟩ = some (.slice A ts.length c) := pw_cell_below hB c5
           clear c5 hR hB hga HS HSTEP
           have c5 := n0
           clear n0))
      clear hi0 hi1
      go_wp2
      go_loopw [34] (fun v34 wq => ∃ k : Nat, k ≤ ts.length ∧ v34 = .int .i64 k ∧ Aside0 (Sq w1 wq A c ts w1.heap.size w2.heap.size ga cap q gn capn (stepN ts q ch k))) (fun v34 _ => ts.length - (intOf v34).toNat)
      case atStart => exact ⟨0, Nat.zero_le _, rfl, HSQ⟩
      case round =>
        clear HSQ c5
        rename_i wr0 _ _
        obtain ⟨k, hk, rfl, HSQ⟩ := hrel
        have HNX : Aside0 (stepN ts q ch (k + 1) = step1 ts q ch (stepN ts q ch k) k) := ⟨rfl⟩
        by_cases hkl : k < ts.length
        · obtain ⟨nx, hnx⟩ : ∃ nx, stepN ts q ch k = nx := ⟨_, rfl⟩
          rw [hnx] at HSQ HNX
          clear hnx
          have hnl := HSQ.out.hl
          obtain ⟨ad, rfl, hX, hc⟩ := at_th HT.out k hkl
          have HCC := Aside0.mk (cells_below hc HSQ.out.sp.hb)
          have HX := Aside0.mk hX
          have HK := Aside0.mk (kindAt_lt hkl)
          have HD : Aside0 (ts.getD k default = ts[k]) := ⟨by simp [List.getD_eq_getElem?_getD, List.getElem?_eq_getElem hkl]⟩
          have hi0 : decide (0 ≤ (k : Int)) = true := decide_eq_true (by omega)
          have hi1 : decide ((k : Int) < (ts.length : Int)) = true := decide_eq_true (by omega)
          generalize ts[k] = X at *
          clear hc hX
          go_upto_region 13 with (first
            | ((with_reducible refine gate_dst (N := 38) rfl ?_); refine th_loadAt rfl 37 rfl _ X HX.out rfl HCC.out ?_)
            | ((with_reducible refine gate_store 11 38 rfl ?_); refine th_new rfl 11 38 rfl _ X HX.out rfl rfl rfl ?_; intro wb hg hbx; have HG := Aside0.mk hg; have n0 := Aside0.mk (HSQ.out.below hbx); clear hg hbx HSQ; have HSQ := n0; clear n0))
          have c6 : wb.cell? ⟨w2.heap.size, 0, none⟩ = some (.slice (some ⟨ga, 0, none⟩) (ts.length + 1) cap) := by rw [blk_cell HSQ.out.sp.h6, hql]; rfl
          have ck := (blk_cell HG.out 0).trans (arr0 X)
          obtain ⟨ca, fa⟩ := Kd.R_celln false HSQ.out.sp.hR (k : Int) (by omega) (by omega)
          rw [Int.toNat_natCast] at ca fa
          have hrd : rdOf false q (k : Int) = q.getD k false := by simp [rdOf]
          rw [hrd] at ca
          obtain ⟨b, hb⟩ : ∃ b, q.getD k false = b := ⟨_, rfl⟩
          rw [hb] at ca
          have HBB := Aside0.mk hb
          clear hrd hb
          have hi3 : decide ((k : Int) < (ts.length : Int) + 1) = true := decide_eq_true (by omega)
          (try simp only [Act.put])
          cases b with
          | false =>
            go_quiet (fail)
            have n0 := Aside0.mk (HSQ.out.below (show Below wb.heap.size wb (wb.drewN nq) from pw_below_drewN (Below.refl _ _) nq))
            clear HSQ ca fa c6 ck
            have HSQ := n0
            clear n0
            generalize wb.drewN nq = wd at *
            go_wp2
            go_roundw
            case measure => simp [intOf]; omega
            case rel => exact ⟨k + 1, by omega, by go_num, by rw [HNX.out]; unfold step1; rw [HBB.out]; exact HSQ⟩
          | true =>
            have HLD : ∀ W, Below wb.heap.size wb W → (loadVar 134 ⟨wr.heap.size, 0, none⟩).run Try.prog W = .ok (.agg X.arr) W := fun W hW => run_load_th W _ X HX.out (fun j u hu => by
              rw [add_plain, blk_cell (blk_below HG.out hW)]
              exact (List.getElem?_toArray).trans hu)
            refine region_seq (fun w_ => Below wb.heap.size wb w_) [10, 11, 12]
              [(1, some 40, .pure), (0, some 39, .held), (2, some 41, .pure), (3, some 42, .held), (4, some 43, .pure), (5, some 44, .pure), (7, some 46, .pure), (8, some 47, .pure), (9, some 48, .pure), (6, some 45, .held), (10, some 49, .last), (11, some 50, .last), (12, some 51, .last)] (by kernel_rfl) (by kernel_rfl) ?_
            have hS := below_drew (Below.refl wb.heap.size wb)
            have hp0 : (0 : Int) ≤ (k : Int) := by omega
            have hp1 : (k : Int) < (ts.length : Int) + 1 := by omega
            have hp2 : (0 : Int) ≤ (i : Int) := by omega
            have hp3 : (i : Int) < (s.size : Int) := by omega
            repeat (first
              | (refine s_pure (v := ?_) (a' := ?_) rfl (fun _ _ _ h => h) rfl ?hy ?ha ?_; (case hy => (intro w_; go_simp; with_reducible rfl)); (case ha => (simp only [Act.put, List.setIfInBounds_toArray, List.set_cons_zero, List.set_cons_succ, i64_w, i32_w]; rfl)))
              | (refine s_held (v := ?_) (a' := ?_) hS rfl (fun _ _ _ h => h) rfl ?hy ?ha ?_; (case hy => (intro w_ hb_; have s0 := pw_cell_below hb_ c6; have s1 := pw_cell_below hb_ ca; go_simp; with_reducible rfl)); (case ha => (simp only [Act.put, List.setIfInBounds_toArray, List.set_cons_zero, List.set_cons_succ, i64_w, i32_w]; rfl))))
            (refine s_held (v := .agg X.arr) (a' := ?_) hS rfl (fun _ _ _ h => h) rfl ?hy ?ha ?_; (case hy => (intro w_ hb_; exact exec_load_th 11 rfl rfl (HLD w_ hb_))); (case ha => (simp only [Act.put, List.setIfInBounds_toArray, List.set_cons_zero, List.set_cons_succ, i64_w, i32_w]; rfl)))
            refine s_tail 10 _ (by kernel_rfl) ?_
            simp only [List.drop_succ_cons, List.drop_zero]
            obtain ⟨bh, hbh⟩ : ∃ bh, X.has ch = bh := ⟨_, rfl⟩
            have HBH := Aside0.mk hbh
            clear hbh HLD hbt
            have hSS := Aside0.mk hS
            clear hS
            have n0 := Aside0.mk (HSQ.out.below hSS.out)
            have n1 := Aside0.mk (blk_below HG.out hSS.out)
            clear HSQ HG c6 ck ca fa hSS
            have HSQ := n0
            have HG := n1
            clear n0 n1
            have hp4 : (k : Int) + 1 < (ts.length : Int) + 1 := by omega
            have hi4 : decide ((k : Int) + 1 < (ts.length : Int) + 1) = true := decide_eq_true hp4
            have hi5 : decide (0 ≤ (k : Int) + 1) = true := decide_eq_true (by omega)
            have hch : ch < 256 := by omega
            have HW : Aside0 (nx.length = ts.length + 1) := ⟨hnl⟩
            cases bh with
            | false =>
              go_wp2_with (first
                | (go_at_call 95; (with_reducible refine (has_any X HX.out ch hb0 hch _).mono ?_); rintro e w6 ⟨rfl, hB⟩; rw [HBH.out]; have n0 := Aside0.mk (HSQ.out.below hB); clear hB HSQ HG; have HSQ := n0; clear n0))
              go_roundw
              case measure => simp [intOf]; omega
              case rel => exact ⟨k + 1, by omega, by go_num, by rw [HNX.out]; unfold step1; rw [HBB.out, HD.out, HBH.out]; exact HSQ⟩
            | true =>
              by_cases h2 : X.kind = 2
              · have e2 : (X.kind == 2) = true := beq_iff_eq.2 h2
                have HE := Aside0.mk h2
                clear h2
                go_wp2_with (first
                  | (go_at_call 95; (with_reducible refine (has_any X HX.out ch hb0 hch _).mono ?_); rintro e w6 ⟨rfl, hB⟩; rw [HBH.out]; have n0 := Aside0.mk (HSQ.out.below hB); have ck := (blk_cell (blk_below HG.out hB) 0).trans (arr0 X); clear hB HSQ HG; have HSQ := n0; clear n0
                     obtain ⟨cn, fn_⟩ := Kd.R_celln false HSQ.out.hN (k : Int) (by omega) (by omega); rw [Int.toNat_natCast] at cn fn_))
                go_roundw
                case measure => simp [intOf]; omega
                case rel => exact ⟨k + 1, by omega, by go_num, by rw [HNX.out]; unfold step1; rw [HBB.out, HD.out, HBH.out, HK.out, HE.out]; exact ⟨HSQ.out.set k true⟩⟩
              · have e2 : (X.kind == 2) = false := beq_eq_false_iff_ne.2 h2
                have HE := Aside0.mk e2
                clear h2
                go_wp2_with (first
                  | (go_at_call 95; (with_reducible refine (has_any X HX.out ch hb0 hch _).mono ?_); rintro e w6 ⟨rfl, hB⟩; rw [HBH.out]; have n0 := Aside0.mk (HSQ.out.below hB); have ck := (blk_cell (blk_below HG.out hB) 0).trans (arr0 X); clear hB HSQ HG; have HSQ := n0; clear n0
                     obtain ⟨cn, fn_⟩ := Kd.R_celln false HSQ.out.hN ((k + 1 : Nat) : Int) (by omega) (by omega); rw [Int.toNat_natCast] at cn fn_))
                go_roundw
                case measure => simp [intOf]; omega
                case rel => exact ⟨k + 1, by omega, by go_num, by rw [HNX.out]; unfold step1; rw [HBB.out, HD.out, HBH.out, HK.out, HE.out]; exact ⟨HSQ.out.set (k + 1) true⟩⟩
        · have hge : decide ((k : Int) < (ts.length : Int)) = false := decide_eq_false (by omega)
          obtain rfl : k = ts.length := by omega
          have f6 := blk_frozen HSQ.out.sp.h6 0
          have c6 := blk_cell HSQ.out.sp.h6 0
          have c6' := c6.trans rfl
          clear c6
          have HN1 := Aside0.mk HSQ.out.next
          rw [stepN_len] at HN1
          go_upto_region 19 with (fail)
          have HSTB : Aside0 (stepB ts q ch = spread ts (stepN ts q ch ts.length)) := ⟨rfl⟩
          generalize wr.setCell ⟨w2.heap.size, 0, none⟩ (.slice (some ⟨gn, 0, none⟩) (ts.length + 1) capn) = ww at *
          clear c6' f6 HSQ
          go_wp2_with (first
            | (go_at_call 94; (with_reducible refine (spread_any w1 A c ts w1.heap.size w2.heap.size gn capn _ ww HT.out HN1.out hn).mono ?_); rintro e w5 ⟨rfl, hS⟩; have HS := Aside0.mk hS; clear hS HN1))
          go_roundw
          case measure => simp [intOf]; omega
          case rel => exact ⟨i + 1, gn, capn, by omega, by go_num, by rw [HRU.out, HSTB.out]; exact HS⟩
    · have hge : decide ((i : Int) < (s.size : Int)) = false := decide_eq_false (by omega)
      obtain rfl : i = s.size := by omega
      have c5 : wr.cell? ⟨w1.heap.size, 0, none⟩ = some (.slice A ts.length c) := (blk_cell HS.out.h5 0).trans rfl
      have c6 : wr.cell? ⟨w2.heap.size, 0, none⟩ = some (.slice (some ⟨ga, 0, none⟩) (ts.length + 1) cap) := by rw [blk_cell HS.out.h6, hql]; rfl
      obtain ⟨ca, fa⟩ := Kd.R_celln false HS.out.hR (ts.length : Int) (by omega) (by omega)
      rw [Int.toNat_natCast] at ca fa
      have hrd : rdOf false (runB ts s s.size) (ts.length : Int) = (runB ts s s.size).getD ts.length false := by simp [rdOf]
      rw [hrd, ← HM.out] at ca
      have hi0 : decide (0 ≤ (ts.length : Int)) = true := decide_eq_true (by omega)
      have hi1 : decide ((ts.length : Int) < (ts.length : Int) + 1) = true := decide_eq_true (by omega)
      clear hrd HRU hql
      generalize runB ts s s.size = q at *
      obtain ⟨b, hb⟩ : ∃ b, matchB ts s = b := ⟨_, rfl⟩
      rw [hb] at ca
      have HMB := Aside0.mk hb
      clear hb
      go_wp2
      go_ret
      exact ⟨by rw [HMB.out]; rfl, below_trans HB.out (below_sub HS.out.hb HB.out.size)⟩
end Go.Proofs.Ytkepmbkghmkodaa.Pat
