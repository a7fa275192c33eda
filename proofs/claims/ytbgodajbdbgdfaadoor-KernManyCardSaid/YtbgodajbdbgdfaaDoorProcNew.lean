/- kern: New, Child, Reap: their contracts. -/
import Derived.Test.YtbgodajbdbgdfaaDoorProcSend
import Derived.Test.YtbgodajbdbgdfaaDoorSigList
namespace Go.Proofs.YtbgodajbdbgdfaaDoor.Kern
open Go.RowKit Go.Proofs.YtbgodajbdbgdfaaDoorW.PrintWords Go.Proofs.YtbgodajbdbgdfaaDoorW.PrintLast Go.Proofs.YtbgodajbdbgdfaaDoor.Sig Go.Proofs.YtbgodajbdbgdfaaDoor.Base Go.Proofs.YtbgodajbdbgdfaaDoor.Seq Go.Maps
set_option linter.unusedVariables false
set_option linter.unusedSimpArgs false
section
variable {ops : Array Oper} {rest : List Oper} {o : Oper} {a : Act} {Q : Exit → Act → World → Prop}
theorem gate_ins {W : World} (m x : Nat) (k : Value) (ho : o.op = .insert 68 (.tmp m) (.const k) (.tmp x)) (h : wpList Tryd.prog ops Q (o :: rest) a W) : wpList Tryd.prog ops Q (o :: rest) a W := h
/-- An entry of a literal. -/
theorem insert_own (w : World) (hg : o.guard = none) (m x v : Operand) (t : TypeId) (hop : o.op = Op.insert t m x v)
    (k e : TypeId) (K : Keyed Tryd.prog k) (ht : (Tryd.prog).underlying t = some (.map k e)) (R : Value → Option (Dm × List MemPlace)) (b n : Nat) (D : Dm)
    (hm : a.eval m = .map (some b)) (hown : w.ownsMap Tryd.prog k R b n D) (hn : n < maxLen) (key val : Value) (kl : Lit) (hx : a.eval x = key) (hv : a.eval v = val) (hkey : keyOf Tryd.prog k key = some kl)
    (d : Dm) (ps : List MemPlace) (hval : R val = some (d, ps))
    (hK : ∀ w', w'.ownsMap Tryd.prog k R b (n + 1) (D.put kl d) → w.grownBy w' (some b) → wpList Tryd.prog ops Q rest (a.put o.dst undef) w') :
    wpList Tryd.prog ops Q (o :: rest) a w := by
  refine wpList_plain hg fun K' hK' => ?_
  obtain ⟨w', hrun, r1, r2⟩ := hown.update K ht hn hkey hval
  unfold Oper.wp
  simp [execOp, hop, hm, hx, hv, hrun, Result.andThen]
  exact hK' _ _ (hK w' r1 r2)
end
def nf (s : Int) : Bool := !fx s
theorem flt_succ (L : List Int) (k : Nat) (h : k < L.length) : ofL 0 ((L.take (k + 1)).filter nf) = if fx L[k] = true then ofL 0 ((L.take k).filter nf) else wth (ofL 0 ((L.take k).filter nf)) L[k] := by
  rw [List.take_succ_eq_append_getElem h, List.filter_append, ofL_append]
  unfold nf
  cases hf : fx L[k] with
  | true => rw [List.filter_cons_of_neg (by rw [hf]; decide), if_pos rfl]; rfl
  | false => rw [List.filter_cons_of_pos (by rw [hf]; decide), if_neg (by decide)]; rfl
abbrev p0 (y : Nat) : Pr := ⟨0, true, 0, y, 0, 0⟩
def one (y : Nat) : Tb := fun q => if q = 1 then some (p0 y) else none
theorem tv_one {w : World} {base g m p : Nat} {y : Nat} (hy : y < 4294967296) (hg : w.heap[g]? = some (.cells #[.map (some m), .int .i64 1, .slice none 0 0] 70 (0, 0))) (hb : base ≤ g) (hm : base ≤ m) (hp : base ≤ p) (hown : w.ownsMap Tryd.prog 3 Rp m 1 ((DataW.map []).put (.int .i64 1) (.lit (.int .i64 (p : Int))))) (hpb : w.heap[p]? = some (.cells (pcell (p0 y)) 65 (0, 0))) :
    TV w base g m 1 ((DataW.map []).put (.int .i64 1) (.lit (.int .i64 (p : Int)))) (fun _ => p) (.slice none 0 0) (one y) 1 [] where
  hg := hg
  bg := hb
  bm := hm
  own := hown
  cnt := by decide
  lmt := by decide
  top := fun q hq => by
    unfold one at hq
    by_cases e : q = 1
    · subst e; exact ⟨by decide, by decide⟩
    · rw [if_neg e] at hq; exact absurd rfl hq
  no := fun q hq => by
    unfold one at hq
    have e : q ≠ 1 := by rintro rfl; rw [if_pos rfl] at hq; cases hq
    rw [has_put_other (by simp only [ne_eq, Lit.int.injEq, not_and]; exact fun _ => e)]
    rfl
  yes := fun q r hq => by
    unfold one at hq
    by_cases e : q = 1
    · subst e
      rw [if_pos rfl] at hq
      cases hq
      exact ⟨fun z => atKey_put_same isMap_empty (by trivial) _ _, hp, hpb, ⟨Int.le_refl 0, by show (0 : Int) < 1; decide⟩, hy, by show (0 : Nat) < 4294967296; decide, by show (0 : Nat) < 4294967296; decide⟩
    · rw [if_neg e] at hq; cases hq
  inj := fun q q' hq hq' _ => by
    unfold one at hq hq'
    have e : q = 1 := by
      by_cases e : q = 1
      · exact e
      · rw [if_neg e] at hq; exact absurd rfl hq
    have e' : q' = 1 := by
      by_cases e : q' = 1
      · exact e
      · rw [if_neg e] at hq'; exact absurd rfl hq'
    rw [e, e']
  row := Kd.R_nil _ _ _ _ _
set_option maxHeartbeats 4000000 in
set_option maxRecDepth 100000 in
theorem new_any (x : Nat) (w : World) (hx : x < 4294967296) (ht : TabB w) :
    Calls Tryd.prog 6 #[.int .u32 (x : Int)] w fun e w' => ∃ g, e = .returned (.pointer (some ⟨g, 0, none⟩)) ∧ TW w' w.heap.size g (one (flt x)) 1 [] ∧ Below w.heap.size w w' := by
  have hmm := @run_makeMap Tryd.prog
  have HX := Aside0.mk hx
  have HP1 := Aside0.mk (blk_new w (.cells (pcell (p0 0)) 65))
  have HB1 := Aside0.mk (below_alloc (Below.refl w.heap.size w) (.cells (pcell (p0 0)) 65))
  have HT1 := Aside0.mk (tabB_below ht HB1.out)
  clear ht hx
  go_enter Tryd.func6, Tryd.ntmps6
  go_upto_region 2 with (fail)
  generalize w.alloc (.cells (pcell (p0 0)) 65) = w1 at *
  go_wp2_with (go_at_call 32; (with_reducible refine (list_any x _ HX.out HT1.out).mono ?_); rintro e w2 ⟨A5, n5, c5, rfl, hR, hB⟩; have HR := Aside0.mk hR; have HP2 := Aside0.mk (blk_below HP1.out hB); have HB2 := Aside0.mk (HB1.out.trans (below_sub hB HB1.out.size)); clear hR hB)
  have HFL := Aside0.mk (show flt x = ofL 0 ((lst (x &&& allN)).filter nf) from rfl)
  have HLL := Aside0.mk (show (lst (x &&& allN)).length ≤ 4294967296 by have h1 := lst_len (x &&& allN); have h2 := all_lt (x := x); omega)
  generalize lst (x &&& allN) = L at *
  obtain ⟨rfl, _, _⟩ := Kd.R_reads' HR.out
  clear HP1 HB1 HT1
  go_loopw [11] (fun v11 wr => ∃ k : Nat, k ≤ L.length ∧ v11 = .int .i64 (k : Int) ∧ Aside0 ((Kd.int .i64).R 3 wr w1.heap.size ok0 (.slice A5 L.length c5) L) ∧ Aside0 (wr.heap[w.heap.size]? = some (.cells (pcell (p0 (ofL 0 ((L.take k).filter nf)))) 65 (0, 0))) ∧ Aside0 (Below w.heap.size w wr)) (fun v11 _ => L.length - (intOf v11).toNat)
  case atStart => exact ⟨0, Nat.zero_le _, rfl, HR, HP2, HB2⟩
  case round =>
    clear HR HP2 HB2
    obtain ⟨k, hk, rfl, HR, HP, HB⟩ := hrel
    have hll := HLL.out
    by_cases hlt : k < L.length
    · obtain ⟨ad, rfl, hc⟩ := at_i64 (R_C HR.out) k hlt
      have HS := Aside0.mk (flt_succ L k hlt)
      have HY := Aside0.mk (ofL_lt ((L.take k).filter nf) 0 (by decide))
      generalize ofL 0 ((L.take k).filter nf) = y at *
      generalize L[k] = s at *
      have hi0 : (0 : Int) ≤ (k : Int) := by omega
      have hi1 : (k : Int) < (L.length : Int) := by omega
      cases hf : fx s with
      | true =>
        have HFX := Aside0.mk (show fixed s = true from hf)
        rw [hf, if_pos rfl] at HS
        clear hf
        go_wp2_with (go_at_call 33; (with_reducible refine (sfixed_any s _).mono ?_); rintro e w3 ⟨rfl, hB⟩; rw [HFX.out]; have n0 := Aside0.mk (Kd.R_below HR.out hB); have n1 := Aside0.mk (below_trans HB.out (below_sub hB HB.out.size)); have n2 := Aside0.mk (blk_below HP.out hB); clear hB HB HR HP; have HR := n0; have HB := n1; have HP := n2; clear n0 n1 n2)
        go_roundw
        case measure => simp [intOf]; omega
        case rel => exact ⟨k + 1, by omega, by go_num, HR, by rw [HS.out]; exact HP, HB⟩
      | false =>
        have HFX := Aside0.mk (show fixed s = false from hf)
        rw [hf, if_neg (by decide)] at HS
        have b3 : wr.cell? ⟨w.heap.size, 3, none⟩ = some (.int .u32 (y : Int)) := (blk_cell HP.out 3).trans rfl
        have f3 := blk_frozen HP.out 3
        clear hf
        go_wp2_with (first
          | (go_at_call 33; (with_reducible refine (sfixed_any s _).mono ?_); rintro e w3 ⟨rfl, hB⟩; rw [HFX.out]; have n0 := Aside0.mk (Kd.R_below HR.out hB); have n1 := Aside0.mk (below_trans HB.out (below_sub hB HB.out.size)); have n2 := Aside0.mk (blk_below HP.out hB); clear hB HB HR HP b3 f3; have HR := n0; have HB := n1; have HP := n2; clear n0 n1 n2; have b3 := (blk_cell HP.out 3).trans rfl; have f3 := blk_frozen HP.out 3)
          | (go_at_call 34; (with_reducible refine (with_any y s _ HY.out).mono ?_); rintro e w4 ⟨rfl, hB⟩; have n0 := Aside0.mk (Kd.R_below HR.out hB); have n1 := Aside0.mk (below_trans HB.out (below_sub hB HB.out.size)); have n2 := Aside0.mk (blk_below HP.out hB); clear hB HB HR HP b3 f3; have HR := n0; have HB := n1; have HP := n2; clear n0 n1 n2; have b3 := (blk_cell HP.out 3).trans rfl; have f3 := blk_frozen HP.out 3))
        go_roundw
        case measure => simp [intOf]; omega
        case rel =>
          refine ⟨k + 1, by omega, by go_num, ⟨Kd.R_set HR.out HP.out (by decide) 3 _⟩, ⟨?_⟩, ⟨HB.out.setCell (p := ⟨w.heap.size, 3, none⟩) (Nat.le_refl _) _⟩⟩
          rw [HS.out]
          exact blk_put HP.out 3 _ rfl
    · have hge : decide ((k : Int) < (L.length : Int)) = false := decide_eq_false (by omega)
      have hkl : k = L.length := by omega
      subst hkl
      rw [List.take_length, ← HFL.out] at HP
      have HM := Aside0.mk (World.ownsMap_made (H := Unit) wr Tryd.prog 3 Rp)
      have HPM := Aside0.mk (blk_below HP.out (below_alloc (Below.refl wr.heap.size wr) (.map #[] 0)))
      have HBM := Aside0.mk (below_alloc HB.out (.map #[] 0))
      have HBS := Aside0.mk HB.out.size
      go_wp2_with (first
        | ((with_reducible refine gate_ins 28 29 _ rfl ?_)
           go_loud (refine insert_own _ rfl _ _ _ 68 rfl 3 63 keyI Tryd.underlying68 Rp wr.heap.size 0 (.map []) rfl HM.out (by decide) _ _ (.int .i64 1) rfl rfl (keyOf_int_mk Tryd.underlying3 (wf_i64 (by decide) (by decide))) (.lit (.int .i64 (w.heap.size : Int))) [] rfl ?_)
           intro w5 own5 hgr5
           have HP5 := Aside0.mk (blk_grown HPM.out hgr5 (fun e => by have := Option.some.inj e; obtain ⟨es, cl, hb, _⟩ := HM.out; rw [← this] at hb; rw [HPM.out] at hb; cases hb))
           have HB5 := Aside0.mk (HBM.out.trans (below_grown hgr5 HBS.out HBM.out.size))
           have HO5 := Aside0.mk own5
           clear own5 hgr5))
      have HG6 := Aside0.mk (blk_new w5 (.cells #[.map (some wr.heap.size), .int .i64 1, .slice none 0 0] 70))
      have HB6 := Aside0.mk (below_alloc (Below.refl w5.heap.size w5) (.cells #[.map (some wr.heap.size), .int .i64 1, .slice none 0 0] 70))
      go_ret
      refine ⟨w5.heap.size, rfl, ⟨_, _, _, _, _, tv_one (flt_lt x) HG6.out HB5.out.size HBS.out (Nat.le_refl _) (own_below HO5.out HB6.out) (blk_below HP5.out HB6.out)⟩, below_alloc HB5.out _⟩
def chB (f : Tb) (parent pid : Int) : Bool := match f pid with
  | some c => c.par == parent && liv f parent
  | none => false
section
variable {w : World} {base g m n : Nat} {D : Dm} {B : Int → Nat} {v : Value} {f : Tb} {last : Int} {ends : List (Int × Int)}
set_option maxHeartbeats 4000000 in
set_option maxRecDepth 100000 in
theorem child_any (h : TV w base g m n D B v f last ends) (parent pid : Int) (hp : (Lit.int .i64 pid).wf = true) (hq : (Lit.int .i64 parent).wf = true) :
    Calls Tryd.prog 28 #[.pointer (some ⟨g, 0, none⟩), .int .i64 parent, .int .i64 pid] w fun e w' => e = .returned (.bool (chB f parent pid)) ∧ w = w' := by
  have HT := Aside0.mk h
  have HQ := Aside0.mk hq
  have hrun := look h pid hp
  have c0 : w.cell? ⟨g, 0, none⟩ = some (.map (some m)) := (blk_cell h.hg 0).trans rfl
  unfold chB
  cases hf : f pid with
  | none =>
    rw [hf] at hrun
    simp only [Option.isSome_none, Bool.false_eq_true, if_false] at hrun
    clear h hp hq
    go_enter Tryd.func28, Tryd.ntmps28
    go_wp2
    go_ret
    exact ⟨rfl, rfl⟩
  | some c =>
    rw [hf] at hrun
    simp only [Option.isSome_some, if_true] at hrun
    have b0 : w.cell? ⟨B pid, 0, none⟩ = some (.int .i64 c.par) := (blk_cell (h.yes pid c hf).blk 0).trans rfl
    clear h hp hq
    show Calls _ _ _ _ fun e w' => e = .returned (.bool (c.par == parent && liv f parent)) ∧ w = w'
    cases he : c.par == parent with
    | false =>
      go_enter Tryd.func28, Tryd.ntmps28
      go_wp2
      go_ret
      exact ⟨rfl, rfl⟩
    | true =>
      go_enter Tryd.func28, Tryd.ntmps28
      go_wp2_with (go_at_call 24; (with_reducible refine (liv_any HT.out parent HQ.out).mono ?_); rintro e w1 ⟨rfl, rfl⟩)
      go_ret
      exact ⟨rfl, rfl⟩
set_option maxHeartbeats 4000000 in
set_option maxRecDepth 100000 in
theorem reap_any (h : TV w base g m n D B v f last ends) (parent pid : Int) (r : Pr) (hp : (Lit.int .i64 pid).wf = true) (hq : (Lit.int .i64 parent).wf = true) (hf : f pid = some r) (hd : r.live = false) (hc : chB f parent pid = true) :
    Calls Tryd.prog 10 #[.pointer (some ⟨g, 0, none⟩), .int .i64 parent, .int .i64 pid] w fun e w' => e = .returned (.tuple #[.int .i64 r.status, .bool true]) ∧ TW w' base g (upd f pid none) last ends ∧ Below base w w' := by
  have HT := Aside0.mk h
  have HQ := Aside0.mk hq
  have HP := Aside0.mk hp
  have HC := Aside0.mk hc
  have HBS := Aside0.mk (show base ≤ w.heap.size from Nat.le_trans h.bg (Nat.le_of_lt (blk_lt h.hg)))
  have hrun := look h pid hp
  rw [hf] at hrun
  simp only [Option.isSome_some, if_true] at hrun
  have c0 : w.cell? ⟨g, 0, none⟩ = some (.map (some m)) := (blk_cell h.hg 0).trans rfl
  have b1 : w.cell? ⟨B pid, 1, none⟩ = some (.bool false) := by rw [← hd]; exact (blk_cell (h.yes pid r hf).blk 1).trans rfl
  have b2 : w.cell? ⟨B pid, 2, none⟩ = some (.int .i64 r.status) := (blk_cell (h.yes pid r hf).blk 2).trans rfl
  clear h hp hq hc hd
  go_enter Tryd.func10, Tryd.ntmps10
  go_wp2_with (first
    | (go_at_call 28; (with_reducible refine (child_any HT.out parent pid HP.out HQ.out).mono ?_); rintro e w1 ⟨rfl, rfl⟩; rw [HC.out])
    | (at_delete; refine wpList_delete_own _ rfl _ _ 68 3 rfl 63 keyI Tryd.underlying68 Rp m n D rfl HT.out.own _ (.int .i64 pid) rfl (keyOf_int_mk Tryd.underlying3 HP.out) ?_; intro w8 own8 hturn; have H8 := Aside0.mk (HT.out.del own8 hturn.grown); have HB8 := Aside0.mk (below_grown hturn.grown HT.out.bm HBS.out); clear own8 hturn))
  go_ret2
  exact ⟨rfl, ⟨_, _, _, _, _, H8.out⟩, HB8.out⟩
end
end Go.Proofs.YtbgodajbdbgdfaaDoor.Kern
