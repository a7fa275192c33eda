/- pattern.Plain: the walk; what chars come to. -/
import Derived.Test.YtkepmbkghmkodaaPatMatch
namespace Go.Proofs.Ytkepmbkghmkodaa.Pat
open Go.RowKit Go.Proofs.YtkepmbkghmkodaaW.PrintWords Go.Proofs.YtkepmbkghmkodaaW.PrintLast Go.Proofs.Ytkepmbkghmkodaa.Base Go.Proofs.Ytkepmbkghmkodaa.P Go.Proofs.Ytkepmbkghmkodaa.Seq
set_option linter.unusedVariables false
set_option linter.unusedSimpArgs false
def plainB (ts : List Th) : Bool := ts.all fun t => t.kind == 0
theorem plain_no {ts : List Th} {k : Nat} (hk : k < ts.length) (h : (ts[k].kind == 0) = false) : plainB ts = false := by
  unfold plainB
  rw [List.all_eq_false]
  exact ⟨ts[k], List.getElem_mem hk, by rw [h]; decide⟩
theorem plain_yes {ts : List Th} (h : ∀ j, ∀ hj : j < ts.length, (ts[j].kind == 0) = true) : plainB ts = true := by
  unfold plainB
  rw [List.all_eq_true]
  intro x hx
  obtain ⟨i, hi, rfl⟩ := List.getElem_of_mem hx
  exact h i hi
set_option maxHeartbeats 4000000 in
set_option maxRecDepth 100000 in
theorem plain_body (A0 : Option Addr) (c0 : Nat) (l : List S26) (L : List Ch) (kk : Nat) (hL : pattern_chars.f kk l = some L) (w : World) (hr : Kd.C k26 w A0 l.length l) (hc : l.length ≤ c0) (hl : L.length ≤ 1000000) (hb : ∀ x ∈ L, 0 ≤ x.f0 ∧ x.f0 ≤ 255) (ts : List Th) (hts : thingsL L = ts) (hn : ts.length ≤ 1000000) :
    Calls Try.prog 47 #[.slice A0 l.length c0] w fun e w' => e = .returned (.bool (plainB ts)) ∧ Below w.heap.size w w' := by
  have HR := Aside0.mk hr
  have HC := Aside0.mk hc
  have HL := Aside0.mk hL
  have HBY := Aside0.mk hb
  have HTS := Aside0.mk hts
  clear hts hr hc hL hb
  go_enter Try.func47, Try.ntmps47
  go_wp2_with (first
    | (go_at_call 93; (with_reducible refine (things_body A0 c0 l L kk HL.out _ HR.out HC.out hl HBY.out).mono ?_); intro e w1 hp; obtain ⟨v, rfl, hR, hB⟩ := hp; rw [HTS.out] at hR; obtain ⟨A, c, rfl, hlc, hC⟩ := Kd.R_reads hR; have HT := Aside0.mk hC; have HB := Aside0.mk hB; clear hB hR hC HR HL HC))
  go_loopw [8] (fun v8 wr => ∃ k : Nat, k ≤ ts.length ∧ v8 = .int .i64 k ∧ Aside0 (∀ j, j < k → ∀ hj : j < ts.length, (ts[j].kind == 0) = true) ∧ Aside0 (Below w1.heap.size w1 wr)) (fun v8 _ => ts.length - (intOf v8).toNat)
  case atStart => exact ⟨0, Nat.zero_le _, rfl, ⟨fun j hj => by omega⟩, ⟨Below.refl _ _⟩⟩
  case round =>
    obtain ⟨k, hk, rfl, HA, HBX⟩ := hrel
    by_cases hlt : k < ts.length
    · obtain ⟨ad, rfl, hX, hc⟩ := at_th HT.out k hlt
      have HCC := Aside0.mk (cells_below hc HBX.out)
      have HX := Aside0.mk hX
      have hi0 : decide (0 ≤ (k : Int)) = true := decide_eq_true (by omega)
      have hi1 : decide ((k : Int) < (ts.length : Int)) = true := decide_eq_true (by omega)
      obtain ⟨X, hXX⟩ : ∃ X, ts[k] = X := ⟨_, rfl⟩
      rw [hXX] at HCC HX
      have HXX := Aside0.mk hXX
      clear hc hX hXX
      go_upto_region 4 with (first
        | ((with_reducible refine gate_dst (N := 11) rfl ?_); refine th_loadAt rfl 10 rfl _ X HX.out rfl HCC.out ?_)
        | ((with_reducible refine gate_store 4 11 rfl ?_); refine th_new rfl 4 11 rfl _ X HX.out rfl rfl rfl ?_; intro wb hg hbx; have HG := Aside0.mk hg; have n0 := Aside0.mk (below_trans HBX.out (below_sub hbx HBX.out.size)); clear hg hbx HBX; have HBX := n0; clear n0))
      have ck := (blk_cell HG.out 0).trans (arr0 X)
      by_cases h0 : X.kind = 0
      · have e0 : (X.kind != 0) = false := bne_eq_false_iff_eq.2 h0
        have HE := Aside0.mk (beq_iff_eq.2 h0)
        clear h0
        go_wp2
        go_roundw
        case measure => simp [intOf]; omega
        case rel =>
          refine ⟨k + 1, by omega, by go_num, ⟨fun j hj hjl => ?_⟩, HBX⟩
          rcases Nat.lt_or_ge j k with h | h
          · exact HA.out j h hjl
          · obtain rfl : j = k := by omega
            rw [HXX.out]; exact HE.out
      · have e0 : (X.kind != 0) = true := bne_iff_ne.2 h0
        have HE := Aside0.mk (plain_no hlt (by rw [HXX.out]; exact beq_eq_false_iff_ne.2 h0))
        clear h0
        go_wp2
        go_ret
        exact ⟨by rw [HE.out]; rfl, below_trans HB.out (below_sub HBX.out HB.out.size)⟩
    · have hge : decide ((k : Int) < (ts.length : Int)) = false := decide_eq_false (by omega)
      have HE := Aside0.mk (plain_yes (fun j hj => HA.out j (by omega) hj))
      go_wp2
      go_ret
      exact ⟨by rw [HE.out]; rfl, below_trans HB.out (below_sub HBX.out HB.out.size)⟩
def charsP (p : S26) : List Ch := if p.f2 = true then [] else (bytesOf p.f0).map fun b => ⟨b, p.f1⟩
def charsL (l : List S26) : List Ch := l.flatMap charsP
def psz (l : List S26) : Nat := (l.map fun p => p.f0.size + 1).sum
theorem chars_len (l : List S26) : (charsL l).length ≤ psz l := by
  induction l with
  | nil => simp [charsL, psz]
  | cons p l ih =>
    have h : (charsP p).length ≤ p.f0.size := by
      unfold charsP
      split
      · simp
      · rw [List.length_map, bytesOf_length]; omega
    simp only [charsL, psz, List.flatMap_cons, List.length_append, List.map_cons, List.sum_cons] at *
    omega
theorem chars_byte (l : List S26) : ∀ x ∈ charsL l, 0 ≤ x.f0 ∧ x.f0 ≤ 255 := by
  intro x hx
  unfold charsL at hx
  rw [List.mem_flatMap] at hx
  obtain ⟨p, _, hx⟩ := hx
  unfold charsP at hx
  split at hx
  · cases hx
  · rw [List.mem_map] at hx
    obtain ⟨b, hb, rfl⟩ := hx
    simp only [bytesOf, List.mem_map] at hb
    obtain ⟨c, _, rfl⟩ := hb
    have := c.toNat_lt
    exact ⟨by simp, by simp; omega⟩
theorem wrap_ok {x : Int} (h0 : -1000000000000 ≤ x) (h1 : x ≤ 1000000000000) : wrap64 x = x := by unfold wrap64; omega
theorem bytes_at (s : ByteArray) (j : Nat) (h : j < s.size) : (bytesOf s).drop j = bt s j :: (bytesOf s).drop (j + 1) := by
  have hl : j < (bytesOf s).length := by rw [bytesOf_length]; exact h
  rw [List.drop_eq_getElem_cons hl]
  congr 1
  have := rd_bytesOf s (j : Int)
  rw [← this]
  simp [rd, List.getD_eq_getElem?_getD, List.getElem?_eq_getElem hl]
theorem l1_ev (x7 : List S26) (x8 x9 : Int) (s : ByteArray) (q c : Bool) (r : List Ch) : ∀ (d j : Nat) (x3 : List Ch), j + d = s.size → x3.length + d ≤ 1000000 → s.size ≤ 1000000 →
    Ev (fun k => pattern_chars.l0 k (x3 ++ ((bytesOf s).drop j).map fun b => ⟨b, q⟩) x7 x8 (wrap64 (x9 + 1))) r → Ev (fun k => pattern_chars.l1 k x3 x7 x8 x9 (s.size : Int) (j : Int) s q c) r := by
  intro d
  induction d with
  | zero =>
    intro j x3 hj hl hs h
    rw [List.drop_of_length_le (by rw [bytesOf_length]; omega)] at h
    refine Ev.step (f := fun k => pattern_chars.l0 k x3 x7 x8 (wrap64 (x9 + 1))) (fun k => ?_) (by simpa using h)
    simp only [pattern_chars.l1]
    rw [if_neg (by omega)]
  | succ d ih =>
    intro j x3 hj hl hs h
    rw [bytes_at s j (by omega)] at h
    refine Ev.step (f := fun k => pattern_chars.l1 k (x3 ++ [⟨bt s j, q⟩]) x7 x8 x9 (s.size : Int) ((j + 1 : Nat) : Int) s q c) (fun k => ?_) (ih (j + 1) _ (by omega) (by simp; omega) hs (by simpa using h))
    simp only [pattern_chars.l1]
    rw [if_pos (by omega), if_pos (by omega), if_pos (by omega), if_pos (by omega), wrap_ok (by omega) (by omega)]
    rfl
theorem l0_ev (l : List S26) : ∀ (d i : Nat) (x3 : List Ch), i + d = l.length → x3.length + psz (l.drop i) ≤ 1000000 → l.length ≤ 1000000 →
    Ev (fun k => pattern_chars.l0 k x3 l (l.length : Int) (i : Int)) (x3 ++ charsL (l.drop i)) := by
  intro d
  induction d with
  | zero =>
    intro i x3 hi hl hs
    rw [List.drop_of_length_le (by omega)]
    refine Ev.step (f := fun k => some x3) (fun k => ?_) (by simpa [charsL] using Ev.now x3)
    simp only [pattern_chars.l0]
    rw [if_neg (by omega)]
  | succ d ih =>
    intro i x3 hi hl hs
    have hlt : i < l.length := by omega
    have hd : l.drop i = l[i] :: l.drop (i + 1) := List.drop_eq_getElem_cons hlt
    have hr : rd_T26 l (i : Int) = l[i] := by simp [rd_T26, List.getD_eq_getElem?_getD, List.getElem?_eq_getElem hlt]
    rw [hd] at hl ⊢
    have hp : psz (l[i] :: l.drop (i + 1)) = l[i].f0.size + 1 + psz (l.drop (i + 1)) := by unfold psz; rw [List.map_cons, List.sum_cons]
    rw [hp] at hl
    have hc : charsL (l[i] :: l.drop (i + 1)) = charsP l[i] ++ charsL (l.drop (i + 1)) := by unfold charsL; rw [List.flatMap_cons]
    rw [hc]
    by_cases h2 : l[i].f2 = true
    · have hcp : charsP l[i] = [] := by unfold charsP; rw [if_pos h2]
      rw [hcp, List.nil_append]
      refine Ev.step (f := fun k => pattern_chars.l0 k x3 l (l.length : Int) ((i + 1 : Nat) : Int)) (fun k => ?_) (ih (i + 1) x3 (by omega) (by omega) hs)
      simp only [pattern_chars.l0]
      rw [if_pos (by omega), if_pos (by omega), if_pos (by omega), hr, if_pos h2, wrap_ok (by omega) (by omega)]
      rfl
    · have hcp : charsP l[i] = (bytesOf l[i].f0).map fun b => ⟨b, l[i].f1⟩ := by unfold charsP; rw [if_neg h2]
      rw [hcp, ← List.append_assoc]
      refine Ev.step (f := fun k => pattern_chars.l1 k x3 l (l.length : Int) (i : Int) (l[i].f0.size : Int) ((0 : Nat) : Int) l[i].f0 l[i].f1 l[i].f2) (fun k => ?_) (l1_ev l (l.length : Int) (i : Int) l[i].f0 l[i].f1 l[i].f2 _ l[i].f0.size 0 x3 (by omega) (by omega) (by omega) ?_)
      · simp only [pattern_chars.l0]
        rw [if_pos (by omega), if_pos (by omega), if_pos (by omega), hr, if_neg h2]
        rfl
      · rw [wrap_ok (by omega) (by omega)]
        exact ih (i + 1) _ (by omega) (by simp [bytesOf_length]; omega) hs
theorem chars_f (l : List S26) (h : psz l ≤ 1000000) : ∃ k, pattern_chars.f k l = some (charsL l) := by
  have hl : l.length ≤ psz l := by
    clear h
    induction l with
    | nil => simp
    | cons p l ih => simp only [psz, List.length_cons, List.map_cons, List.sum_cons] at *; omega
  obtain ⟨k, hk⟩ := (l0_ev l l.length 0 [] (by omega) (by simpa using h) (by omega)).rounds
  exact ⟨k, hk⟩
theorem things_len : ∀ (n : Nat) (l : List Ch), l.length ≤ n → (thingsL l).length ≤ l.length := by
  intro n
  induction n with
  | zero => intro l h; rw [List.length_eq_zero_iff.1 (Nat.le_zero.1 h), thingsL_nil]; simp
  | succ n ih =>
    intro l h
    rcases l with _ | ⟨x, r⟩
    · rw [thingsL_nil]; simp
    · rw [thingsL_cons]
      have hp := nextT_pos (x :: r) x
      have := ih ((x :: r).drop (nextT (x :: r) x).2) (by rw [List.length_drop]; simp only [List.length_cons] at h ⊢; omega)
      rw [List.length_drop] at this
      simp only [List.length_cons] at this ⊢
      omega
end Go.Proofs.Ytkepmbkghmkodaa.Pat
