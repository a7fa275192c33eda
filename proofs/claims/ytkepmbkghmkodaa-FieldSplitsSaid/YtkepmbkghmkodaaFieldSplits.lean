/- FieldSplits: for every slice of pieces that can be read the law returns true and leaves it as it was. No condition. -/
import Derived.Test.YtkepmbkghmkodaaRows
import Derived.Test.YtkepmbkghmkodaaFieldJoin
import Derived.Test.YtkepmbkghmkodaaFieldParts
import Derived.Test.YtkepmbkghmkodaaOpen
import Derived.ProofKit
import Derived.OpenShut
import Derived.ShutString
import Derived.ChangeOld
import Derived.SizedLaws
namespace Go.Proofs.Ytkepmbkghmkodaa
open Go.RowKit Go.Proofs.YtkepmbkghmkodaaW.PrintWords Go.Proofs.YtkepmbkghmkodaaW.PrintLast Go.Proofs.Ytkepmbkghmkodaa.Base Go.Proofs.Ytkepmbkghmkodaa.Field Go.Proofs.Ytkepmbkghmkodaa.Class
set_option linter.unusedVariables false
set_option linter.unusedSimpArgs false
namespace Splits
structure Sign where
  c : Int
  edge : Bool
  part : Bool
instance : Inhabited Sign := ⟨⟨0, false, false⟩⟩
def kSign : Kd Sign := Kd.iso (Kd.pair (Kd.int .u8) (Kd.pair Kd.bool Kd.bool)) (fun x : Sign => (x.c, x.edge, x.part))
theorem kSign_open {w : World} {x : Sign} {cs : List Value} (h : kSign.K w x cs) : cs = [.int .u8 x.c, .bool x.edge, .bool x.part] := by
  obtain ⟨_, _, rfl, rfl, ⟨_, _, rfl, rfl, rfl⟩⟩ := h
  exact rfl
theorem kSign_mkM (w : World) (base : Nat) (ok : Nat → Prop) (x : Sign) : kSign.M w base ok x [.int .u8 x.c, .bool x.edge, .bool x.part] := ⟨[.int .u8 x.c], [.bool x.edge, .bool x.part], rfl, rfl, ⟨[.bool x.edge], [.bool x.part], rfl, rfl, rfl⟩⟩
theorem at_sign {w : World} {A : Option Addr} {n : Nat} {xs : List Sign} (h : Kd.C kSign w A n xs) (i : Nat) (hi : i < xs.length) : ∃ ad, A = some ad ∧ w.cell? (ad.add (i * 3)) = some (.int .u8 xs[i].c) ∧ w.cell? ⟨(ad.add (i * 3)).block, (ad.add (i * 3)).off + 1, none⟩ = some (.bool xs[i].edge) ∧ w.cell? ⟨(ad.add (i * 3)).block, (ad.add (i * 3)).off + 2, none⟩ = some (.bool xs[i].part) := by
  obtain ⟨ad, c, e, _, hK, hc0⟩ := Kd.C_get h default (i : Int) (by omega) (by have := h.1; omega)
  rw [Int.toNat_natCast] at hK hc0
  have hc : ∀ j u, c[j]? = some u → w.cell? (ad.add (i * 3 + j)) = some u := hc0
  have hd : xs.getD i default = xs[i] := by simp [List.getD_eq_getElem?_getD, List.getElem?_eq_getElem hi]
  rw [hd] at hK
  obtain rfl := kSign_open hK
  exact ⟨ad, e, hc 0 _ rfl, by rw [← add_field _ _ 1 (by omega)]; exact hc 1 _ rfl, by rw [← add_field _ _ 2 (by omega)]; exact hc 2 _ rfl⟩
section
variable {ops : Array Oper} {rest : List Oper} {o : Oper} {a : Act} {Q : Exit → Act → World → Prop}
theorem app_sign {w0 W : World} (base : Nat) (hgd : o.guard = none) (s x : Operand) (ho : o.op = .call { callee := .builtin .append, args := #[s, x], argTypes := #[120, 120] })
    (v : Value) (xs : List Sign) (p : Sign) (hs : a.eval s = v) (hx : a.eval x = .slice (some ⟨W.heap.size, 0, none⟩) 1 1)
    (HO : kSign.R 123 W base ok0 v xs) (HB : Below base w0 W) (hbase : base ≤ W.heap.size) (hl : xs.length + 1 ≤ 10000000000)
    (h : ∀ A n c w1, kSign.R 123 w1 base ok0 (.slice A n c) (xs ++ [p]) → Below base w0 w1 → W.grownBy w1 v.ownBlock → wpList Try.prog ops Q rest (a.put o.dst (.slice A n c)) w1) :
    wpList Try.prog ops Q (o :: rest) a (W.alloc (.cells #[.int .u8 p.c, .bool p.edge, .bool p.part] 123)) := by
  refine Kd.R_append kSign (w0 := w0) base hgd s x 120 123 (.agg #[.int .u8 0, .bool false, .bool false]) 3 ho Try.underlying120 (by kernel_rfl) rfl (by decide) (by decide) v xs p [.int .u8 p.c, .bool p.edge, .bool p.part] ok0 (fun _ => False) hs hx (kSign_mkM _ _ _ _) (fun _ h => h.elim) (fun _ _ => trivial) HO HB hbase (by omega) ?_
  intro v1 w1 hR hB hG _
  obtain ⟨A, n, c, rfl⟩ := R_slice3 hR
  exact h A n c w1 hR hB hG
end
def chr (q : Bool) (c : Int) : Sign := if !q && breakB c then ⟨0, false, true⟩ else ⟨c, false, false⟩
def psigns (p : Piece) : List Sign := if p.cut then [⟨0, false, true⟩] else (if p.quoted then [⟨0, true, false⟩] else []) ++ (bytesOf p.text).map (chr p.quoted)
def signsL (l : List Piece) : List Sign := l.flatMap psigns
theorem signsL_succ (l : List Piece) (k : Nat) (h : k < l.length) : signsL (l.take (k + 1)) = signsL (l.take k) ++ psigns l[k] := by
  unfold signsL
  rw [List.take_succ_eq_append_getElem h, List.flatMap_append]
  simp
theorem signsL_size (l : List Piece) : (signsL l).length ≤ psize l := by
  induction l with
  | nil => simp [signsL]
  | cons p l ih =>
    have h : (psigns p).length ≤ p.text.size + 1 := by
      unfold psigns
      split
      · simp
      · rw [List.length_append, List.length_map, bytesOf_length]
        split <;> simp <;> omega
    simp only [signsL, psize, List.flatMap_cons, List.length_append, List.map_cons, List.sum_cons] at *
    omega
def rstep (s : FS) (g : Sign) : FS := if g.part then fend s else ⟨s.done, if g.edge then s.now else s.now ++ [g.c], true⟩
theorem rstep_chr (s : FS) (c : Int) : rstep s (chr false c) = floose1 s c := by
  unfold chr floose1 rstep
  cases breakB c <;> simp
theorem fold_chr (l : List Int) (s : FS) : (l.map (chr false)).foldl rstep s = l.foldl floose1 s := by
  induction l generalizing s with
  | nil => rfl
  | cons c l ih => simp only [List.map_cons, List.foldl_cons]; rw [rstep_chr, ih]
theorem fold_quo (l : List Int) (d : List ByteArray) (n : List Int) : (l.map (chr true)).foldl rstep ⟨d, n, true⟩ = ⟨d, n ++ l, true⟩ := by
  induction l generalizing n with
  | nil => simp
  | cons c l ih =>
    simp only [List.map_cons, List.foldl_cons]
    have : rstep ⟨d, n, true⟩ (chr true c) = ⟨d, n ++ [c], true⟩ := by simp [rstep, chr]
    rw [this, ih]
    simp
theorem fold_piece (s : FS) (p : Piece) : (psigns p).foldl rstep s = fpiece s p := by
  unfold psigns fpiece
  cases hc : p.cut with
  | true => simp [rstep]
  | false =>
    cases hq : p.quoted with
    | true =>
      simp only [Bool.false_eq_true, if_false, if_true, List.singleton_append, List.foldl_cons]
      have : rstep s ⟨0, true, false⟩ = ⟨s.done, s.now, true⟩ := by simp [rstep]
      rw [this, fold_quo]
    | false =>
      simp only [Bool.false_eq_true, if_false, List.nil_append]
      rw [fold_chr]
      rfl
def rsplit (l : List Sign) : List ByteArray := ((l ++ [(⟨0, false, true⟩ : Sign)]).foldl rstep ⟨[], [], false⟩).done
theorem fold_signs (l : List Piece) (s : FS) : (signsL l).foldl rstep s = l.foldl fpiece s := by
  induction l generalizing s with
  | nil => rfl
  | cons p l ih =>
    simp only [signsL, List.flatMap_cons, List.foldl_append, List.foldl_cons] at *
    rw [fold_piece, ih]
theorem rsplit_eq (l : List Piece) : rsplit (signsL l) = split l := by
  unfold rsplit split
  rw [List.foldl_append, fold_signs]
  simp [rstep]
theorem rstep_w (s : FS) (g : Sign) : (rstep s g).w ≤ s.w + 2 := by
  unfold rstep
  split
  · have := fend_w s; omega
  · unfold FS.w; cases s.begun <;> cases g.edge <;> simp <;> omega
theorem foldr_w (l : List Sign) (s : FS) : (l.foldl rstep s).w ≤ s.w + 2 * l.length := by
  induction l generalizing s with
  | nil => simp
  | cons c l ih => simp only [List.foldl_cons, List.length_cons]; have := ih (rstep s c); have := rstep_w s c; omega
def rN (l : List Sign) (k : Nat) : FS := (l.take k).foldl rstep ⟨[], [], false⟩
theorem rN_succ (l : List Sign) (k : Nat) (h : k < l.length) : rN l (k + 1) = rstep (rN l k) l[k] := by
  unfold rN
  rw [List.take_succ_eq_append_getElem h, List.foldl_append]; rfl
theorem rN_w (l : List Sign) (k : Nat) : (rN l k).w ≤ 2 * l.length := by
  have h1 := foldr_w (l.take k) ⟨[], [], false⟩
  have h2 : (l.take k).length ≤ l.length := List.length_take_le' _ _
  simp only [FS.w, List.length_nil, Bool.toNat_false] at h1
  unfold rN
  simp only [FS.w]
  omega
def pn (p : Piece) : Nat := if p.cut then 1 else p.text.size
def bytesN (l : List Piece) : Nat := (l.map pn).sum
theorem bytesN_succ (l : List Piece) (k : Nat) (h : k < l.length) : bytesN (l.take (k + 1)) = bytesN (l.take k) + pn l[k] := by
  unfold bytesN
  rw [List.take_succ_eq_append_getElem h, List.map_append, List.sum_append]
  simp only [List.map_cons, List.map_nil, List.sum_cons, List.sum_nil, Nat.add_zero]
theorem bytesN_join (l : List Piece) : bytesN l = (joinL l).length := by
  induction l with
  | nil => rfl
  | cons p l ih =>
    have h : pn p = (pbytes p).length := by
      unfold pn pbytes
      split
      · rfl
      · rw [data_length]
    simp only [bytesN, joinL, List.map_cons, List.sum_cons, List.flatMap_cons, List.length_append] at *
    omega
end Splits
open Splits
set_option maxHeartbeats 400000 in
theorem rbreak_any (c : Int) (w : World) : Calls Try.prog 54 #[.int .u8 c] w fun e w' => e = .returned (.bool (breakB c)) ∧ w = w' := by
  unfold breakB blankB
  by_cases h : (c == 32) = true
  · go_enter Try.func54, Try.ntmps54
    go_wp2
    go_ret
    exact ⟨by simp [h], rfl⟩
  · replace h := Bool.eq_false_iff.mpr h
    by_cases h2 : (c == 9) = true
    · go_enter Try.func54, Try.ntmps54
      go_wp2
      go_ret
      exact ⟨by simp [h, h2], rfl⟩
    · replace h2 := Bool.eq_false_iff.mpr h2
      go_enter Try.func54, Try.ntmps54
      go_wp2
      go_ret
      exact ⟨by simp [h, h2], rfl⟩
set_option maxHeartbeats 1000000 in
set_option maxRecDepth 100000 in
theorem bytes_any (A : Option Addr) (n c : Nat) (l : List Piece) (w : World) (hr : Kd.C kPiece w A n l) (hl : psize l ≤ 100000000) :
    Calls Try.prog 35 #[.slice A n c] w fun e w' => e = .returned (.int .i64 (bytesN l : Nat)) ∧ Below w.heap.size w w' := by
  obtain rfl := hr.1
  have HR := Aside0.mk hr
  clear hr
  have hm := Kd.C_max HR.out
  go_enter Try.func35, Try.ntmps35
  go_wp2
  go_loopw [3, 8] (fun v3 v8 w' => ∃ k : Nat, k ≤ l.length ∧ v8 = .int .i64 k ∧ v3 = .int .i64 (bytesN (l.take k) : Nat) ∧ Aside0 (Below w.heap.size w w')) (fun _ v8 _ => l.length - (intOf v8).toNat)
  case atStart => exact ⟨0, Nat.zero_le _, rfl, rfl, ⟨Below.refl _ _⟩⟩
  case round =>
    obtain ⟨k, hk, rfl, rfl, HB⟩ := hrel
    by_cases hlt : k < l.length
    · have hsc := bytesN_succ l k hlt
      have hw := joinL_size (l.take k)
      rw [← bytesN_join] at hw
      have hps := psize_get l k hlt
      obtain ⟨ad, rfl, h0, h1, h2⟩ := at_piece HR.out k hlt
      replace h0 := pw_cell_below HB.out h0
      replace h1 := pw_cell_below HB.out h1
      replace h2 := pw_cell_below HB.out h2
      generalize l[k] = p at *
      generalize bytesN (l.take k) = q at *
      have HSC := Aside0.mk hsc
      clear hsc
      have hi0 : (0 : Int) ≤ (k : Int) := by omega
      have hi1 : (k : Int) < (l.length : Int) := by omega
      by_cases hcut : p.cut = true
      · go_wp2
        go_roundw
        case measure => simp [intOf]; omega
        case rel => exact ⟨k + 1, by omega, by go_num, by rw [HSC.out]; unfold pn; rw [if_pos hcut]; go_num, ⟨below_trans HB.out (below_sub (by repeat (first | exact Below.refl _ _ | refine below_drew ?_ | refine below_alloc ?_ _ | refine below_set ?_ (by simp; done) | refine below_set ?_ (by simp; omega))) HB.out.size)⟩⟩
      · replace hcut := Bool.eq_false_iff.mpr hcut
        go_wp2
        go_roundw
        case measure => simp [intOf]; omega
        case rel => exact ⟨k + 1, by omega, by go_num, by rw [HSC.out]; unfold pn; rw [if_neg (by simp [hcut])]; go_num, ⟨below_trans HB.out (below_sub (by repeat (first | exact Below.refl _ _ | refine below_drew ?_ | refine below_alloc ?_ _ | refine below_set ?_ (by simp; done) | refine below_set ?_ (by simp; omega))) HB.out.size)⟩⟩
    · go_wp2
      go_ret
      obtain rfl : k = l.length := by omega
      exact ⟨by rw [List.take_of_length_le (Nat.le_refl _)]; rfl, HB.out⟩
theorem chr_succ (tx : ByteArray) (q : Bool) (j : Nat) (h : j < tx.size) : ((bytesOf tx).take (j + 1)).map (chr q) = ((bytesOf tx).take j).map (chr q) ++ [chr q (bt tx j)] := by
  have h' : j < (bytesOf tx).length := by rw [bytesOf_length]; exact h
  rw [List.take_succ_eq_append_getElem h', List.map_append]
  have : (bytesOf tx)[j] = bt tx j := by
    rw [← rd_bytesOf]
    simp [rd, List.getD_eq_getElem?_getD, List.getElem?_eq_getElem h']
  rw [this]
  rfl
set_option maxHeartbeats 2000000 in
set_option maxRecDepth 100000 in
theorem signs_any (A : Option Addr) (n c : Nat) (l : List Piece) (w : World) (hr : Kd.C kPiece w A n l) (hl : psize l ≤ 100000000) :
    Calls Try.prog 85 #[.slice A n c] w fun e w' => ∃ A' n' c', e = .returned (.slice A' n' c') ∧ kSign.R 123 w' w.heap.size ok0 (.slice A' n' c') (signsL l) ∧ Below w.heap.size w w' := by
  obtain rfl := hr.1
  have HR := Aside0.mk hr
  clear hr
  have hm := Kd.C_max HR.out
  go_enter Try.func85, Try.ntmps85
  go_wp2
  go_loopw [3, 10] (fun v3 v10 w' => ∃ (k : Nat) (A3 : Option Addr) (n3 c3 : Nat), k ≤ l.length ∧ v10 = .int .i64 k ∧ v3 = .slice A3 n3 c3 ∧ Aside0 (kSign.R 123 w' w.heap.size ok0 (.slice A3 n3 c3) (signsL (l.take k))) ∧ Aside0 (Below w.heap.size w w')) (fun _ v10 _ => l.length - (intOf v10).toNat)
  case atStart => exact ⟨0, _, _, _, Nat.zero_le _, rfl, rfl, ⟨R_empty (blk_new w _) (Nat.le_refl _)⟩, ⟨below_alloc (Below.refl _ _) _⟩⟩
  case round =>
    obtain ⟨k, A3, n3, c3, hk, rfl, rfl, HQ, HB⟩ := hrel
    by_cases hlt : k < l.length
    · have hsc := signsL_succ l k hlt
      have hw := signsL_size (l.take k)
      have hps := psize_get l k hlt
      obtain ⟨ad, rfl, h0, h1, h2⟩ := at_piece HR.out k hlt
      replace h0 := pw_cell_below HB.out h0
      replace h1 := pw_cell_below HB.out h1
      replace h2 := pw_cell_below HB.out h2
      generalize l[k] = p at *
      generalize signsL (l.take k) = q at *
      obtain ⟨tx, qu, cu⟩ := p
      simp only at h0 h1 h2 hps
      have HSC := Aside0.mk hsc
      clear hsc
      have hi0 : (0 : Int) ≤ (k : Int) := by omega
      have hi1 : (k : Int) < (l.length : Int) := by omega
      have hgb := HB.out.size
      go_upto_region 5 with (fail)
      have HBX := Aside0.mk (blk_new wr (.cells #[.string tx, .bool qu, .bool cu] 26))
      have HQB := Aside0.mk (Kd.R_below HQ.out (below_alloc (Below.refl wr.heap.size wr) (.cells #[.string tx, .bool qu, .bool cu] 26)))
      have HBB := Aside0.mk (below_alloc HB.out (.cells #[.string tx, .bool qu, .bool cu] 26))
      generalize wr.alloc (.cells #[.string tx, .bool qu, .bool cu] 26) = wb at *
      generalize wr.heap.size = gb at *
      have b2 : wb.cell? ⟨gb, 2, none⟩ = some (.bool cu) := (blk_cell HBX.out 2).trans rfl
      have b1 : wb.cell? ⟨gb, 1, none⟩ = some (.bool qu) := (blk_cell HBX.out 1).trans rfl
      clear h0 h1 h2 HB HQ
      cases cu with
      | true =>
        go_wp2_with (first
          | ((with_reducible refine gate_dst (N := 19) rfl ?_)
             refine app_sign w.heap.size (w0 := w) rfl (.tmp 16) (.tmp 18) rfl (.slice A3 n3 c3) q ⟨0, false, true⟩ rfl rfl HQB.out HBB.out HBB.out.size (by omega) ?_
             intro A4 n4 c4 w5 hR hB hG
             have HQ5 := Aside0.mk hR; have HB5 := Aside0.mk hB; clear hR hB hG))
        go_roundw
        case measure => simp [intOf]; omega
        case rel => exact ⟨k + 1, A4, n4, c4, by omega, by go_num, rfl, by rw [HSC.out]; exact HQ5, HB5⟩
      | false =>
        cases qu with
        | true =>
          go_wp2_with (first
            | ((with_reducible refine gate_dst (N := 25) rfl ?_)
               refine app_sign w.heap.size (w0 := w) rfl (.tmp 22) (.tmp 24) rfl (.slice A3 n3 c3) q ⟨0, true, false⟩ rfl rfl HQB.out HBB.out HBB.out.size (by omega) ?_
               intro A4 n4 c4 w5 hR hB hG
               have HQ5 := Aside0.mk hR; have HB5 := Aside0.mk hB
               have HX5 := Aside0.mk (blk_grown HBX.out hG (Kd.R_ne HQB.out HBX.out (by decide))); clear hR hB hG))
          go_loopw [3, 6] (fun v3 v6 w' => ∃ (j : Nat) (A6 : Option Addr) (n6 c6 : Nat), j ≤ tx.size ∧ v6 = .int .i64 j ∧ v3 = .slice A6 n6 c6 ∧ Aside0 (kSign.R 123 w' w.heap.size ok0 (.slice A6 n6 c6) ((q ++ [⟨0, true, false⟩]) ++ ((bytesOf tx).take j).map (chr true))) ∧ Aside0 (w'.heap[gb]? = some (.cells #[.string tx, .bool true, .bool false] 26 (0, 0))) ∧ Aside0 (Below w.heap.size w w')) (fun _ v6 _ => tx.size - (intOf v6).toNat)
          case atStart => exact ⟨0, _, _, _, Nat.zero_le _, rfl, rfl, by simpa using HQ5, HX5, HB5⟩
          case round =>
            obtain ⟨j, A6, n6, c6, hj, rfl, rfl, HQ6, HX6, HB6⟩ := hrel
            have b0 : wr.cell? ⟨gb, 0, none⟩ = some (.string tx) := (blk_cell HX6.out 0).trans rfl
            have b1 : wr.cell? ⟨gb, 1, none⟩ = some (.bool true) := (blk_cell HX6.out 1).trans rfl
            by_cases hjl : j < tx.size
            · have hcs := chr_succ tx true j hjl
              have hlen : (((bytesOf tx).take j).map (chr true)).length ≤ tx.size := by rw [List.length_map, List.length_take, bytesOf_length]; omega
              have HCS := Aside0.mk hcs
              clear hcs
              have hj0 : (0 : Int) ≤ (j : Int) := by omega
              have hj1 : (j : Int) < (tx.size : Int) := by omega
              have hbt := bt_nat tx j
              generalize ((bytesOf tx).take j).map (chr true) = m at *
              go_wp2_with (first
                | ((with_reducible refine gate_dst (N := 54) rfl ?_)
                   refine app_sign w.heap.size (w0 := w) rfl (.tmp 47) (.tmp 53) rfl (.slice A6 n6 c6) ((q ++ [⟨0, true, false⟩]) ++ m) ⟨bt tx j, false, false⟩ rfl rfl HQ6.out HB6.out HB6.out.size (by simp only [List.length_append, List.length_cons, List.length_nil]; omega) ?_
                   intro A7 n7 c7 w7 hR hB hG
                   have HQ7 := Aside0.mk hR; have HB7 := Aside0.mk hB
                   have HX7 := Aside0.mk (blk_grown HX6.out hG (Kd.R_ne HQ6.out HX6.out (by decide))); clear hR hB hG))
              go_roundw
              case measure => simp [intOf]; omega
              case rel => exact ⟨j + 1, A7, n7, c7, by omega, by go_num, rfl, by rw [HCS.out, ← List.append_assoc]; unfold chr; rw [if_neg (by simp)]; exact HQ7, HX7, HB7⟩
            · go_wp2
              obtain rfl : j = tx.size := by omega
              rw [List.take_of_length_le (by rw [bytesOf_length]; omega)] at HQ6
              go_roundw
              case measure => simp [intOf]; omega
              case rel => exact ⟨k + 1, A6, n6, c6, by omega, by go_num, rfl, by rw [HSC.out]; simpa [psigns] using HQ6, HB6⟩
        | false =>
          have HQ5 := HQB
          have HB5 := HBB
          have HX5 := HBX
          go_wp2
          go_loopw [3, 6] (fun v3 v6 w' => ∃ (j : Nat) (A6 : Option Addr) (n6 c6 : Nat), j ≤ tx.size ∧ v6 = .int .i64 j ∧ v3 = .slice A6 n6 c6 ∧ Aside0 (kSign.R 123 w' w.heap.size ok0 (.slice A6 n6 c6) (q ++ ((bytesOf tx).take j).map (chr false))) ∧ Aside0 (w'.heap[gb]? = some (.cells #[.string tx, .bool false, .bool false] 26 (0, 0))) ∧ Aside0 (Below w.heap.size w w')) (fun _ v6 _ => tx.size - (intOf v6).toNat)
          case atStart => exact ⟨0, _, _, _, Nat.zero_le _, rfl, rfl, by simpa using HQ5, HX5, HB5⟩
          case round =>
            obtain ⟨j, A6, n6, c6, hj, rfl, rfl, HQ6, HX6, HB6⟩ := hrel
            have b0 : wr.cell? ⟨gb, 0, none⟩ = some (.string tx) := (blk_cell HX6.out 0).trans rfl
            have b1 : wr.cell? ⟨gb, 1, none⟩ = some (.bool false) := (blk_cell HX6.out 1).trans rfl
            by_cases hjl : j < tx.size
            · have hcs := chr_succ tx false j hjl
              have hlen : (((bytesOf tx).take j).map (chr false)).length ≤ tx.size := by rw [List.length_map, List.length_take, bytesOf_length]; omega
              have HCS := Aside0.mk hcs
              clear hcs
              have hj0 : (0 : Int) ≤ (j : Int) := by omega
              have hj1 : (j : Int) < (tx.size : Int) := by omega
              have hbt := bt_nat tx j
              generalize ((bytesOf tx).take j).map (chr false) = m at *
              by_cases hb : breakB (bt tx j) = true
              · go_wp2_with (first
                | (go_at_call 54; refine (rbreak_any _ _).mono ?_; rintro e w' ⟨rfl, rfl⟩)
                | ((with_reducible refine gate_dst (N := 46) rfl ?_)
                   refine app_sign w.heap.size (w0 := w) rfl (.tmp 43) (.tmp 45) rfl (.slice A6 n6 c6) (q ++ m) ⟨0, false, true⟩ rfl rfl HQ6.out HB6.out HB6.out.size (by simp only [List.length_append, List.length_cons, List.length_nil]; omega) ?_
                   intro A7 n7 c7 w7 hR hB hG
                   have HQ7 := Aside0.mk hR; have HB7 := Aside0.mk hB
                   have HX7 := Aside0.mk (blk_grown HX6.out hG (Kd.R_ne HQ6.out HX6.out (by decide))); clear hR hB hG))
                go_roundw
                case measure => simp [intOf]; omega
                case rel => exact ⟨j + 1, A7, n7, c7, by omega, by go_num, rfl, by rw [HCS.out, ← List.append_assoc]; unfold chr; rw [if_pos (by simp [hb])]; exact HQ7, HX7, HB7⟩
              · replace hb := Bool.eq_false_iff.mpr hb
                go_wp2_with (first
                | (go_at_call 54; refine (rbreak_any _ _).mono ?_; rintro e w' ⟨rfl, rfl⟩)
                | ((with_reducible refine gate_dst (N := 54) rfl ?_)
                   refine app_sign w.heap.size (w0 := w) rfl (.tmp 47) (.tmp 53) rfl (.slice A6 n6 c6) (q ++ m) ⟨bt tx j, false, false⟩ rfl rfl HQ6.out HB6.out HB6.out.size (by simp only [List.length_append, List.length_cons, List.length_nil]; omega) ?_
                   intro A7 n7 c7 w7 hR hB hG
                   have HQ7 := Aside0.mk hR; have HB7 := Aside0.mk hB
                   have HX7 := Aside0.mk (blk_grown HX6.out hG (Kd.R_ne HQ6.out HX6.out (by decide))); clear hR hB hG))
                go_roundw
                case measure => simp [intOf]; omega
                case rel => exact ⟨j + 1, A7, n7, c7, by omega, by go_num, rfl, by rw [HCS.out, ← List.append_assoc]; unfold chr; rw [if_neg (by simp [hb])]; exact HQ7, HX7, HB7⟩
            · go_wp2
              obtain rfl : j = tx.size := by omega
              rw [List.take_of_length_le (by rw [bytesOf_length]; omega)] at HQ6
              go_roundw
              case measure => simp [intOf]; omega
              case rel => exact ⟨k + 1, A6, n6, c6, by omega, by go_num, rfl, by rw [HSC.out]; simpa [psigns] using HQ6, HB6⟩
    · go_wp2
      obtain rfl : k = l.length := by omega
      rw [List.take_of_length_le (Nat.le_refl _)] at HQ
      go_ret
      exact ⟨A3, n3, c3, rfl, HQ.out, HB.out⟩
section
variable {ops : Array Oper} {rest : List Oper} {o : Oper} {a : Act} {Q : Exit → Act → World → Prop}
theorem app_str {w0 W : World} (base : Nat) (hgd : o.guard = none) (s x : Operand) (ho : o.op = .call { callee := .builtin .append, args := #[s, x], argTypes := #[28, 28] })
    (v : Value) (xs : List ByteArray) (p : ByteArray) (hs : a.eval s = v) (hx : a.eval x = .slice (some ⟨W.heap.size, 0, none⟩) 1 1)
    (HO : Kd.string.R 9 W base ok0 v xs) (HB : Below base w0 W) (hbase : base ≤ W.heap.size) (hl : xs.length + 1 ≤ 1000000000000)
    (h : ∀ A n c w1, Kd.string.R 9 w1 base ok0 (.slice A n c) (xs ++ [p]) → Below base w0 w1 → W.grownBy w1 v.ownBlock → wpList Try.prog ops Q rest (a.put o.dst (.slice A n c)) w1) :
    wpList Try.prog ops Q (o :: rest) a (W.alloc (.cells #[.string p] 9)) := by
  refine Kd.R_append Kd.string (w0 := w0) base hgd s x 28 9 (.string ⟨#[]⟩) 16 ho Try.underlying28 (by kernel_rfl) rfl (by decide) (by decide) v xs p [.string p] ok0 (fun _ => False) hs hx rfl (fun _ h => h.elim) (fun _ _ => trivial) HO HB hbase (by omega) ?_
  intro v1 w1 hR hB hG _
  obtain ⟨A, n, c, rfl⟩ := R_slice3 hR
  exact h A n c w1 hR hB hG
theorem app_byte {w0 W : World} (base : Nat) (hgd : o.guard = none) (s x : Operand) (ho : o.op = .call { callee := .builtin .append, args := #[s, x], argTypes := #[45, 45] })
    (v : Value) (xs : List Int) (p : Int) (hs : a.eval s = v) (hx : a.eval x = .slice (some ⟨W.heap.size, 0, none⟩) 1 1)
    (HO : (Kd.int .u8).R 5 W base ok0 v xs) (HB : Below base w0 W) (hbase : base ≤ W.heap.size) (hl : xs.length + 1 ≤ 1000000000000)
    (h : ∀ A n c w1, (Kd.int .u8).R 5 w1 base ok0 (.slice A n c) (xs ++ [p]) → Below base w0 w1 → W.grownBy w1 v.ownBlock → wpList Try.prog ops Q rest (a.put o.dst (.slice A n c)) w1) :
    wpList Try.prog ops Q (o :: rest) a (W.alloc (.cells #[.int .u8 p] 5)) := by
  refine Kd.R_append (Kd.int .u8) (w0 := w0) base hgd s x 45 5 (.int .u8 0) 1 ho Try.underlying45 (by kernel_rfl) rfl (by decide) (by decide) v xs p [.int .u8 p] ok0 (fun _ => False) hs hx rfl (fun _ h => h.elim) (fun _ _ => trivial) HO HB hbase (by omega) ?_
  intro v1 w1 hR hB hG _
  obtain ⟨A, n, c, rfl⟩ := R_slice3 hR
  exact h A n c w1 hR hB hG
end
set_option maxHeartbeats 2000000 in
set_option maxRecDepth 100000 in
theorem rsplit_any (A : Option Addr) (n c : Nat) (l : List Piece) (w : World) (hr : Kd.C kPiece w A n l) (hl : psize l ≤ 100000000) :
    Calls Try.prog 33 #[.slice A n c] w fun e w' => ∃ A' n' c', e = .returned (.slice A' n' c') ∧ Kd.string.C w' A' n' (split l) ∧ Below w.heap.size w w' := by
  obtain rfl := hr.1
  have HR := Aside0.mk hr
  clear hr
  have hm := Kd.C_max HR.out
  have hsl := signsL_size l
  have hEQ := Aside0.mk (rsplit_eq l)
  go_enter Try.func33, Try.ntmps33
  go_wp2_with fail
  refine (signs_any _ _ _ l _ (Kd.C_below HR.out (by repeat (first | exact Below.refl _ _ | refine below_drew ?_ | refine below_alloc ?_ _ | refine below_set ?_ (by simp; done) | refine below_set ?_ (by simp; omega)))) hl).mono ?_
  rintro e w1 ⟨A1, n1, c1, rfl, hR, hB⟩
  have HO0 := Aside0.mk (show Kd.string.R 9 w1 w.heap.size ok0 (.slice (some ⟨w.heap.size, 0, none⟩) 0 0) [] from Kd.R_below (Kd.R_below (R_empty (blk_new w _) (Nat.le_refl _)) (below_alloc (Below.refl _ _) _)) hB)
  have HN0 := Aside0.mk (show (Kd.int .u8).R 5 w1 w.heap.size ok0 (.slice (some ⟨w.heap.size + 1, 0, none⟩) 0 0) [] from Kd.R_below (R_empty (by simpa using blk_new (w.alloc (.cells #[] 9)) (.cells #[] 5)) (by omega)) hB)
  have HG0 := Aside0.mk (Kd.R_lower (base' := w.heap.size) hR (by simp; omega))
  have HB1 := Aside0.mk (below_trans (below_alloc (below_alloc (Below.refl w.heap.size w) _) _) (below_sub hB (by simp; omega)))
  clear hR hB
  generalize signsL l = L at *
  go_wp2_with (first
    | ((with_reducible refine gate_dst (N := 14) rfl ?_)
       refine app_sign w.heap.size (w0 := w) rfl (.tmp 11) (.tmp 13) rfl (.slice A1 n1 c1) L ⟨0, false, true⟩ rfl rfl HG0.out HB1.out HB1.out.size (by omega) ?_
       intro A2 n2 c2 w2 hR hB hG
       have HO2 := Aside0.mk (Kd.R_over HO0.out HG0.out (by decide) hG)
       have HN2 := Aside0.mk (Kd.R_over HN0.out HG0.out (by decide) hG)
       have HG2 := Aside0.mk hR; have HB2 := Aside0.mk hB; clear hR hB hG HO0 HN0 HG0 HB1))
  have hLL : (L ++ [(⟨0, false, true⟩ : Sign)]).length ≤ 200000000 := by rw [List.length_append]; simp; omega
  have hrs : rsplit L = (rN (L ++ [(⟨0, false, true⟩ : Sign)]) (L ++ [(⟨0, false, true⟩ : Sign)]).length).done := by unfold rsplit rN; rw [List.take_of_length_le (Nat.le_refl _)]
  generalize L ++ [(⟨0, false, true⟩ : Sign)] = M at *
  have HRS := Aside0.mk hrs
  clear hrs
  obtain ⟨hn2, hc2, _⟩ := Kd.R_reads' HG2.out
  subst hn2
  go_loopw [3, 4, 5, 16] (fun v3 v4 v5 v16 w' => ∃ (k : Nat) (A3 : Option Addr) (n3 c3 : Nat) (A4 : Option Addr) (n4 c4 : Nat), k ≤ M.length ∧ v16 = .int .i64 k ∧ v3 = .slice A3 n3 c3 ∧ v4 = .slice A4 n4 c4 ∧ v5 = .bool (rN M k).begun ∧ Aside0 (Kd.string.R 9 w' w.heap.size ok0 (.slice A3 n3 c3) (rN M k).done) ∧ Aside0 ((Kd.int .u8).R 5 w' w.heap.size ok0 (.slice A4 n4 c4) (rN M k).now) ∧ Aside0 (kSign.R 123 w' w.heap.size ok0 (.slice A2 M.length c2) M) ∧ Aside0 (Below w.heap.size w w')) (fun _ _ _ v16 _ => M.length - (intOf v16).toNat)
  case atStart => exact ⟨0, _, _, _, _, _, _, Nat.zero_le _, rfl, rfl, rfl, rfl, HO2, HN2, HG2, HB2⟩
  case round =>
    obtain ⟨k, A3, n3, c3, A4, n4, c4, hk, rfl, rfl, rfl, rfl, HO, HN, HG, HB⟩ := hrel
    by_cases hlt : k < M.length
    · have hsc := rN_succ M k hlt
      have hw := rN_w M k
      obtain ⟨ad, rfl, h0, h1, h2⟩ := at_sign (R_C HG.out) k hlt
      generalize M[k] = p at *
      generalize rN M k = q at *
      obtain ⟨cc, ed, pa⟩ := p
      simp only at h0 h1 h2
      obtain ⟨dn, nw, bg⟩ := q
      simp only [FS.w] at hw
      simp only at HO HN
      have HSC := Aside0.mk hsc
      clear hsc
      have hi0 : (0 : Int) ≤ (k : Int) := by omega
      have hi1 : (k : Int) < (M.length : Int) := by omega
      have hgb := HB.out.size
      go_upto_region 7 with (fail)
      have HBX := Aside0.mk (blk_new wr (.cells #[.int .u8 cc, .bool ed, .bool pa] 123))
      have HOB := Aside0.mk (Kd.R_below HO.out (below_alloc (Below.refl wr.heap.size wr) (.cells #[.int .u8 cc, .bool ed, .bool pa] 123)))
      have HNB := Aside0.mk (Kd.R_below HN.out (below_alloc (Below.refl wr.heap.size wr) (.cells #[.int .u8 cc, .bool ed, .bool pa] 123)))
      have HGB := Aside0.mk (Kd.R_below HG.out (below_alloc (Below.refl wr.heap.size wr) (.cells #[.int .u8 cc, .bool ed, .bool pa] 123)))
      have HBB := Aside0.mk (below_alloc HB.out (.cells #[.int .u8 cc, .bool ed, .bool pa] 123))
      generalize wr.alloc (.cells #[.int .u8 cc, .bool ed, .bool pa] 123) = wb at *
      generalize wr.heap.size = gb at *
      have b0 : wb.cell? ⟨gb, 0, none⟩ = some (.int .u8 cc) := (blk_cell HBX.out 0).trans rfl
      have b1 : wb.cell? ⟨gb, 1, none⟩ = some (.bool ed) := (blk_cell HBX.out 1).trans rfl
      have b2 : wb.cell? ⟨gb, 2, none⟩ = some (.bool pa) := (blk_cell HBX.out 2).trans rfl
      have hconv : (convert 45 9 (.slice A4 n4 c4)).run Try.prog wb = .ok (.string (strOfNums nw)) wb := Kd.C_string Try.underlying45 Try.underlying5 Try.underlying9 (R_C HNB.out)
      clear h0 h1 h2 HB HO HN HG
      cases pa with
      | true =>
        cases bg with
        | true =>
          go_wp2_with (first
            | ((with_reducible refine gate_dst (N := 29) rfl ?_)
               refine app_str w.heap.size (w0 := w) rfl (.tmp 25) (.tmp 28) rfl (.slice A3 n3 c3) dn (strOfNums nw) rfl rfl HOB.out HBB.out HBB.out.size (by omega) ?_
               intro A5 n5 c5 w5 hR hB hG
               have HN5 := Aside0.mk (Kd.R_over HNB.out HOB.out (by decide) hG)
               have HG5 := Aside0.mk (Kd.R_over HGB.out HOB.out (by decide) hG)
               have hg5 : w5.heap[gb]? = some (.cells #[.int .u8 cc, .bool ed, .bool true] 123 (0, 0)) := blk_grown HBX.out hG (Kd.R_ne HOB.out HBX.out (by decide))
               have b2 : w5.cell? ⟨gb, 2, none⟩ = some (.bool true) := (blk_cell hg5 2).trans rfl
               have HO5 := Aside0.mk hR; have HB5 := Aside0.mk hB; clear hR hB hG hg5))
          go_roundw
          case measure => simp [intOf]; omega
          case rel =>
            refine ⟨k + 1, A5, n5, c5, _, _, _, by omega, by go_num, rfl, rfl, by rw [HSC.out]; rfl, ?_, ?_, ⟨Kd.R_below HG5.out (below_alloc (Below.refl _ _) _)⟩, ⟨below_alloc HB5.out _⟩⟩
            · rw [HSC.out]; exact ⟨Kd.R_below HO5.out (below_alloc (Below.refl _ _) _)⟩
            · rw [HSC.out]; exact ⟨R_empty (blk_new w5 _) HB5.out.size⟩
        | false =>
          go_wp2
          go_roundw
          case measure => simp [intOf]; omega
          case rel =>
            refine ⟨k + 1, A3, n3, c3, _, _, _, by omega, by go_num, rfl, rfl, by rw [HSC.out]; rfl, ?_, ?_, ⟨Kd.R_below HGB.out (below_alloc (Below.refl _ _) _)⟩, ⟨below_alloc HBB.out _⟩⟩
            · rw [HSC.out]; exact ⟨Kd.R_below HOB.out (below_alloc (Below.refl _ _) _)⟩
            · rw [HSC.out]; exact ⟨R_empty (blk_new wb _) HBB.out.size⟩
      | false =>
        cases ed with
        | true =>
          go_wp2
          go_roundw
          case measure => simp [intOf]; omega
          case rel => exact ⟨k + 1, A3, n3, c3, A4, n4, c4, by omega, by go_num, rfl, rfl, by rw [HSC.out]; rfl, by rw [HSC.out]; exact HOB, by rw [HSC.out]; exact HNB, HGB, HBB⟩
        | false =>
          go_wp2_with (first
            | ((with_reducible refine gate_dst (N := 40) rfl ?_)
               refine app_byte w.heap.size (w0 := w) rfl (.tmp 36) (.tmp 39) rfl (.slice A4 n4 c4) nw cc rfl rfl HNB.out HBB.out HBB.out.size (by omega) ?_
               intro A5 n5 c5 w5 hR hB hG
               have HO5 := Aside0.mk (Kd.R_over HOB.out HNB.out (by decide) hG)
               have HG5 := Aside0.mk (Kd.R_over HGB.out HNB.out (by decide) hG)
               have HN5 := Aside0.mk hR; have HB5 := Aside0.mk hB; clear hR hB hG))
          go_roundw
          case measure => simp [intOf]; omega
          case rel => exact ⟨k + 1, A3, n3, c3, A5, n5, c5, by omega, by go_num, rfl, rfl, by rw [HSC.out]; rfl, by rw [HSC.out]; exact HO5, by rw [HSC.out]; exact HN5, HG5, HB5⟩
    · go_wp2
      obtain rfl : k = M.length := by omega
      go_ret
      exact ⟨A3, n3, c3, rfl, by rw [← hEQ.out, HRS.out]; exact R_C HO.out, HB.out⟩
set_option maxHeartbeats 2000000 in
set_option maxRecDepth 100000 in
theorem splits_any (A : Option Addr) (n c : Nat) (l : List Piece) (w : World) (hr : Kd.C kPiece w A n l) (hc : n ≤ c) (hs : ∀ p ∈ l, p.text.size ≤ reachBytes) :
    Calls Try.prog 7 #[.slice A n c] w fun e w' => e = .returned (.bool true) ∧ Below w.heap.size w w' := by
  obtain rfl := hr.1
  have HR := Aside0.mk hr
  have HC := Aside0.mk hc
  clear hr hc
  by_cases h5 : psize l ≤ 5000
  · have ea : (heavyI l == 1) = false := by simp [heavyI, h5]
    have hp : psize l ≤ 100000000 := by omega
    have hbj := bytesN_join l
    have hjz := joinL_size l
    have hj1 := fun (A : Option Addr) (n c : Nat) (w : World) (h : Kd.C kPiece w A n l) => join_any A n c l w h hp
    have hj2 := fun (A : Option Addr) (n c : Nat) (w : World) (h : Kd.C kPiece w A n l) => rjoin_any A n c l w h hp
    have hz : (⟨(joinL l).toArray⟩ : ByteArray).size = bytesN l := by rw [hbj]; rfl
    generalize (⟨(joinL l).toArray⟩ : ByteArray) = s at *
    have e1 : (s.toList == s.toList) = true := beq_self_eq_true _
    have e2 : ((bytesN l : Int) == (s.size : Int)) = true := by rw [hz]; exact beq_self_eq_true _
    have e3 : (bytesN l == s.size) = true := by rw [hz]; exact beq_self_eq_true _
    have HJ1 := Aside0.mk hj1
    have HJ2 := Aside0.mk hj2
    clear hz hbj hj1 hj2
    go_enter Try.func7, Try.ntmps7
    go_wp2_with (first
      | (go_at_call 14; refine (alive_any _).mono ?_; rintro e w1 ⟨rfl, hB⟩; have HB1 := Aside0.mk hB; clear hB)
      | (go_at_call 15; refine (heavy_any _ _ _ l _ (Kd.C_below HR.out HB1.out) HC.out hs).mono ?_; rintro e w2 ⟨rfl, hB⟩; have HB2 := Aside0.mk (below_trans HB1.out (below_sub hB HB1.out.size)); clear hB HB1)
      | (go_at_call 21; refine (HJ1.out _ _ _ _ (Kd.C_below HR.out HB2.out)).mono ?_; rintro e w3 ⟨rfl, hB⟩; have HB3 := Aside0.mk (below_trans HB2.out (below_sub hB HB2.out.size)); clear hB HB2)
      | (go_at_call 17; refine (split_any _ _ _ l _ (Kd.C_below HR.out HB3.out) HC.out hp).mono ?_; rintro e w4 ⟨v, rfl, hR, hB⟩
         obtain ⟨A6, n6, c6, rfl⟩ := R_slice3 hR
         have HF := Aside0.mk (R_C hR); have HB4 := Aside0.mk (below_trans HB3.out (below_sub hB HB3.out.size)); clear hB hR HB3)
      | (go_at_call 33; refine (rsplit_any _ _ _ l _ (Kd.C_below HR.out HB4.out) hp).mono ?_; rintro e w5 ⟨A7, n7, c7, rfl, hR, hB⟩
         have HF1 := Aside0.mk (Kd.C_below HF.out hB); have HF2 := Aside0.mk hR; have HB5 := Aside0.mk (below_trans HB4.out (below_sub hB HB4.out.size)); clear hB hR HB4)
      | (go_at_call 16; refine (same_true _ _ _ _ _ _ _ _ HF1.out HF2.out).mono ?_; rintro e w6 ⟨rfl, hB⟩; have HB6 := Aside0.mk (below_trans HB5.out (below_sub hB HB5.out.size)); clear hB HB5)
      | (go_at_call 34; refine (HJ2.out _ _ _ _ (Kd.C_below HR.out HB6.out)).mono ?_; rintro e w7 ⟨rfl, hB⟩; have HB7 := Aside0.mk (below_trans HB6.out (below_sub hB HB6.out.size)); clear hB HB6)
      | (go_at_call 35; refine (bytes_any _ _ _ l _ (Kd.C_below HR.out HB7.out) hp).mono ?_; rintro e w8 ⟨rfl, hB⟩; have HB8 := Aside0.mk (below_trans HB7.out (below_sub hB HB7.out.size)); clear hB HB7))
    go_ret
    exact ⟨rfl, HB8.out⟩
  · have ea : (heavyI l == 1) = true := by simp [heavyI, h5]
    go_enter Try.func7, Try.ntmps7
    go_wp2_with (first
      | (go_at_call 14; refine (alive_any _).mono ?_; rintro e w1 ⟨rfl, hB⟩; have HB1 := Aside0.mk hB; clear hB)
      | (go_at_call 15; refine (heavy_any _ _ _ l _ (Kd.C_below HR.out HB1.out) HC.out hs).mono ?_; rintro e w2 ⟨rfl, hB⟩; have HB2 := Aside0.mk (below_trans HB1.out (below_sub hB HB1.out.size)); clear hB HB1))
    go_ret
    exact ⟨rfl, HB2.out⟩
namespace RowFieldSplits
open Go.ChangeShapes Go.WideShapes Go.ChangeAt Go.RowKit
open Go.ChangeMaps (open_string shut_string)
theorem own : ownKnob Try.prog.godebug = none := by kernel_rfl
theorem laidOut : laidOutB Try.prog = true := by kernel_rfl
set_option maxRecDepth 100000 in
theorem lifted (os : Os) (started : os.Started) (H : Type) (enc : TypeId × Value → H) :
    ReturnsInHanded {} Try.checked os 7 .any (Rows.fieldSplitsSpec.pre6 enc Try.prog Try.f7 Rows.fieldSplitsRow.domain false) (Rows.fieldSplitsSpec.post enc Try.prog Try.f7 false true false false) := by
  refine returnsInHanded_of_change_sized (C := Try.checked) own started (by kernel_rfl) Try.func7
    (ChangeSpec.witness6 (enc := enc) (C := Try.checked) false ⟨#[], #[.slice none 0 0], []⟩ 8 (by kernel_rfl) (by kernel_rfl) (by kernel_rfl) (by kernel_rfl)) ?_
  intro W base args ds gs before hval0 hW hcnd hsz0 _
  have hsz : (DataW.weightsEach Try.prog (Try.f7.params.toList ++ Rows.fieldSplitsSpec.plain.varTypes Try.prog) (ds ++ gs)).all (· ≤ reachBytes) = true := hsz0
  have hval : ∀ (j : Nat) t v, Try.f7.params[j]? = some t → args[j]? = some v → Value.okWide Try.prog W .any base t v := hval0
  have hW' := hW
  obtain ⟨p, q, hA0, hV, rfl, hfz, hnd⟩ := hW
  have hA : DataW.TrodAll enc Try.prog W 0 (fun _ => true) true Try.f7.params.toList args.toList ds p := hA0
  rw [Try.params7] at hA hval hsz
  obtain ⟨v0, vs0, d0, ds0, p0, q0, hargs, rfl, rfl, h0, r0⟩ := trodAll_cons hA
  obtain ⟨rfl, rfl, rfl⟩ := trodAll_nil r0
  obtain rfl : args = #[v0] := by cases args; simp_all
  obtain ⟨rfl, rfl⟩ := trodVars_none hV
  obtain ⟨a0, n0, c0, rfl⟩ := okWide_slice Try.underlying22 (hval 0 22 v0 rfl rfl)
  have t0 := h0
  have lt0 : ∀ x ∈ p0, x.block < W.heap.size := by obtain ⟨m, hm⟩ := t0; exact DataW.trod_lt m _ _ _ hm
  have z0 : ∀ n ∈ d0.weights Try.prog 22, n ≤ reachBytes := fun n hn => by simpa using List.all_eq_true.1 hsz n (DataW.weights_mem_each (j := 0) rfl rfl n hn)
  obtain ⟨l0, C0, k0, V0⟩ := Open.open_sl (Open.op_slice Try.underlying22 (by kernel_rfl) (Open.op_piece W)) h0 z0
  clear hA0 hval0 hsz0 hsz
  refine (splits_any _ _ _ l0 W C0 k0 V0.2).mono fun e W' ⟨he, bel⟩ => ?_
  subst he
  exact ⟨_, rfl, _, _, _, [], _, [], hW', trodAll_mk1 (shut_bool Try.underlying4 _), (trodAll_cons_mk (Below.trod laidOut (by kernel_rfl) (of_decide_eq_true (by kernel_rfl)) t0 bel lt0) trodAll_mk0), rfl, bel.frame _, fun h => by cases h⟩
theorem proved : Rows.FieldSplitsSaid :=
  OpenClaim.holds_of_wide 7 Try.f7 rfl rfl rfl rfl rfl rfl rfl ⟨rfl, rfl, rfl, rfl, rfl⟩ rfl rfl rfl rfl rfl (by kernel_rfl) Try.func7 (by kernel_rfl)
    (of_decide_eq_true (by kernel_rfl)) (by unfold Func.isWrapper; first | (rw [if_pos (by decide +kernel)]; kernel_rfl) | (rw [if_neg (by decide +kernel)]; exact ⟨rfl, rfl⟩))
    (fun os started H enc _ => lifted os started H enc)
end RowFieldSplits
theorem fieldSplits_holds : Rows.FieldSplitsSaid := RowFieldSplits.proved
#print axioms fieldSplits_holds
end Go.Proofs.Ytkepmbkghmkodaa
