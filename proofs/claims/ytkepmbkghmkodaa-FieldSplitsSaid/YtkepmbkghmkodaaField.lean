/- field: contracts of the program's functions. -/
import Derived.Test.YtkepmbkghmkodaaClass
import Derived.Test.YtkepmbkghmkodaaFieldPure
namespace Go.Proofs.Ytkepmbkghmkodaa.Field
open Go.RowKit Go.Proofs.YtkepmbkghmkodaaW.PrintWords Go.Proofs.YtkepmbkghmkodaaW.PrintLast Go.Proofs.Ytkepmbkghmkodaa.Seq Go.Proofs.Ytkepmbkghmkodaa.Base Go.Proofs.Ytkepmbkghmkodaa.Class
set_option linter.unusedVariables false
set_option linter.unusedSimpArgs false

/-- The state of a 'fields' at block g. -/
def St (w : World) (base g : Nat) (done : List ByteArray) (now : List Int) (begun : Bool) : Prop :=
  ∃ vd vn, w.heap[g]? = some (.cells #[vd, vn, .bool begun] 89 (0,0)) ∧ base ≤ g ∧ Kd.string.R 9 w base ok0 vd done ∧ (Kd.int .u8).R 5 w base ok0 vn now

set_option maxHeartbeats 1000000 in
set_option maxRecDepth 100000 in
theorem end_false (base g : Nat) (done : List ByteArray) (now : List Int) (w : World) (h : St w base g done now false) :
    Calls Try.prog 69 #[.pointer (some ⟨g, 0, none⟩)] w fun e w' => e = .returned (.tuple #[]) ∧ St w' base g done [] false ∧ Below base w w' := by
  obtain ⟨vd, vn, hg, hb, hd, hn⟩ := h
  obtain ⟨A, c, rfl, hlc, hC⟩ := Kd.R_reads hn
  go_enter Try.func69, Try.ntmps69
  have c0 : w.cell? ⟨g, 0, none⟩ = some vd := (blk_cell hg 0).trans rfl
  have c1 : w.cell? ⟨g, 1, none⟩ = some (.slice A now.length c) := (blk_cell hg 1).trans rfl
  have c2 : w.cell? ⟨g, 2, none⟩ = some (.bool false) := (blk_cell hg 2).trans rfl
  have f1 := blk_frozen hg 1
  have f2 := blk_frozen hg 2
  have HG := Aside0.mk hg
  have HD := Aside0.mk hd
  have HN := Aside0.mk hn
  clear hg hd hn hC
  go_wp2
  go_end0
  have hg1 := blk_put HG.out 1 (.slice A 0 c) rfl
  refine ⟨rfl, ⟨vd, .slice A 0 c, blk_put hg1 2 (.bool false) rfl, hb, Kd.R_set (Kd.R_set HD.out HG.out (by decide) _ _) hg1 (by decide) _ _, ?_⟩, ((Below.refl _ _).setCell hb _).setCell hb _⟩
  exact Kd.R_set (Kd.R_set (by simpa using Kd.R_take (m := 0) HN.out (Nat.zero_le _)) HG.out (by decide) _ _) hg1 (by decide) _ _

set_option maxHeartbeats 1000000 in
set_option maxRecDepth 100000 in
theorem end_true (base g : Nat) (done : List ByteArray) (now : List Int) (w : World) (h : St w base g done now true) (hl : done.length ≤ 4294967296) :
    Calls Try.prog 69 #[.pointer (some ⟨g, 0, none⟩)] w fun e w' => e = .returned (.tuple #[]) ∧ St w' base g (done ++ [strOfNums now]) [] false ∧ Below base w w' := by
  obtain ⟨vd, vn, hg, hb, hd, hn⟩ := h
  obtain ⟨A, c, rfl, hlc, hC⟩ := Kd.R_reads hn
  go_enter Try.func69, Try.ntmps69
  have c0 : w.cell? ⟨g, 0, none⟩ = some vd := (blk_cell hg 0).trans rfl
  have c1 : w.cell? ⟨g, 1, none⟩ = some (.slice A now.length c) := (blk_cell hg 1).trans rfl
  have c2 : w.cell? ⟨g, 2, none⟩ = some (.bool true) := (blk_cell hg 2).trans rfl
  have HG := Aside0.mk hg
  have HD := Aside0.mk hd
  have HN := Aside0.mk hn
  clear hg hd hn hC
  go_wp2
  have hconv : ∀ W, Below w.heap.size w W → (convert 45 9 (.slice A now.length c)).run Try.prog W = .ok (.string (strOfNums now)) W := fun W hb =>
    Kd.C_string Try.underlying45 Try.underlying5 Try.underlying9 (Kd.C_below (Kd.R_reads' HN.out).2.2 hb)
  refine region_seq (fun w_ => Below w.heap.size w w_) [11, 12, 13, 14]
    [(0, some 6, .pure), (1, some 7, .pure), (2, some 8, .pure), (3, some 9, .pure), (5, some 11, .pure), (6, some 12, .pure), (7, some 13, .pure), (4, some 10, .held), (8, some 14, .held), (9, some 15, .held), (10, some 16, .one), (11, some 17, .last), (12, some 18, .last), (13, some 19, .last), (14, none, .last)] (by kernel_rfl) (by kernel_rfl) ?_
  have hS := below_drew (Below.refl w.heap.size w)
  repeat (first
    | (refine s_pure (v := ?_) (a' := ?_) rfl (fun _ _ _ h => h) rfl ?hy ?ha ?_; (case hy => (intro w_; go_simp; with_reducible rfl)); (case ha => (simp only [Act.put, List.setIfInBounds_toArray, List.set_cons_zero, List.set_cons_succ, i64_w, i32_w]; rfl)))
    | (refine s_held (v := ?_) (a' := ?_) hS rfl (fun _ _ _ h => h) rfl ?hy ?ha ?_; (case hy => (intro w_ hb_; have s0 := pw_cell_below hb_ c0; have s1 := pw_cell_below hb_ c1; have t0 := hconv w_ hb_; go_simp; with_reducible rfl)); (case ha => (simp only [Act.put, List.setIfInBounds_toArray, List.set_cons_zero, List.set_cons_succ, i64_w, i32_w]; rfl))))
  (refine s_new (v := ?_) (w1 := ?_) (a' := ?_) rfl rfl rfl ?hy ?ha ?hS ?_; (case hy => (go_simp; first | with_reducible rfl | (refine ⟨?_, ?_⟩ <;> with_reducible rfl))); (case ha => (simp only [Act.put, List.setIfInBounds_toArray, List.set_cons_zero, List.set_cons_succ, i64_w, i32_w]; rfl)); (case hS => (repeat (first | exact hS | exact Below.refl _ _ | refine below_drew ?_ | refine below_alloc ?_ _))))
  refine s_tail 11 _ (by kernel_rfl) ?_
  simp only [List.drop_succ_cons, List.drop_zero]
  go_wp2_with (first | (
    (with_reducible refine gate_dst (N := 17) rfl ?_)
    refine Kd.R_append Kd.string base (w0 := w) (W := w.drew) rfl (.tmp 10) (.tmp 16) 28 9 (.string ⟨#[]⟩) 16 rfl Try.underlying28 (by kernel_rfl) rfl (by decide) (by decide) vd done (strOfNums now) [.string (strOfNums now)] ok0 (fun _ => False) rfl rfl rfl (fun _ h => h.elim) (fun _ _ => trivial) HD.out (below_drew (Below.refl _ _)) (by have := blk_lt HG.out; show base ≤ w.heap.size; omega) (by omega) ?_
    intro v1 w1 hR hB hG hat
    obtain ⟨A1, n1, cp1, rfl⟩ := R_slice3 hR
    have HR := Aside0.mk hR
    have HB := Aside0.mk hB
    have HN1 := Aside0.mk (Kd.R_over (W := w.drew) HN.out (show Kd.string.R 9 w.drew base ok0 vd done from HD.out) (by decide) hG)
    have hg1 : w1.heap[g]? = some (.cells #[vd, .slice A now.length c, .bool true] 89 (0,0)) := blk_grown (w := w.drew) HG.out hG (Kd.R_ne (w := w.drew) HD.out HG.out (by decide))
    have c0 : w1.cell? ⟨g, 0, none⟩ = some vd := (blk_cell hg1 0).trans rfl
    have c1 : w1.cell? ⟨g, 1, none⟩ = some (.slice A now.length c) := (blk_cell hg1 1).trans rfl
    have c2 : w1.cell? ⟨g, 2, none⟩ = some (.bool true) := (blk_cell hg1 2).trans rfl
    have f0 := blk_frozen hg1 0
    have f1 := blk_frozen hg1 1
    have f2 := blk_frozen hg1 2
    have HG1 := Aside0.mk hg1
    clear hR hB hG hat hg1))
  go_end0
  have hg2 := blk_put HG1.out 0 (.slice A1 n1 cp1) rfl
  have hg3 := blk_put hg2 1 (.slice A 0 c) rfl
  have e1 := Kd.R_set (Kd.R_set (Kd.R_set HR.out HG1.out (by decide) 0 (.slice A1 n1 cp1)) hg2 (by decide) 1 (.slice A 0 c)) hg3 (by decide) 2 (.bool false)
  have e2 := Kd.R_set (Kd.R_set (Kd.R_set (show (Kd.int .u8).R 5 w1 base ok0 (.slice A 0 c) [] by simpa using Kd.R_take (m := 0) HN1.out (Nat.zero_le _)) HG1.out (by decide) 0 (.slice A1 n1 cp1)) hg2 (by decide) 1 (.slice A 0 c)) hg3 (by decide) 2 (.bool false)
  exact ⟨rfl, ⟨_, .slice A 0 c, blk_put hg3 2 (.bool false) rfl, hb, e1, e2⟩, ((HB.out.setCell hb _).setCell hb _).setCell hb _⟩

def StF (w : World) (base g : Nat) (s : FS) : Prop := St w base g s.done s.now s.begun
theorem end_any (base g : Nat) (s : FS) (w : World) (h : StF w base g s) (hl : s.done.length ≤ 4294967296) :
    Calls Try.prog 69 #[.pointer (some ⟨g, 0, none⟩)] w fun e w' => e = .returned (.tuple #[]) ∧ StF w' base g (fend s) ∧ Below base w w' := by
  obtain ⟨done, now, begun⟩ := s
  cases begun
  · exact end_false base g done now w h
  · exact end_true base g done now w h hl

set_option maxHeartbeats 1000000 in
set_option maxRecDepth 100000 in
theorem loose_any (base g : Nat) (s : FS) (t : ByteArray) (w : World) (h : StF w base g s) (hl : s.w + 2 * t.size ≤ 1000000000) :
    Calls Try.prog 70 #[.pointer (some ⟨g, 0, none⟩), .string t] w fun e w' => e = .returned (.tuple #[]) ∧ StF w' base g (floose s t) ∧ Below base w w' := by
  have HS := Aside0.mk h
  clear h
  go_enter Try.func70, Try.ntmps70
  go_wp2
  go_loopw [7] (fun v7 w' => ∃ k : Nat, k ≤ t.size ∧ v7 = .int .i64 k ∧ Aside0 (StF w' base g (flooseN s t k)) ∧ Aside0 (Below base w w')) (fun v7 _ => t.size - (intOf v7).toNat)
  case atStart => exact ⟨0, Nat.zero_le _, rfl, HS, ⟨Below.refl _ _⟩⟩
  case round =>
    obtain ⟨k, hk, rfl, HS, HB⟩ := hrel
    have hw := flooseN_w s t k
    by_cases hlt : k < t.size
    · have hbt := bt_nat t k
      have hsc := flooseN_succ s t k hlt
      generalize flooseN s t k = q at *
      have HSC := Aside0.mk hsc
      clear hsc
      by_cases hb : breakB (bt t k) = true
      · go_wp2_with (first
          | (go_at_call 18; refine (break_any _ _).mono ?_; rintro e w' ⟨rfl, rfl⟩)
          | (go_at_call 69; refine (end_any base g q _ HS.out (by have := w_done q; omega)).mono ?_; rintro e w' ⟨rfl, hS1, hB1⟩; have HS1 := Aside0.mk hS1; have HB1 := Aside0.mk hB1; clear hS1 hB1))
        go_roundw
        case rel => exact ⟨k + 1, by omega, by go_num, by rw [HSC.out]; unfold floose1; rw [if_pos hb]; exact HS1, ⟨below_trans HB.out HB1.out⟩⟩
        case measure => simp [intOf]; omega
      · replace hb := Bool.eq_false_iff.mpr hb
        obtain ⟨vd, vn, hg, hbg, hd, hn⟩ := HS.out
        obtain ⟨A, c, rfl, hlc, hC⟩ := Kd.R_reads hn
        have c1 : wr.cell? ⟨g, 1, none⟩ = some (.slice A q.now.length c) := (blk_cell hg 1).trans rfl
        have HG := Aside0.mk hg
        have HD := Aside0.mk hd
        have HN := Aside0.mk hn
        clear hg hd hn hC
        go_wp2_with (first
          | (go_at_call 18; refine (break_any _ _).mono ?_; rintro e w' ⟨rfl, rfl⟩))
        refine region_seq (fun w_ => Below wr.heap.size wr w_) [10, 11, 12, 13, 14, 15, 16]
          [(0, some 16, .pure), (1, some 17, .pure), (2, some 18, .pure), (3, some 19, .pure), (4, some 20, .pure), (6, some 22, .pure), (7, some 23, .pure), (8, some 24, .pure), (5, some 21, .held), (9, some 25, .one), (10, some 26, .last), (11, some 27, .last), (12, some 28, .last), (13, none, .last), (14, some 29, .last), (15, some 30, .last), (16, none, .last)] (by kernel_rfl) (by kernel_rfl) ?_
        have hS := below_drew (Below.refl wr.heap.size wr)
        repeat (first
          | (refine s_pure (v := ?_) (a' := ?_) rfl (fun _ _ _ h => h) rfl ?hy ?ha ?_; (case hy => (intro w_; go_simp; with_reducible rfl)); (case ha => (simp only [Act.put, List.setIfInBounds_toArray, List.set_cons_zero, List.set_cons_succ, i64_w, i32_w]; rfl)))
          | (refine s_held (v := ?_) (a' := ?_) hS rfl (fun _ _ _ h => h) rfl ?hy ?ha ?_; (case hy => (intro w_ hb_; have s0 := pw_cell_below hb_ c1; go_simp; with_reducible rfl)); (case ha => (simp only [Act.put, List.setIfInBounds_toArray, List.set_cons_zero, List.set_cons_succ, i64_w, i32_w]; rfl))))
        (refine s_new (v := ?_) (w1 := ?_) (a' := ?_) rfl rfl rfl ?hy ?ha ?hS ?_; (case hy => (go_simp; first | with_reducible rfl | (refine ⟨?_, ?_⟩ <;> with_reducible rfl))); (case ha => (simp only [Act.put, List.setIfInBounds_toArray, List.set_cons_zero, List.set_cons_succ, i64_w, i32_w]; rfl)); (case hS => (repeat (first | exact hS | exact Below.refl _ _ | refine below_drew ?_ | refine below_alloc ?_ _))))
        refine s_tail 10 _ (by kernel_rfl) ?_
        simp only [List.drop_succ_cons, List.drop_zero]
        go_wp2_with (first | (
          (with_reducible refine gate_dst (N := 26) rfl ?_)
          refine Kd.R_append (Kd.int .u8) base (w0 := w) (W := wr.drew) rfl (.tmp 21) (.tmp 25) 45 5 (.int .u8 0) 1 rfl Try.underlying45 (by kernel_rfl) rfl (by decide) (by decide) _ q.now (bt t k) [.int .u8 (bt t k)] ok0 (fun _ => False) rfl rfl rfl (fun _ h => h.elim) (fun _ _ => trivial) HN.out (below_drew HB.out) (by have := blk_lt HG.out; show base ≤ wr.heap.size; omega) (by have := w_now q; omega) ?_
          intro v1 w1 hR hB hG hat
          obtain ⟨A1, n1, cp1, rfl⟩ := R_slice3 hR
          have HR := Aside0.mk hR
          have HB1 := Aside0.mk hB
          have HD1 := Aside0.mk (Kd.R_over (W := wr.drew) HD.out (show (Kd.int .u8).R 5 wr.drew base ok0 (.slice A q.now.length c) q.now from HN.out) (by decide) hG)
          have hg1 : w1.heap[g]? = some (.cells #[vd, .slice A q.now.length c, .bool q.begun] 89 (0,0)) := blk_grown (w := wr.drew) HG.out hG (Kd.R_ne (w := wr.drew) HN.out HG.out (by decide))
          have c0 : w1.cell? ⟨g, 0, none⟩ = some vd := (blk_cell hg1 0).trans rfl
          have c1 : w1.cell? ⟨g, 1, none⟩ = some (.slice A q.now.length c) := (blk_cell hg1 1).trans rfl
          have c2 : w1.cell? ⟨g, 2, none⟩ = some (.bool q.begun) := (blk_cell hg1 2).trans rfl
          have f1 := blk_frozen hg1 1
          have f2 := blk_frozen hg1 2
          have HG1 := Aside0.mk hg1
          clear hR hB hG hat hg1))
        go_roundw
        case measure => simp [intOf]; omega
        case rel =>
          refine ⟨k + 1, by omega, by go_num, ?_, ⟨(HB1.out.setCell hbg _).setCell hbg _⟩⟩
          rw [HSC.out]; unfold floose1; rw [if_neg (by simp [hb])]
          have hg2 := blk_put HG1.out 1 (.slice A1 n1 cp1) rfl
          have e1 := Kd.R_set (Kd.R_set HR.out HG1.out (by decide) 1 (.slice A1 n1 cp1)) hg2 (by decide) 2 (.bool true)
          have e2 := Kd.R_set (Kd.R_set HD1.out HG1.out (by decide) 1 (.slice A1 n1 cp1)) hg2 (by decide) 2 (.bool true)
          exact ⟨⟨vd, _, blk_put hg2 2 (.bool true) rfl, hbg, e2, e1⟩⟩
    · go_wp2
      go_end0
      obtain rfl : k = t.size := by omega
      exact ⟨rfl, by rw [← flooseN_all]; exact HS.out, HB.out⟩
theorem StF_below {w w1 : World} {base g : Nat} {s : FS} (h : StF w base g s) (hb : Below w.heap.size w w1) : StF w1 base g s := by
  obtain ⟨vd, vn, hg, hbg, hd, hn⟩ := h
  exact ⟨vd, vn, blk_below hg hb, hbg, Kd.R_below hd hb, Kd.R_below hn hb⟩

set_option maxHeartbeats 1000000 in
set_option maxRecDepth 100000 in
theorem split_any (A : Option Addr) (n c : Nat) (l : List Piece) (w : World) (hr : Kd.C kPiece w A n l) (hc : n ≤ c) (hl : psize l ≤ 100000000) :
    Calls Try.prog 17 #[.slice A n c] w fun e w' => ∃ v, e = .returned v ∧ Kd.string.R 9 w' w.heap.size ok0 v (split l) ∧ Below w.heap.size w w' := by
  obtain rfl := hr.1
  have HR := Aside0.mk hr
  have HC := Aside0.mk hc
  clear hr hc
  have hm := Kd.C_max HR.out
  go_enter Try.func17, Try.ntmps17
  go_wp2
  go_loopw [8] (fun v8 w' => ∃ k : Nat, k ≤ l.length ∧ v8 = .int .i64 k ∧ Aside0 (StF w' w.heap.size w.heap.size (splitN l k)) ∧ Aside0 (Below w.heap.size w w')) (fun v8 _ => l.length - (intOf v8).toNat)
  case atStart =>
    refine ⟨0, Nat.zero_le _, rfl, ⟨⟨_, _, blk_new w _, Nat.le_refl _, Kd.R_nil _ _ _ _ _, Kd.R_nil _ _ _ _ _⟩⟩, ⟨below_alloc (Below.refl _ _) _⟩⟩
  case round =>
    obtain ⟨k, hk, rfl, HS, HB⟩ := hrel
    by_cases hlt : k < l.length
    · have hsc := splitN_succ l k hlt
      have hw := splitN_w l k
      have hps := psize_get l k hlt
      generalize splitN l k = q at *
      obtain ⟨ad, rfl, h0, h1, h2⟩ := at_piece HR.out k hlt
      replace h0 := pw_cell_below HB.out h0
      replace h1 := pw_cell_below HB.out h1
      replace h2 := pw_cell_below HB.out h2
      generalize l[k] = p at *
      have HSC := Aside0.mk hsc
      clear hsc
      have hi0 : (0 : Int) ≤ (k : Int) := by omega
      have hi1 : (k : Int) < (l.length : Int) := by omega
      by_cases hcut : p.cut = true
      · go_wp2_with (first
          | (go_at_call 69; refine (end_any _ _ q _ (StF_below HS.out (by repeat (first | exact Below.refl _ _ | refine below_drew ?_ | refine below_alloc ?_ _ | refine below_set ?_ (by simp; done) | refine below_set ?_ (by simp; omega)))) (by have := w_done q; omega)).mono ?_; rintro e w1 ⟨rfl, hS1, hB1⟩; have HS1 := Aside0.mk hS1; have HB1 := Aside0.mk hB1; clear hS1 hB1))
        go_roundw
        case measure => simp [intOf]; omega
        case rel => exact ⟨k + 1, by omega, by go_num, by rw [HSC.out]; unfold fpiece; rw [if_pos hcut]; exact HS1, ⟨below_trans HB.out (below_sub (below_trans (below_sub (by repeat (first | exact Below.refl _ _ | refine below_drew ?_ | refine below_alloc ?_ _ | refine below_set ?_ (by simp; done) | refine below_set ?_ (by simp; omega))) HB.out.size) (below_sub HB1.out (by simp))) (Nat.le_refl _))⟩⟩
      · replace hcut := Bool.eq_false_iff.mpr hcut
        by_cases hq : p.quoted = true
        · obtain ⟨vd, vn, hg, hbg, hd, hn⟩ := HS.out
          obtain ⟨A, cn, rfl, hlc, hC⟩ := Kd.R_reads hn
          have c1 : wr.cell? ⟨w.heap.size, 1, none⟩ = some (.slice A q.now.length cn) := (blk_cell hg 1).trans rfl
          have ca1 := fun o => pw_cell_below (below_alloc (Below.refl wr.heap.size wr) o) c1
          have HG := Aside0.mk hg
          have HD := Aside0.mk hd
          have HN := Aside0.mk hn
          clear hg hd hn hC
          go_wp2_with (first
            | (refine R_append_str w.heap.size (N := 26) (w0 := w) rfl rfl (.tmp 23) (.tmp 25) 45 9 5 rfl Try.underlying45 Try.underlying9 (by kernel_rfl) (.slice A q.now.length cn) q.now p.text rfl rfl (Kd.R_below HN.out (by repeat (first | exact Below.refl _ _ | refine below_drew ?_ | refine below_alloc ?_ _ | refine below_set ?_ (by simp; done) | refine below_set ?_ (by simp; omega)))) (below_trans HB.out (below_sub (by repeat (first | exact Below.refl _ _ | refine below_drew ?_ | refine below_alloc ?_ _ | refine below_set ?_ (by simp; done) | refine below_set ?_ (by simp; omega))) HB.out.size)) (by simp; have := HB.out.size; omega) (by have := w_now q; omega) ?_
               intro v1 w1 hR hB hG
               obtain ⟨A1, n1, cp1, rfl⟩ := R_slice3 hR
               have HR1 := Aside0.mk hR
               have HB1 := Aside0.mk hB
               have HNa := Kd.R_below HN.out (below_alloc (Below.refl wr.heap.size wr) (Obj.cells #[Value.string p.text, Value.bool true, Value.bool false] 26))
               have HDa := Kd.R_below HD.out (below_alloc (Below.refl wr.heap.size wr) (Obj.cells #[Value.string p.text, Value.bool true, Value.bool false] 26))
               have HD1 := Aside0.mk (Kd.R_over HDa HNa (by decide) hG)
               have hg1 : w1.heap[w.heap.size]? = some (.cells #[vd, .slice A q.now.length cn, .bool q.begun] 89 (0,0)) := blk_grown (blk_alloc HG.out _) hG (Kd.R_ne HNa (blk_alloc HG.out _) (by decide))
               have c1 : w1.cell? ⟨w.heap.size, 1, none⟩ = some (.slice A q.now.length cn) := (blk_cell hg1 1).trans rfl
               have c2 : w1.cell? ⟨w.heap.size, 2, none⟩ = some (.bool q.begun) := (blk_cell hg1 2).trans rfl
               have f1 := blk_frozen hg1 1
               have f2 := blk_frozen hg1 2
               have HG1 := Aside0.mk hg1
               clear hR hB hG hg1 HNa HDa))
          go_roundw
          case measure => simp [intOf]; omega
          case rel =>
            refine ⟨k + 1, by omega, by go_num, ?_, ⟨(HB1.out.setCell hbg _).setCell hbg _⟩⟩
            rw [HSC.out]; unfold fpiece; rw [if_neg (by simp [hcut]), if_pos hq]
            have hg2 := blk_put HG1.out 1 (.slice A1 n1 cp1) rfl
            have e1 := Kd.R_set (Kd.R_set HR1.out HG1.out (by decide) 1 (.slice A1 n1 cp1)) hg2 (by decide) 2 (.bool true)
            have e2 := Kd.R_set (Kd.R_set HD1.out HG1.out (by decide) 1 (.slice A1 n1 cp1)) hg2 (by decide) 2 (.bool true)
            exact ⟨⟨vd, _, blk_put hg2 2 (.bool true) rfl, hbg, e2, e1⟩⟩
        · replace hq := Bool.eq_false_iff.mpr hq
          go_wp2_with (first
            | (go_at_call 70; refine (loose_any _ _ q _ _ (StF_below HS.out (by repeat (first | exact Below.refl _ _ | refine below_drew ?_ | refine below_alloc ?_ _ | refine below_set ?_ (by simp; done) | refine below_set ?_ (by simp; omega)))) (by omega)).mono ?_; rintro e w1 ⟨rfl, hS1, hB1⟩; have HS1 := Aside0.mk hS1; have HB1 := Aside0.mk hB1; clear hS1 hB1))
          go_roundw
          case measure => simp [intOf]; omega
          case rel => exact ⟨k + 1, by omega, by go_num, by rw [HSC.out]; unfold fpiece; rw [if_neg (by simp [hcut]), if_neg (by simp [hq])]; exact HS1, ⟨below_trans HB.out (below_sub (below_trans (below_sub (by repeat (first | exact Below.refl _ _ | refine below_drew ?_ | refine below_alloc ?_ _ | refine below_set ?_ (by simp; done) | refine below_set ?_ (by simp; omega))) HB.out.size) (below_sub HB1.out (by simp))) (Nat.le_refl _))⟩⟩
    · go_wp2_with (first
          | (go_at_call 69; refine (end_any _ _ (splitN l k) _ HS.out (by have := w_done (splitN l k); have := splitN_w l k; have := psize_take l k; omega)).mono ?_; rintro e w1 ⟨rfl, hS1, hB1⟩
             obtain ⟨vd, vn, hg, hbg, hd, hn⟩ := hS1
             obtain ⟨A1, n1, cp1, rfl⟩ := R_slice3 hd
             have c0 : w1.cell? ⟨w.heap.size, 0, none⟩ = some (.slice A1 n1 cp1) := (blk_cell hg 0).trans rfl
             have HD := Aside0.mk hd; have HB1 := Aside0.mk hB1; clear hd hn hB1 hg))
      go_ret
      obtain rfl : k = l.length := by omega
      exact ⟨_, rfl, by rw [splitN_all]; exact HD.out, below_trans HB.out HB1.out⟩
end Go.Proofs.Ytkepmbkghmkodaa.Field
