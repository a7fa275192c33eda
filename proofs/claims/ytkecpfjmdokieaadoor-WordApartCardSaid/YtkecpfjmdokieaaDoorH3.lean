/- texts of this claim, one behind the other: WordAlive WordOut SeqTree WordOut2 WordRec P5 M9 -/
import Derived.Test.YtkecpfjmdokieaaDoorH2
namespace Go.Proofs.YtkecpfjmdokieaaDoor.Word
open Go.RowKit Go.Proofs.YtkecpfjmdokieaaDoorW.PrintWords Go.Proofs.YtkecpfjmdokieaaDoorW.PrintLast Go.Proofs.YtkecpfjmdokieaaDoor.Base Go.Proofs.YtkecpfjmdokieaaDoor.Seq Go.Proofs.YtkecpfjmdokieaaDoor.P Go.Proofs.YtkecpfjmdokieaaDoor.NodeOps
set_option linter.unusedVariables false
set_option linter.unusedSimpArgs false
set_option maxHeartbeats 2000000 in
set_option maxRecDepth 100000 in
theorem lit_q (k : Int) (t : ByteArray) (A : Option Addr) (c : Nat) (w : World) :
    Calls Tryd.prog 35 #[.agg #[.int .i64 k, .bool true, .string t, .string ⟨#[]⟩, .slice A 0 c], .int .i64 0] w fun e w' => e = .returned (.bool true) ∧ Below w.heap.size w w' := by
  have HB := Aside0.mk (below_alloc (Below.refl w.heap.size w) (.cells #[.int .i64 k, .bool true, .string t, .string ⟨#[]⟩, .slice A 0 c] 33))
  go_enter Tryd.func35, Tryd.ntmps35
  go_wp2
  go_ret
  exact ⟨rfl, HB.out⟩
abbrev ptQ (t : ByteArray) : Pt := ⟨1, true, t, ⟨#[]⟩, []⟩
set_option maxHeartbeats 4000000 in
set_option maxRecDepth 100000 in
theorem parts_q (t : ByteArray) (A : Option Addr) (c : Nat) (w : World) (hr : Kd.C k33 w A 1 [ptQ t]) :
    Calls Tryd.prog 23 #[.slice A 1 c, .int .i64 0, .int .i64 1] w fun e w' => e = .returned (.bool true) ∧ Below w.heap.size w w' := by
  obtain ⟨ad, A4, c4, rfl, d0, d1, d2, d3, d4, _, _⟩ := at_T33 hr 0 (by omega) (by omega)
  simp only [Int.toNat_zero, Nat.zero_mul, Addr.add_zero'] at d0 d1 d2 d3 d4
  rw [show rd_T33 [ptQ t] 0 = ptQ t from rfl] at d0 d1 d2 d3 d4
  dsimp only [List.length_nil] at d0 d1 d2 d3 d4
  have HB := Aside0.mk (below_alloc (Below.refl w.heap.size w) (.cells #[.int .i64 1, .bool true, .string t, .string ⟨#[]⟩, .slice A4 0 c4] 33))
  have HG := Aside0.mk (blk_new w (.cells #[.int .i64 1, .bool true, .string t, .string ⟨#[]⟩, .slice A4 0 c4] 33))
  clear hr
  go_enter Tryd.func23, Tryd.ntmps23
  go_upto_region 2 with (fail)
  go_loopw [11] (fun v11 w' => (v11 = .int .i64 0 ∧ w' = w) ∨ (v11 = .int .i64 1 ∧ Aside0 (Below w.heap.size w w'))) (fun v11 _ => 1 - (intOf v11).toNat)
  case atStart => exact .inl ⟨rfl, rfl⟩
  case round =>
    rcases hrel with ⟨rfl, rfl⟩ | ⟨rfl, HB2⟩
    · go_upto_region 7 with (fail)
      generalize wr.alloc (.cells #[.int .i64 1, .bool true, .string t, .string ⟨#[]⟩, .slice A4 0 c4] 33) = wb at *
      generalize hg8 : wr.heap.size = g8 at HG ⊢
      have e0 : wb.cell? ⟨g8, 0, none⟩ = some (.int .i64 1) := (blk_cell HG.out 0).trans rfl
      have e1 : wb.cell? ⟨g8, 1, none⟩ = some (.bool true) := (blk_cell HG.out 1).trans rfl
      have e2 : wb.cell? ⟨g8, 2, none⟩ = some (.string t) := (blk_cell HG.out 2).trans rfl
      have e3 : wb.cell? ⟨g8, 3, none⟩ = some (.string ⟨#[]⟩) := (blk_cell HG.out 3).trans rfl
      have e4 : wb.cell? ⟨g8, 4, none⟩ = some (.slice A4 0 c4) := (blk_cell HG.out 4).trans rfl
      clear hg8
      refine region_seq (fun w_ => Below wb.heap.size wb w_) []
        [(1, some 21, .pure), (0, some 20, .held), (2, some 22, .one), (3, some 23, .pure), (4, some 24, .pure), (5, some 25, .pure), (6, some 26, .pure), (7, some 27, .pure), (8, some 28, .pure), (9, some 29, .pure), (10, some 30, .pure), (11, some 31, .pure), (12, some 32, .pure), (13, some 33, .held), (14, some 34, .pure), (15, some 35, .pure), (16, some 36, .pure), (17, some 37, .pure), (18, some 38, .pure), (19, some 39, .pure), (20, some 40, .pure), (21, some 41, .pure), (23, some 43, .pure), (22, some 42, .held), (24, some 44, .held), (25, some 45, .pure), (26, some 46, .pure), (27, some 47, .pure)] (by kernel_rfl) (by kernel_rfl) ?_
      have hS := below_drew (Below.refl wb.heap.size wb)
      repeat (first
        | (refine s_pure (v := ?_) (a' := ?_) rfl (fun _ _ _ h => h) rfl ?hy ?ha ?_; (case hy => (intro w_; go_simp; with_reducible rfl)); (case ha => (simp only [Act.put, List.setIfInBounds_toArray, List.set_cons_zero, List.set_cons_succ, i64_w, i32_w]; rfl)))
        | (refine s_held (v := ?_) (a' := ?_) hS rfl (fun _ _ _ h => h) rfl ?hy ?ha ?_; (case hy => (intro w_ hb_; have s0 := pw_cell_below hb_ e0; have s1 := pw_cell_below hb_ e1; have s2 := pw_cell_below hb_ e2; have s3 := pw_cell_below hb_ e3; have s4 := pw_cell_below hb_ e4; go_simp; with_reducible rfl)); (case ha => (simp only [Act.put, List.setIfInBounds_toArray, List.set_cons_zero, List.set_cons_succ, i64_w, i32_w]; rfl))))
      refine s_oneL rfl (fun K hK => ?_) rfl
      go_wp2_with (go_at_call 35; (with_reducible refine (lit_q 1 t A4 c4 _).mono ?_); rintro e w7 ⟨rfl, hB⟩)
      have hS2 : Below wb.heap.size wb w7 := hS.trans (below_sub hB hS.size)
      clear hB
      replace hS := hS2
      refine hK _ _ hS2 ?_
      clear hK
      repeat (first
        | (refine s_pure (v := ?_) (a' := ?_) rfl (fun _ _ _ h => h) rfl ?hy ?ha ?_; (case hy => (intro w_; go_simp; with_reducible rfl)); (case ha => (simp only [Act.put, List.setIfInBounds_toArray, List.set_cons_zero, List.set_cons_succ, i64_w, i32_w]; rfl)))
        | (refine s_held (v := ?_) (a' := ?_) hS rfl (fun _ _ _ h => h) rfl ?hy ?ha ?_; (case hy => (intro w_ hb_; have s0 := pw_cell_below hb_ e0; go_simp; with_reducible rfl)); (case ha => (simp only [Act.put, List.setIfInBounds_toArray, List.set_cons_zero, List.set_cons_succ, i64_w, i32_w]; rfl)))
        | (refine s_off (a' := ?_) rfl (fun _ _ _ h => h) rfl ?ha ?_; (case ha => (simp only [Act.put, List.setIfInBounds_toArray, List.set_cons_zero, List.set_cons_succ, i64_w, i32_w]; rfl)))
        | (refine s_offHeld (a' := ?_) hS rfl (fun _ _ _ h => h) rfl ?ha ?_; (case ha => (simp only [Act.put, List.setIfInBounds_toArray, List.set_cons_zero, List.set_cons_succ, i64_w, i32_w]; rfl)))
        | (refine s_offOne (a' := ?_) rfl rfl rfl ?ha ?_; (case ha => (simp only [Act.put, List.setIfInBounds_toArray, List.set_cons_zero, List.set_cons_succ, i64_w, i32_w]; rfl))))
      refine s_tailL _ (by kernel_rfl) ?_
      simp only [opsAt, List.filterMap_nil]
      have HS2 := Aside0.mk (HB.out.trans (below_sub hS2 HB.out.size))
      clear hS hS2 e0 e1 e2 e3 e4 d0 d1 d2 d3 d4
      go_wp2
      go_roundw
      case measure => simp [intOf]
      case rel => exact .inr ⟨by go_num, HS2⟩
    · go_wp2
      go_ret
      exact ⟨rfl, HB2.out⟩
set_option maxHeartbeats 2000000 in
set_option maxRecDepth 100000 in
theorem value_q (t : ByteArray) (A : Option Addr) (c : Nat) (w : World) (hr : Kd.C k33 w A 1 [ptQ t]) :
    Calls Tryd.prog 10 #[.slice A 1 c] w fun e w' => e = .returned (.bool true) ∧ Below w.heap.size w w' := by
  have HR := Aside0.mk hr
  clear hr
  go_enter Tryd.func10, Tryd.ntmps10
  go_wp2_with (go_at_call 23; (with_reducible refine (parts_q t A c _ HR.out).mono ?_); rintro e w1 ⟨rfl, hB⟩; have HB := Aside0.mk hB; clear hB)
  go_ret
  exact ⟨rfl, HB.out⟩
set_option maxHeartbeats 2000000 in
set_option maxRecDepth 100000 in
theorem right_q (t : ByteArray) (A : Option Addr) (c : Nat) (w : World) (hr : Kd.C k33 w A 1 [ptQ t]) :
    Calls Tryd.prog 8 #[.slice A 1 c] w fun e w' => e = .returned (.bool true) ∧ Below w.heap.size w w' := by
  obtain ⟨ad, A4, c4, rfl, d0, d1, d2, d3, d4, _, _⟩ := at_T33 hr 0 (by omega) (by omega)
  simp only [Int.toNat_zero, Nat.zero_mul, Addr.add_zero'] at d0 d1 d2 d3 d4
  rw [show rd_T33 [ptQ t] 0 = ptQ t from rfl] at d0 d1 d2 d3 d4
  dsimp only [List.length_nil] at d0 d1 d2 d3 d4
  have HR := Aside0.mk hr
  clear hr
  go_enter Tryd.func8, Tryd.ntmps8
  go_wp2_with (go_at_call 10; (with_reducible refine (value_q t (some ad) c _ HR.out).mono ?_); rintro e w1 ⟨rfl, hB⟩; have HB := Aside0.mk hB; replace d0 := pw_cell_below hB d0; replace d1 := pw_cell_below hB d1; clear hB)
  go_ret
  exact ⟨rfl, HB.out⟩
def WrOut (B b : Nat) (w w' : World) (e : Ending) (l : List UInt8) : Prop := e = .returned (.tuple #[]) ∧ BuilderW.Bld w' B b l ∧ Below B w w'
set_option maxHeartbeats 4000000 in
set_option maxRecDepth 100000 in
theorem write_q (t : ByteArray) (ht : t.size ≤ 1000000) (A : Option Addr) (c B b : Nat) (w : World) (hr : Kd.C k33 w A 1 [ptQ t]) (hb : BuilderW.Bld w B b []) (hBw : B ≤ w.heap.size) {m : Int} (hm : w.cell? ⟨0, 0, none⟩ = some (.int .i64 m)) :
    Calls Tryd.prog 25 #[.pointer (some ⟨b, 0, none⟩), .slice A 1 c, .bool false] w fun e w' => WrOut B b w w' e (quoteS t).data.toList := by
  obtain ⟨ad, A4, c4, rfl, d0, d1, d2, d3, d4, _, _⟩ := at_T33 hr 0 (by omega) (by omega)
  simp only [Int.toNat_zero, Nat.zero_mul, Addr.add_zero'] at d0 d1 d2 d3 d4
  rw [show rd_T33 [ptQ t] 0 = ptQ t from rfl] at d0 d1 d2 d3 d4
  dsimp only [List.length_nil] at d0 d1 d2 d3 d4
  have hal := below_alloc (Below.refl w.heap.size w) (.cells #[.int .i64 1, .bool true, .string t, .string ⟨#[]⟩, .slice A4 0 c4] 33)
  have HB := Aside0.mk hal
  have HG := Aside0.mk (blk_new w (.cells #[.int .i64 1, .bool true, .string t, .string ⟨#[]⟩, .slice A4 0 c4] 33))
  have HM := Aside0.mk (pw_cell_below hal hm)
  have HBD := Aside0.mk (BuilderW.Bld_below hb hal)
  have HBW := Aside0.mk hBw
  have HT := Aside0.mk ht
  have HLQ := Aside0.mk (show (quoteS t).size ≤ 5000000 by
    have h1 := qz_len t.data.toList
    rw [data_length] at h1
    show (List.toArray _).size ≤ _
    simp
    omega)
  clear hr hal hm hb hBw ht
  go_enter Tryd.func25, Tryd.ntmps25
  go_upto_region 1 with (fail)
  go_loopw [11] (fun v11 w' => (v11 = .int .i64 0 ∧ w' = w) ∨ (v11 = .int .i64 1 ∧ Aside0 (BuilderW.Bld w' B b (quoteS t).data.toList) ∧ Aside0 (Below B w w'))) (fun v11 _ => 1 - (intOf v11).toNat)
  case atStart => exact .inl ⟨rfl, rfl⟩
  case round =>
    rcases hrel with ⟨rfl, rfl⟩ | ⟨rfl, HB2, HB3⟩
    · go_upto_region 9 with (fail)
      generalize wr.alloc (.cells #[.int .i64 1, .bool true, .string t, .string ⟨#[]⟩, .slice A4 0 c4] 33) = wb at *
      generalize hg8 : wr.heap.size = g8 at HG ⊢
      have e0 : wb.cell? ⟨g8, 0, none⟩ = some (.int .i64 1) := (blk_cell HG.out 0).trans rfl
      have e1 : wb.cell? ⟨g8, 1, none⟩ = some (.bool true) := (blk_cell HG.out 1).trans rfl
      have e2 : wb.cell? ⟨g8, 2, none⟩ = some (.string t) := (blk_cell HG.out 2).trans rfl
      clear hg8
      go_upto_region 12 with (fail)
      refine region_seq (fun w_ => Below wb.heap.size wb w_) [6]
        [(0, some 64, .pure), (1, some 65, .pure), (2, some 66, .pure), (3, some 67, .pure), (4, some 68, .held), (5, some 69, .one), (6, some 70, .last)] (by kernel_rfl) (by kernel_rfl) ?_
      have hS := below_drew (Below.refl wb.heap.size wb)
      repeat (first
        | (refine s_pure (v := ?_) (a' := ?_) rfl (fun _ _ _ h => h) rfl ?hy ?ha ?_; (case hy => (intro w_; go_simp; with_reducible rfl)); (case ha => (simp only [Act.put, List.setIfInBounds_toArray, List.set_cons_zero, List.set_cons_succ, i64_w, i32_w]; rfl)))
        | (refine s_held (v := ?_) (a' := ?_) hS rfl (fun _ _ _ h => h) rfl ?hy ?ha ?_; (case hy => (intro w_ hb_; have s0 := pw_cell_below hb_ e0; have s1 := pw_cell_below hb_ e1; have s2 := pw_cell_below hb_ e2; go_simp; with_reducible rfl)); (case ha => (simp only [Act.put, List.setIfInBounds_toArray, List.set_cons_zero, List.set_cons_succ, i64_w, i32_w]; rfl))))
      refine s_oneL rfl (fun K hK => ?_) rfl
      go_wp2_with (go_at_call 17; (with_reducible refine (quote_any t m _ (pw_cell_below hS HM.out) HT.out).mono ?_); rintro e w7 ⟨rfl, hB⟩)
      have hS2 : Below wb.heap.size wb w7 := hS.trans (below_sub hB hS.size)
      clear hB
      replace hS := hS2
      refine hK _ _ hS2 ?_
      clear hK
      repeat (first
        | (refine s_pure (v := ?_) (a' := ?_) rfl (fun _ _ _ h => h) rfl ?hy ?ha ?_; (case hy => (intro w_; go_simp; with_reducible rfl)); (case ha => (simp only [Act.put, List.setIfInBounds_toArray, List.set_cons_zero, List.set_cons_succ, i64_w, i32_w]; rfl)))
        | (refine s_held (v := ?_) (a' := ?_) hS rfl (fun _ _ _ h => h) rfl ?hy ?ha ?_; (case hy => (intro w_ hb_; have s0 := pw_cell_below hb_ e0; go_simp; with_reducible rfl)); (case ha => (simp only [Act.put, List.setIfInBounds_toArray, List.set_cons_zero, List.set_cons_succ, i64_w, i32_w]; rfl))))
      refine s_tail 6 _ (by kernel_rfl) ?_
      simp only [List.drop_succ_cons, List.drop_zero]
      have HB7 := Aside0.mk (BuilderW.Bld_below HBD.out hS2)
      have HS7 := Aside0.mk ((HB.out.mono HBW.out).trans (hS2.mono (Nat.le_trans HBW.out HB.out.size)))
      clear hS hS2 e0 e1 e2 d0 d1 d2 d3 d4
      go_wp2_with (go_at_call 41; (with_reducible refine (BuilderW.writeString_any B b [] (quoteS t) _ HB7.out (by have := HLQ.out; simp; omega) (Nat.le_trans HBW.out HS7.out.size)).mono ?_); rintro e w8 ⟨rfl, hb8, hB8⟩; have HB8 := Aside0.mk hb8; have HS8 := Aside0.mk (HS7.out.trans hB8); clear hb8 hB8)
      go_roundw
      case measure => simp [intOf]
      case rel => exact .inr ⟨by go_num, HB8, HS8⟩
    · go_wp2
      go_end0
      exact ⟨rfl, HB2.out, HB3.out⟩
end Go.Proofs.YtkecpfjmdokieaaDoor.Word
namespace Go.Proofs.YtkecpfjmdokieaaDoor.Word
open Go.RowKit Go.Proofs.YtkecpfjmdokieaaDoorW.PrintWords Go.Proofs.YtkecpfjmdokieaaDoorW.PrintLast Go.Proofs.YtkecpfjmdokieaaDoor.Base Go.Proofs.YtkecpfjmdokieaaDoor.Seq Go.Proofs.YtkecpfjmdokieaaDoor.P Go.Proofs.YtkecpfjmdokieaaDoor.NodeOps
set_option linter.unusedVariables false
set_option linter.unusedSimpArgs false
def KOut (B b : Nat) (w w' : World) (e : Ending) (l : List UInt8) : Prop := e = .returned (.tuple #[]) ∧ BuilderW.Bld w' B b l ∧ Below B w w' ∧ BuilderW.Kp b w w'
theorem byte_int (B b : Nat) (l : List UInt8) (i : Int) (c : UInt8) (hi : i = (c.toNat : Int)) (w : World) (h : BuilderW.Bld w B b l) (hlen : l.length + 1 ≤ 140737488355328) (hBw : B ≤ w.heap.size) :
    Calls Tryd.prog 59 #[.pointer (some ⟨b, 0, none⟩), .int .u8 i] w fun e w' => e = .returned .nilIface ∧ BuilderW.Bld w' B b (l ++ [c]) ∧ Below B w w' ∧ BuilderW.Kp b w w' := by
  subst hi
  exact BuilderW.writeByte_keep B b l c w h hlen hBw
theorem spec_idx : ∀ b : UInt8, decide (0 ≤ Lib.indexByte (⟨#[34, 36, 92, 96, 125]⟩ : ByteArray).data.toList ((b.toNat : Int)).toNat.toUInt8) = spec b := by
  refine all_b ?_
  decide +kernel
set_option maxHeartbeats 8000000 in
set_option maxRecDepth 100000 in
theorem tight_any (s : ByteArray) (hs : s.size ≤ 1000000) (B b : Nat) (A : List UInt8) (hA : A.length ≤ 20000000) (w : World) (hb : BuilderW.Bld w B b A) (hBw : B ≤ w.heap.size) :
    Calls Tryd.prog 40 #[.pointer (some ⟨b, 0, none⟩), .string s] w fun e w' => KOut B b w w' e (A ++ esc (by2 s)) := by
  have HB := Aside0.mk hb
  have HW := Aside0.mk hBw
  have HA := Aside0.mk hA
  clear hb hBw hA
  go_enter Tryd.func40, Tryd.ntmps40
  go_wp2
  go_loopw [7] (fun v7 w' => ∃ k : Nat, k ≤ s.size ∧ v7 = .int .i64 (k : Int) ∧ Aside0 (BuilderW.Bld w' B b (A ++ esc ((by2 s).take k))) ∧ Aside0 (Below B w w' ∧ BuilderW.Kp b w w')) (fun v7 _ => s.size - (intOf v7).toNat)
  case atStart => exact ⟨0, Nat.zero_le _, rfl, ⟨by rw [List.take_zero, show esc [] = [] from rfl, List.append_nil]; exact HB.out⟩, ⟨Below.refl _ _, Lib.OthersKept.refl _ _ _⟩⟩
  case round =>
    obtain ⟨k, hk, rfl, HBk, HKk⟩ := hrel
    by_cases hks : k < s.size
    · obtain ⟨c, e1, e2, e3⟩ := cut1 s k hks
      have HSP := Aside0.mk (spec_idx c)
      have HWk := Aside0.mk (Nat.le_trans HW.out HKk.out.1.size)
      have HLk := Aside0.mk (show (A ++ esc ((by2 s).take k)).length + 2 ≤ 140737488355328 by
        have h1 := esc_len ((by2 s).take k)
        have h2 : ((by2 s).take k).length ≤ s.size := by rw [List.length_take, ← by2_size]; omega
        have := HA.out
        rw [List.length_append]
        omega)
      have HE1 := Aside0.mk e1
      have hc : s[k]'hks = c := UInt8.toNat_inj.1 (by have := bt_nat s k hks; omega)
      clear e1 e2 e3
      go_upto_region 3 with (fail)
      generalize hq : Lib.indexByte (⟨#[34, 36, 92, 96, 125]⟩ : ByteArray).data.toList ((c.toNat : Int)).toNat.toUInt8 = q at HSP
      have HQ := Aside0.mk hq
      clear hq
      cases hsp : spec c
      · have hq0 : decide (0 ≤ q) = false := HSP.out.trans hsp
        have HE3 := Aside0.mk (show esc ((by2 s).take (k + 1)) = esc ((by2 s).take k) ++ [c] by rw [HE1.out, esc_snoc, hsp, if_neg (by decide)])
        go_upto_region 5 with (go_at_call 58; go_loud (refine (Tryd.strings_IndexByte _ _ _).mono ?_); rintro e w7 ⟨rfl, rfl⟩; rw [HQ.out])
        refine region_seq (fun w_ => Below w7.heap.size w7 w_) [6]
          [(0, some 19, .pure), (1, some 20, .pure), (2, some 21, .pure), (3, some 22, .pure), (4, some 23, .pure), (5, some 24, .pure), (6, some 25, .last)] (by kernel_rfl) (by kernel_rfl) ?_
        have hS := below_drew (Below.refl w7.heap.size w7)
        repeat (first
          | (refine s_pure (v := ?_) (a' := ?_) rfl (fun _ _ _ h => h) rfl ?hy ?ha ?_; (case hy => (intro w_; go_simp; with_reducible rfl)); (case ha => (simp only [Act.put, List.setIfInBounds_toArray, List.set_cons_zero, List.set_cons_succ, i64_w, i32_w]; rfl)))
          | (refine s_held (v := ?_) (a' := ?_) hS rfl (fun _ _ _ h => h) rfl ?hy ?ha ?_; (case hy => (intro w_ hb_; go_simp; with_reducible rfl)); (case ha => (simp only [Act.put, List.setIfInBounds_toArray, List.set_cons_zero, List.set_cons_succ, i64_w, i32_w]; rfl))))
        refine s_tail 6 _ (by kernel_rfl) ?_
        simp only [List.drop_succ_cons, List.drop_zero]
        have HS7 := Aside0.mk hS
        clear hS
        go_wp2_with (go_at_call 59; (with_reducible refine (byte_int B b _ _ c rfl _ (BuilderW.Bld_below HBk.out HS7.out) (by have := HLk.out; omega) (Nat.le_trans HWk.out HS7.out.size)).mono ?_); rintro e w9 ⟨rfl, hb9, hB9, hK9⟩; have HB9 := Aside0.mk hb9; have HK9 := Aside0.mk (And.intro (HKk.out.1.trans ((HS7.out.mono HWk.out).trans hB9)) (HKk.out.2.trans ((BuilderW.kp_below HS7.out).trans hK9))); clear hb9 hB9 hK9)
        go_roundw
        case measure => simp [intOf]; omega
        case rel => exact ⟨k + 1, by omega, by go_num, ⟨by rw [HE3.out]; simpa using HB9.out⟩, HK9⟩
      · have hq0 : decide (0 ≤ q) = true := HSP.out.trans hsp
        have HE3 := Aside0.mk (show esc ((by2 s).take (k + 1)) = esc ((by2 s).take k) ++ [92] ++ [c] by rw [HE1.out, esc_snoc, hsp, if_pos rfl]; simp)
        go_upto_region 5 with (first
          | (go_at_call 58; go_loud (refine (Tryd.strings_IndexByte _ _ _).mono ?_); rintro e w7 ⟨rfl, rfl⟩; rw [HQ.out])
          | (go_at_call 59; (with_reducible refine (byte_int B b _ 92 92 rfl _ HBk.out (by have := HLk.out; omega) HWk.out).mono ?_); rintro e w8 ⟨rfl, hb8, hB8, hK8⟩; have HB8 := Aside0.mk hb8; have HK8 := Aside0.mk (And.intro (HKk.out.1.trans hB8) (HKk.out.2.trans hK8)); have HW8 := Aside0.mk (Nat.le_trans HWk.out hB8.size); clear hb8 hB8 hK8))
        refine region_seq (fun w_ => Below w8.heap.size w8 w_) [6]
          [(0, some 19, .pure), (1, some 20, .pure), (2, some 21, .pure), (3, some 22, .pure), (4, some 23, .pure), (5, some 24, .pure), (6, some 25, .last)] (by kernel_rfl) (by kernel_rfl) ?_
        have hS := below_drew (Below.refl w8.heap.size w8)
        repeat (first
          | (refine s_pure (v := ?_) (a' := ?_) rfl (fun _ _ _ h => h) rfl ?hy ?ha ?_; (case hy => (intro w_; go_simp; with_reducible rfl)); (case ha => (simp only [Act.put, List.setIfInBounds_toArray, List.set_cons_zero, List.set_cons_succ, i64_w, i32_w]; rfl)))
          | (refine s_held (v := ?_) (a' := ?_) hS rfl (fun _ _ _ h => h) rfl ?hy ?ha ?_; (case hy => (intro w_ hb_; go_simp; with_reducible rfl)); (case ha => (simp only [Act.put, List.setIfInBounds_toArray, List.set_cons_zero, List.set_cons_succ, i64_w, i32_w]; rfl))))
        refine s_tail 6 _ (by kernel_rfl) ?_
        simp only [List.drop_succ_cons, List.drop_zero]
        have HS7 := Aside0.mk hS
        clear hS
        go_wp2_with (go_at_call 59; (with_reducible refine (byte_int B b _ _ c rfl _ (BuilderW.Bld_below HB8.out HS7.out) (by have := HLk.out; simp at this ⊢; omega) (Nat.le_trans HW8.out HS7.out.size)).mono ?_); rintro e w9 ⟨rfl, hb9, hB9, hK9⟩; have HB9 := Aside0.mk hb9; have HK9 := Aside0.mk (And.intro (HK8.out.1.trans ((HS7.out.mono HW8.out).trans hB9)) (HK8.out.2.trans ((BuilderW.kp_below HS7.out).trans hK9))); clear hb9 hB9 hK9)
        go_roundw
        case measure => simp [intOf]; omega
        case rel => exact ⟨k + 1, by omega, by go_num, ⟨by rw [HE3.out]; simpa using HB9.out⟩, HK9⟩
    · obtain rfl : k = s.size := by omega
      rw [List.take_of_length_le (by rw [← by2_size]; exact Nat.le_refl _)] at HBk
      go_wp2
      go_end0
      exact ⟨rfl, HBk.out, HKk.out.1, HKk.out.2⟩
end Go.Proofs.YtkecpfjmdokieaaDoor.Word
namespace Go.Proofs.YtkecpfjmdokieaaDoor.Seq
open Go.RowKit Go.Proofs.YtkecpfjmdokieaaDoorW.PrintWords Go.Proofs.YtkecpfjmdokieaaDoorW.PrintLast Go.Proofs.YtkecpfjmdokieaaDoor.Base
set_option linter.unusedVariables false
inductive T where
  | fin
  | pure (i : Nat) (N : Option Tmp) (r : T)
  | held (i : Nat) (N : Option Tmp) (r : T)
  | one (i : Nat) (N : Option Tmp) (r : T)
  | two (i : Nat) (N : Option Tmp) (s : T) (j : Nat) (M : Option Tmp) (t : T)
def T.size : T → Nat
  | .fin => 0
  | .pure _ _ r => r.size + 1
  | .held _ _ r => r.size + 1
  | .one _ _ r => r.size + 1
  | .two _ _ s _ _ _ => s.size + 1
section
variable {P : Program} {ops : Array Oper} {Q : Exit → Act → World → Prop} {md : Region.Mode} {S : World → Prop}
end
theorem s_offOne {P : Program} {ops : Array Oper} {Q : Exit → Act → World → Prop} {S : World → Prop} {i : Nat} {N : Option Tmp} {r : List (Nat × Option Tmp × K)} {o : Oper} {a a' : Act} {w : World} (ho : ops[i]? = some o) (hN : o.dst = N)
    (hw : Region.wanted o (yielded ops a.tmps) = false) (ha : a.put N undef = a') (h : wpSeq P ops Q S r a' w) : wpSeq P ops Q S ((i, N, .one) :: r) a w := by
  subst ha
  subst hN
  unfold wpSeq wpOp
  simp only [ho, hw, Bool.false_eq_true, if_false]
  exact ⟨id, h⟩
end Go.Proofs.YtkecpfjmdokieaaDoor.Seq
namespace Go.Proofs.YtkecpfjmdokieaaDoor.Word
open Go.RowKit Go.Proofs.YtkecpfjmdokieaaDoorW.PrintWords Go.Proofs.YtkecpfjmdokieaaDoorW.PrintLast Go.Proofs.YtkecpfjmdokieaaDoor.Base Go.Proofs.YtkecpfjmdokieaaDoor.Seq Go.Proofs.YtkecpfjmdokieaaDoor.P Go.Proofs.YtkecpfjmdokieaaDoor.NodeOps
set_option linter.unusedVariables false
set_option linter.unusedSimpArgs false
theorem bld_lt {w : World} {B b : Nat} {l : List UInt8} (h : BuilderW.Bld w B b l) : b < w.heap.size := by
  rcases h with h | h
  · exact h.lt
  · exact h.lt
theorem wt_app (a b : List Pt) : wt (a ++ b) = wt a + wt b := by
  rw [wt_eq, wt_eq a, wt_eq b, List.map_append, List.sum_append]
theorem wt_at (l : List Pt) (k : Nat) (h : k < l.length) : wt (l.take k) + (1 + l[k].f2.size + l[k].f3.size + wt l[k].f4) ≤ wt l := by
  have e := wt_app (l.take k) (l.drop k)
  rw [List.take_append_drop, wt_drop l k h] at e
  omega
abbrev ptCells (x : Pt) (A : Option Addr) (c : Nat) : Obj := .cells #[.int .i64 x.f0, .bool x.f1, .string x.f2, .string x.f3, .slice A x.f4.length c] 33
theorem kp_pt {b g : Nat} {w w' : World} {x : Pt} {A : Option Addr} {c : Nat} (h : BuilderW.Kp b w w') (hg : w.heap[g]? = some (ptCells x A c)) (hb : g ≠ b) : w'.heap[g]? = some (ptCells x A c) :=
  h g _ hg (fun e => hb (Option.some.inj e)) (fun c fz h => by injection h with _ h _; exact absurd h (by decide))
set_option maxHeartbeats 40000000 in
set_option maxRecDepth 100000 in
theorem wparts_any (w0 : World) {m : Int} (hm : w0.cell? ⟨0, 0, none⟩ = some (.int .i64 m)) : ∀ (N : Nat) (l : List Pt), SizeOf.sizeOf l < N → wt l ≤ 1000000 → ∀ (t : Bool) (A : Option Addr) (n c b : Nat) (acc : List UInt8) (w : World), Kd.C k33 w0 A n l → BuilderW.Bld w w0.heap.size b acc → Below w0.heap.size w0 w → acc.length + 6 * wt l ≤ 10000000 →
    Calls Tryd.prog 25 #[.pointer (some ⟨b, 0, none⟩), .slice A n c, .bool t] w fun e w' => KOut w0.heap.size b w w' e (acc ++ wrL t l)
  | 0, l, hN, hw, t, A, n, c, b, acc, w, hr, hb, hB0, hacc => absurd hN (Nat.not_lt_zero _)
  | N + 1, l, hN, hw, t, A, n, c, b, acc, w, hr, hb, hB0, hacc => by
    have HM := Aside0.mk hm
    have IH := Aside0.mk (wparts_any w0 hm N)
    have HN := Aside0.mk hN
    have HW := Aside0.mk hw
    have HC := Aside0.mk hr
    have HBD := Aside0.mk hb
    have HB0 := Aside0.mk hB0
    have HA := Aside0.mk hacc
    have HLN := Aside0.mk (show l.length = n from hr.1)
    have hl := hr.2.1
    clear hN hw hr hb hB0 hacc hm
    go_enter Tryd.func25, Tryd.ntmps25
    go_upto_region 1 with (fail)
    go_loopw [11] (fun v11 w' => ∃ k : Nat, k ≤ n ∧ v11 = .int .i64 (k : Int) ∧ Aside0 (BuilderW.Bld w' w0.heap.size b (acc ++ wrL t (l.take k))) ∧ Aside0 (Below w0.heap.size w w' ∧ BuilderW.Kp b w w')) (fun v11 _ => n - (intOf v11).toNat)
    case atStart => exact ⟨0, Nat.zero_le _, rfl, ⟨by rw [List.take_zero, wrL_nil, List.append_nil]; exact HBD.out⟩, ⟨Below.refl _ _, Lib.OthersKept.refl _ _ _⟩⟩
    case round =>
      obtain ⟨k, hk, rfl, HBk, HKk⟩ := hrel
      by_cases hkn : k < n
      · have HKL := Aside0.mk (show k < l.length by rw [HLN.out]; exact hkn)
        have HB1 := Aside0.mk (HB0.out.trans HKk.out.1)
        obtain ⟨ad, A4, c4, e, d0, d1, d2, d3, d4, hl4, h4⟩ := at_T33 HC.out (k : Int) (by omega) (by omega)
        rw [Int.toNat_natCast] at d0 d1 d2 d3 d4
        subst e
        have HX := Aside0.mk (show wrL t (l.take (k + 1)) = wrL t (l.take k) ++ oneL t (rd_T33 l (k : Int)) (wrL (rd_T33 l (k : Int)).f1 (rd_T33 l (k : Int)).f4) by rw [rd_in l k HKL.out]; exact wrL_snoc t l k HKL.out)
        have HMM := Aside0.mk (show rd_T33 l (k : Int) ∈ l by rw [rd_in l k HKL.out]; exact List.getElem_mem _)
        have HSZ := Aside0.mk (size_in HMM.out)
        have HWI := Aside0.mk (wt_in HMM.out)
        have HTL := Aside0.mk (wrL_le t (l.take k))
        have HWK := Aside0.mk (show wt (l.take k) + (1 + (rd_T33 l (k : Int)).f2.size + (rd_T33 l (k : Int)).f3.size + wt (rd_T33 l (k : Int)).f4) ≤ wt l by rw [rd_in l k HKL.out]; exact wt_at l k HKL.out)
        have HTK := Aside0.mk (Nat.le_trans (wrL_take t l k) (wrL_le t l))
        have HTK1 := Aside0.mk (Nat.le_trans (wrL_take t l (k + 1)) (wrL_le t l))
        have H4 := Aside0.mk h4
        generalize rd_T33 l (k : Int) = x at *
        replace d0 := pw_cell_below HB1.out d0
        replace d1 := pw_cell_below HB1.out d1
        replace d2 := pw_cell_below HB1.out d2
        replace d3 := pw_cell_below HB1.out d3
        replace d4 := pw_cell_below HB1.out d4
        have HB2 := Aside0.mk (below_alloc (Below.refl wr.heap.size wr) (ptCells x A4 c4))
        have HG2 := Aside0.mk (blk_new wr (ptCells x A4 c4))
        have HGB := Aside0.mk (show wr.heap.size ≠ b from fun e => by have := bld_lt HBk.out; omega)
        have HBk2 := Aside0.mk (BuilderW.Bld_below HBk.out HB2.out)
        have HKk2 := Aside0.mk (And.intro (HKk.out.1.trans (HB2.out.mono HB1.out.size)) (HKk.out.2.trans (BuilderW.kp_below HB2.out)))
        have HB3 := Aside0.mk (HB0.out.trans HKk2.out.1)
        clear h4
        go_upto_region 9 with (fail)
        clear d0 d1 d2 d3 d4
        generalize hwb : wr.alloc (.cells #[.int .i64 x.f0, .bool x.f1, .string x.f2, .string x.f3, .slice A4 x.f4.length c4] 33) = wb at *
        generalize hg8 : wr.heap.size = g8 at *
        have e0 : wb.cell? ⟨g8, 0, none⟩ = some (.int .i64 x.f0) := (blk_cell HG2.out 0).trans rfl
        have e1 : wb.cell? ⟨g8, 1, none⟩ = some (.bool x.f1) := (blk_cell HG2.out 1).trans rfl
        have e2 : wb.cell? ⟨g8, 2, none⟩ = some (.string x.f2) := (blk_cell HG2.out 2).trans rfl
        have e3 : wb.cell? ⟨g8, 3, none⟩ = some (.string x.f3) := (blk_cell HG2.out 3).trans rfl
        have e4 : wb.cell? ⟨g8, 4, none⟩ = some (.slice A4 x.f4.length c4) := (blk_cell HG2.out 4).trans rfl
        clear hwb hg8
        by_cases h0 : x.f0 = 1
        · have b0 : (x.f0 == 1) = true := beq_iff_eq.mpr h0
          cases t
          · cases hq : x.f1
            · have HO := Aside0.mk (one_b (t := false) h0 rfl hq (wrL x.f1 x.f4))
              rw [hq] at e1
              clear h0 hq
              go_upto_region 14 with (fail)
              refine region_seq (fun w_ => Below wb.heap.size wb w_) [5]
                [(0, some 75, .pure), (1, some 76, .pure), (2, some 77, .pure), (3, some 78, .pure), (4, some 79, .held), (5, some 80, .last)] (by kernel_rfl) (by kernel_rfl) ?_
              have hS := below_drew (Below.refl wb.heap.size wb)
              repeat (first
                | (refine s_pure (v := ?_) (a' := ?_) rfl (fun _ _ _ h => h) rfl ?hy ?ha ?_; (case hy => (intro w_; go_simp; with_reducible rfl)); (case ha => (simp only [Act.put, List.setIfInBounds_toArray, List.set_cons_zero, List.set_cons_succ, i64_w, i32_w]; rfl)))
                | (refine s_held (v := ?_) (a' := ?_) hS rfl (fun _ _ _ h => h) rfl ?hy ?ha ?_; (case hy => (intro w_ hb_; have s0 := pw_cell_below hb_ e0; have s1 := pw_cell_below hb_ e1; have s2 := pw_cell_below hb_ e2; go_simp; with_reducible rfl)); (case ha => (simp only [Act.put, List.setIfInBounds_toArray, List.set_cons_zero, List.set_cons_succ, i64_w, i32_w]; rfl))))
              refine s_tail 5 _ (by kernel_rfl) ?_
              simp only [List.drop_succ_cons, List.drop_zero]
              have HS7 := Aside0.mk hS
              clear hS e0 e1 e2 e3 e4
              go_wp2_with (go_at_call 41; (with_reducible refine (BuilderW.writeString_keep _ b _ x.f2 _ (BuilderW.Bld_below HBk2.out HS7.out) (by have := HTK.out; have := HWI.out; have := HA.out; have := HW.out; rw [List.length_append]; omega) (Nat.le_trans HB3.out.size HS7.out.size)).mono ?_); rintro e w9 ⟨rfl, hb9, hB9, hK9⟩; have HB9 := Aside0.mk hb9; have HK9 := Aside0.mk (And.intro (HKk2.out.1.trans ((HS7.out.mono HB3.out.size).trans hB9)) (HKk2.out.2.trans ((BuilderW.kp_below HS7.out).trans hK9))); clear hb9 hB9 hK9)
              go_roundw
              case measure => simp [intOf]; omega
              case rel => exact ⟨k + 1, by omega, by go_num, ⟨by rw [HX.out, HO.out, ← List.append_assoc]; exact HB9.out⟩, HK9⟩
            · have HO := Aside0.mk (one_q (t := false) h0 rfl hq (wrL x.f1 x.f4))
              rw [hq] at e1
              clear h0 hq
              go_upto_region 12 with (fail)
              refine region_seq (fun w_ => Below wb.heap.size wb w_) [6]
                [(0, some 64, .pure), (1, some 65, .pure), (2, some 66, .pure), (3, some 67, .pure), (4, some 68, .held), (5, some 69, .one), (6, some 70, .last)] (by kernel_rfl) (by kernel_rfl) ?_
              have hS := below_drew (Below.refl wb.heap.size wb)
              repeat (first
                | (refine s_pure (v := ?_) (a' := ?_) rfl (fun _ _ _ h => h) rfl ?hy ?ha ?_; (case hy => (intro w_; go_simp; with_reducible rfl)); (case ha => (simp only [Act.put, List.setIfInBounds_toArray, List.set_cons_zero, List.set_cons_succ, i64_w, i32_w]; rfl)))
                | (refine s_held (v := ?_) (a' := ?_) hS rfl (fun _ _ _ h => h) rfl ?hy ?ha ?_; (case hy => (intro w_ hb_; have s0 := pw_cell_below hb_ e0; have s1 := pw_cell_below hb_ e1; have s2 := pw_cell_below hb_ e2; go_simp; with_reducible rfl)); (case ha => (simp only [Act.put, List.setIfInBounds_toArray, List.set_cons_zero, List.set_cons_succ, i64_w, i32_w]; rfl))))
              refine s_oneL rfl (fun K hK => ?_) rfl
              go_wp2_with (go_at_call 17; (with_reducible refine (quote_any x.f2 m _ (pw_cell_below (HB3.out.trans (hS.mono HB3.out.size)) HM.out) (by have := HWI.out; have := HW.out; omega)).mono ?_); rintro e w7 ⟨rfl, hB⟩)
              have hS2 : Below wb.heap.size wb w7 := hS.trans (below_sub hB hS.size)
              clear hB
              replace hS := hS2
              refine hK _ _ hS2 ?_
              clear hK
              repeat (first
                | (refine s_pure (v := ?_) (a' := ?_) rfl (fun _ _ _ h => h) rfl ?hy ?ha ?_; (case hy => (intro w_; go_simp; with_reducible rfl)); (case ha => (simp only [Act.put, List.setIfInBounds_toArray, List.set_cons_zero, List.set_cons_succ, i64_w, i32_w]; rfl)))
                | (refine s_held (v := ?_) (a' := ?_) hS rfl (fun _ _ _ h => h) rfl ?hy ?ha ?_; (case hy => (intro w_ hb_; have s0 := pw_cell_below hb_ e0; go_simp; with_reducible rfl)); (case ha => (simp only [Act.put, List.setIfInBounds_toArray, List.set_cons_zero, List.set_cons_succ, i64_w, i32_w]; rfl))))
              refine s_tail 6 _ (by kernel_rfl) ?_
              simp only [List.drop_succ_cons, List.drop_zero]
              have HS7 := Aside0.mk hS
              clear hS hS2 e0 e1 e2 e3 e4
              have HQL := Aside0.mk (show (quoteS x.f2).size ≤ 5000000 by
                have h1 := qz_len (by2 x.f2)
                rw [← by2_size] at h1
                have := HWI.out
                have := HW.out
                rw [show quoteS x.f2 = bs (39 :: (qz (by2 x.f2) ++ [39])) from rfl, bs_size, List.length_cons, List.length_append, List.length_singleton]
                omega)
              go_wp2_with (go_at_call 41; (with_reducible refine (BuilderW.writeString_keep _ b _ (quoteS x.f2) _ (BuilderW.Bld_below HBk2.out HS7.out) (by have := HTK.out; have := HWI.out; have := HA.out; have := HW.out; have := HQL.out; rw [List.length_append]; omega) (Nat.le_trans HB3.out.size HS7.out.size)).mono ?_); rintro e w9 ⟨rfl, hb9, hB9, hK9⟩; have HB9 := Aside0.mk hb9; have HK9 := Aside0.mk (And.intro (HKk2.out.1.trans ((HS7.out.mono HB3.out.size).trans hB9)) (HKk2.out.2.trans ((BuilderW.kp_below HS7.out).trans hK9))); clear hb9 hB9 hK9)
              go_roundw
              case measure => simp [intOf]; omega
              case rel => exact ⟨k + 1, by omega, by go_num, ⟨by rw [HX.out, HO.out, ← List.append_assoc]; exact HB9.out⟩, HK9⟩
          · have HO := Aside0.mk (one_t (t := true) h0 rfl (wrL x.f1 x.f4))
            clear h0
            go_wp2_with (go_at_call 40; (with_reducible refine (tight_any x.f2 (by have := HWI.out; have := HW.out; omega) _ b _ (by have := HTK.out; have := HWI.out; have := HA.out; have := HW.out; rw [List.length_append]; omega) _ HBk2.out HB3.out.size).mono ?_); rintro e w9 ⟨rfl, hb9, hB9, hK9⟩; have HB9 := Aside0.mk hb9; have HK9 := Aside0.mk (And.intro (HKk2.out.1.trans hB9) (HKk2.out.2.trans hK9)); clear hb9 hB9 hK9)
            go_roundw
            case measure => simp [intOf]; omega
            case rel => exact ⟨k + 1, by omega, by go_num, ⟨by rw [HX.out, HO.out, ← List.append_assoc]; exact HB9.out⟩, HK9⟩
        · have h0n := h0
          have b0 : (x.f0 == 1) = false := beq_eq_false_iff_ne.mpr h0
          have HO := Aside0.mk (show oneL t x (wrL x.f1 x.f4) = mark t x ++ [36, 123] ++ by2 x.f2 ++ by2 x.f3 ++ wrL x.f1 x.f4 ++ [125] ++ mark t x by unfold oneL; rw [if_neg h0])
          have HSUB := Aside0.mk (wrL_le x.f1 x.f4)
          clear h0 h0n
          have hlen2 : x.f2.size ≤ 1000000 := by have := HWI.out; have := HW.out; omega
          have hlen3 : x.f3.size ≤ 1000000 := by have := HWI.out; have := HW.out; omega
          have s1 : (9223372036854775807 < 2 + x.f2.size) = False := eq_false (by omega)
          have s2 : (9223372036854775807 < 2 + x.f2.size + x.f3.size) = False := eq_false (by omega)
          have s3 : (9223372036854775807 < 3 + x.f2.size) = False := eq_false (by omega)
          have s4 : (9223372036854775807 < 3 + x.f2.size + x.f3.size) = False := eq_false (by omega)
          have s5 : (9223372036854775807 < 1 + 2 + x.f2.size) = False := eq_false (by omega)
          have s6 : (9223372036854775807 < 1 + 2 + x.f2.size + x.f3.size) = False := eq_false (by omega)
          have H2 := Aside0.mk hlen2
          have H3 := Aside0.mk hlen3
          clear hlen2 hlen3
          cases hq : x.f1
          · have HMK := Aside0.mk (show mark t x = by2 (⟨#[]⟩ : ByteArray) by unfold mark; rw [hq]; rfl)
            rw [hq] at e1
            have HQ := Aside0.mk hq
            clear hq
            go_upto_region 6 with (fail)
            refine region_seq (fun w_ => Below wb.heap.size wb w_) [11]
              [(0, some 21, .pure), (1, some 22, .pure), (2, some 23, .pure), (3, some 24, .pure), (4, some 25, .pure), (5, some 26, .pure), (8, some 29, .pure), (6, some 27, .held), (7, some 28, .pure), (9, some 30, .held), (10, some 31, .pure), (11, some 32, .last)] (by kernel_rfl) (by kernel_rfl) ?_
            have hS := below_drew (Below.refl wb.heap.size wb)
            repeat (first
              | (refine s_pure (v := ?_) (a' := ?_) rfl (fun _ _ _ h => h) rfl ?hy ?ha ?_; (case hy => (intro w_; go_simp; with_reducible rfl)); (case ha => (simp only [Act.put, List.setIfInBounds_toArray, List.set_cons_zero, List.set_cons_succ, i64_w, i32_w]; rfl)))
              | (refine s_held (v := ?_) (a' := ?_) hS rfl (fun _ _ _ h => h) rfl ?hy ?ha ?_; (case hy => (intro w_ hb_; have s0 := pw_cell_below hb_ e0; have s1 := pw_cell_below hb_ e1; have s2 := pw_cell_below hb_ e2; have s3 := pw_cell_below hb_ e3; go_simp; with_reducible rfl)); (case ha => (simp only [Act.put, List.setIfInBounds_toArray, List.set_cons_zero, List.set_cons_succ, i64_w, i32_w]; rfl)))
              | (refine s_off (a' := ?_) rfl (fun _ _ _ h => h) rfl ?ha ?_; (case ha => (simp only [Act.put, List.setIfInBounds_toArray, List.set_cons_zero, List.set_cons_succ, i64_w, i32_w]; rfl)))
              | (refine s_offHeld (a' := ?_) hS rfl (fun _ _ _ h => h) rfl ?ha ?_; (case ha => (simp only [Act.put, List.setIfInBounds_toArray, List.set_cons_zero, List.set_cons_succ, i64_w, i32_w]; rfl)))
              | (refine s_offOne (a' := ?_) rfl rfl rfl ?ha ?_; (case ha => (simp only [Act.put, List.setIfInBounds_toArray, List.set_cons_zero, List.set_cons_succ, i64_w, i32_w]; rfl))))
            refine s_tail 11 _ (by kernel_rfl) ?_
            simp only [List.drop_succ_cons, List.drop_zero]
            have HS7 := Aside0.mk hS
            clear hS e0 e1 e2 e3 e4 s1 s2 s3 s4 s5 s6
            go_upto_region 7 with (go_at_call 41; (with_reducible refine (BuilderW.writeString_keep _ b _ ((⟨#[]⟩ : ByteArray) ++ ⟨#[36, 123]⟩ ++ x.f2 ++ x.f3) _ (BuilderW.Bld_below HBk2.out HS7.out) (by have := HTK.out; have := HWI.out; have := HA.out; have := HW.out; have := H2.out; have := H3.out; rw [List.length_append]; simp only [size_app, show (⟨#[]⟩ : ByteArray).size = 0 from rfl, show (⟨#[34]⟩ : ByteArray).size = 1 from rfl, show (⟨#[36, 123]⟩ : ByteArray).size = 2 from rfl]; omega) (Nat.le_trans HB3.out.size HS7.out.size)).mono ?_); rintro e w9 ⟨rfl, hb9, hB9, hK9⟩; have HB9 := Aside0.mk hb9; have HK9 := Aside0.mk (And.intro (HKk2.out.1.trans ((HS7.out.mono HB3.out.size).trans hB9)) (HKk2.out.2.trans ((BuilderW.kp_below HS7.out).trans hK9))); have HG9 := Aside0.mk (kp_pt ((BuilderW.kp_below HS7.out).trans hK9) HG2.out HGB.out); clear hb9 hB9 hK9)
            have HB10 := Aside0.mk (HB0.out.trans HK9.out.1)
            have e1 : w9.cell? ⟨g8, 1, none⟩ = some (.bool x.f1) := (blk_cell HG9.out 1).trans rfl
            have e4 : w9.cell? ⟨g8, 4, none⟩ = some (.slice A4 x.f4.length c4) := (blk_cell HG9.out 4).trans rfl
            go_upto_region 8 with (go_at_call 25; (with_reducible refine (IH.out x.f4 (by have := HSZ.out; have := HN.out; omega) (by have := HWI.out; have := HW.out; omega) x.f1 A4 _ c4 b _ _ H4.out HB9.out HB10.out (by have := HWK.out; have := HTL.out; have := HA.out; rw [List.length_append, List.length_append, data_length]; simp only [size_app, show (⟨#[]⟩ : ByteArray).size = 0 from rfl, show (⟨#[34]⟩ : ByteArray).size = 1 from rfl, show (⟨#[36, 123]⟩ : ByteArray).size = 2 from rfl]; omega)).mono ?_); rintro e w11 ⟨rfl, hb9, hB9, hK9⟩; have HB11 := Aside0.mk hb9; have HK11 := Aside0.mk (And.intro (HK9.out.1.trans hB9) (HK9.out.2.trans hK9)); clear hb9 hB9 hK9)
            have HB12 := Aside0.mk (HB0.out.trans HK11.out.1)
            clear e1 e4
            go_wp2_with (go_at_call 41; (with_reducible refine (BuilderW.writeString_keep _ b _ (⟨#[125]⟩ ++ (⟨#[]⟩ : ByteArray)) _ HB11.out (by have := HWK.out; have := HTL.out; have := HSUB.out; have := HA.out; have := HW.out; rw [List.length_append, List.length_append, List.length_append, data_length]; simp only [size_app, show (⟨#[]⟩ : ByteArray).size = 0 from rfl, show (⟨#[34]⟩ : ByteArray).size = 1 from rfl, show (⟨#[36, 123]⟩ : ByteArray).size = 2 from rfl, show (⟨#[125]⟩ : ByteArray).size = 1 from rfl]; omega) HB12.out.size).mono ?_); rintro e w13 ⟨rfl, hb9, hB9, hK9⟩; have HB13 := Aside0.mk hb9; have HK13 := Aside0.mk (And.intro (HK11.out.1.trans hB9) (HK11.out.2.trans hK9)); clear hb9 hB9 hK9)
            go_roundw
            case measure => simp [intOf]; omega
            case rel => exact ⟨k + 1, by omega, by go_num, ⟨by
              rw [HX.out, HO.out, HMK.out]
              have := HB13.out
              simp only [List.append_assoc] at this ⊢
              simpa [by2, List.append_assoc] using this⟩, HK13⟩
          · cases t
            · have HMK := Aside0.mk (show mark false x = by2 (⟨#[34]⟩ : ByteArray) by unfold mark; rw [hq]; rfl)
              rw [hq] at e1
              have HQ := Aside0.mk hq
              clear hq
              go_upto_region 6 with (fail)
              refine region_seq (fun w_ => Below wb.heap.size wb w_) [11]
                [(0, some 21, .pure), (1, some 22, .pure), (2, some 23, .pure), (3, some 24, .pure), (4, some 25, .pure), (5, some 26, .pure), (8, some 29, .pure), (6, some 27, .held), (7, some 28, .pure), (9, some 30, .held), (10, some 31, .pure), (11, some 32, .last)] (by kernel_rfl) (by kernel_rfl) ?_
              have hS := below_drew (Below.refl wb.heap.size wb)
              repeat (first
                | (refine s_pure (v := ?_) (a' := ?_) rfl (fun _ _ _ h => h) rfl ?hy ?ha ?_; (case hy => (intro w_; go_simp; with_reducible rfl)); (case ha => (simp only [Act.put, List.setIfInBounds_toArray, List.set_cons_zero, List.set_cons_succ, i64_w, i32_w]; rfl)))
                | (refine s_held (v := ?_) (a' := ?_) hS rfl (fun _ _ _ h => h) rfl ?hy ?ha ?_; (case hy => (intro w_ hb_; have s0 := pw_cell_below hb_ e0; have s1 := pw_cell_below hb_ e1; have s2 := pw_cell_below hb_ e2; have s3 := pw_cell_below hb_ e3; go_simp; with_reducible rfl)); (case ha => (simp only [Act.put, List.setIfInBounds_toArray, List.set_cons_zero, List.set_cons_succ, i64_w, i32_w]; rfl)))
                | (refine s_off (a' := ?_) rfl (fun _ _ _ h => h) rfl ?ha ?_; (case ha => (simp only [Act.put, List.setIfInBounds_toArray, List.set_cons_zero, List.set_cons_succ, i64_w, i32_w]; rfl)))
                | (refine s_offHeld (a' := ?_) hS rfl (fun _ _ _ h => h) rfl ?ha ?_; (case ha => (simp only [Act.put, List.setIfInBounds_toArray, List.set_cons_zero, List.set_cons_succ, i64_w, i32_w]; rfl)))
                | (refine s_offOne (a' := ?_) rfl rfl rfl ?ha ?_; (case ha => (simp only [Act.put, List.setIfInBounds_toArray, List.set_cons_zero, List.set_cons_succ, i64_w, i32_w]; rfl))))
              refine s_tail 11 _ (by kernel_rfl) ?_
              simp only [List.drop_succ_cons, List.drop_zero]
              have HS7 := Aside0.mk hS
              clear hS e0 e1 e2 e3 e4 s1 s2 s3 s4 s5 s6
              go_upto_region 7 with (go_at_call 41; (with_reducible refine (BuilderW.writeString_keep _ b _ ((⟨#[34]⟩ : ByteArray) ++ ⟨#[36, 123]⟩ ++ x.f2 ++ x.f3) _ (BuilderW.Bld_below HBk2.out HS7.out) (by have := HTK.out; have := HWI.out; have := HA.out; have := HW.out; have := H2.out; have := H3.out; rw [List.length_append]; simp only [size_app, show (⟨#[]⟩ : ByteArray).size = 0 from rfl, show (⟨#[34]⟩ : ByteArray).size = 1 from rfl, show (⟨#[36, 123]⟩ : ByteArray).size = 2 from rfl]; omega) (Nat.le_trans HB3.out.size HS7.out.size)).mono ?_); rintro e w9 ⟨rfl, hb9, hB9, hK9⟩; have HB9 := Aside0.mk hb9; have HK9 := Aside0.mk (And.intro (HKk2.out.1.trans ((HS7.out.mono HB3.out.size).trans hB9)) (HKk2.out.2.trans ((BuilderW.kp_below HS7.out).trans hK9))); have HG9 := Aside0.mk (kp_pt ((BuilderW.kp_below HS7.out).trans hK9) HG2.out HGB.out); clear hb9 hB9 hK9)
              have HB10 := Aside0.mk (HB0.out.trans HK9.out.1)
              have e1 : w9.cell? ⟨g8, 1, none⟩ = some (.bool x.f1) := (blk_cell HG9.out 1).trans rfl
              have e4 : w9.cell? ⟨g8, 4, none⟩ = some (.slice A4 x.f4.length c4) := (blk_cell HG9.out 4).trans rfl
              go_upto_region 8 with (go_at_call 25; (with_reducible refine (IH.out x.f4 (by have := HSZ.out; have := HN.out; omega) (by have := HWI.out; have := HW.out; omega) x.f1 A4 _ c4 b _ _ H4.out HB9.out HB10.out (by have := HWK.out; have := HTL.out; have := HA.out; rw [List.length_append, List.length_append, data_length]; simp only [size_app, show (⟨#[]⟩ : ByteArray).size = 0 from rfl, show (⟨#[34]⟩ : ByteArray).size = 1 from rfl, show (⟨#[36, 123]⟩ : ByteArray).size = 2 from rfl]; omega)).mono ?_); rintro e w11 ⟨rfl, hb9, hB9, hK9⟩; have HB11 := Aside0.mk hb9; have HK11 := Aside0.mk (And.intro (HK9.out.1.trans hB9) (HK9.out.2.trans hK9)); clear hb9 hB9 hK9)
              have HB12 := Aside0.mk (HB0.out.trans HK11.out.1)
              clear e1 e4
              go_wp2_with (go_at_call 41; (with_reducible refine (BuilderW.writeString_keep _ b _ (⟨#[125]⟩ ++ (⟨#[34]⟩ : ByteArray)) _ HB11.out (by have := HWK.out; have := HTL.out; have := HSUB.out; have := HA.out; have := HW.out; rw [List.length_append, List.length_append, List.length_append, data_length]; simp only [size_app, show (⟨#[]⟩ : ByteArray).size = 0 from rfl, show (⟨#[34]⟩ : ByteArray).size = 1 from rfl, show (⟨#[36, 123]⟩ : ByteArray).size = 2 from rfl, show (⟨#[125]⟩ : ByteArray).size = 1 from rfl]; omega) HB12.out.size).mono ?_); rintro e w13 ⟨rfl, hb9, hB9, hK9⟩; have HB13 := Aside0.mk hb9; have HK13 := Aside0.mk (And.intro (HK11.out.1.trans hB9) (HK11.out.2.trans hK9)); clear hb9 hB9 hK9)
              go_roundw
              case measure => simp [intOf]; omega
              case rel => exact ⟨k + 1, by omega, by go_num, ⟨by
                rw [HX.out, HO.out, HMK.out]
                have := HB13.out
                simp only [List.append_assoc] at this ⊢
                simpa [by2, List.append_assoc] using this⟩, HK13⟩
            · have HMK := Aside0.mk (show mark true x = by2 (⟨#[]⟩ : ByteArray) by unfold mark; rw [hq]; rfl)
              rw [hq] at e1
              have HQ := Aside0.mk hq
              clear hq
              go_upto_region 6 with (fail)
              refine region_seq (fun w_ => Below wb.heap.size wb w_) [11]
                [(0, some 21, .pure), (1, some 22, .pure), (2, some 23, .pure), (3, some 24, .pure), (4, some 25, .pure), (5, some 26, .pure), (8, some 29, .pure), (6, some 27, .held), (7, some 28, .pure), (9, some 30, .held), (10, some 31, .pure), (11, some 32, .last)] (by kernel_rfl) (by kernel_rfl) ?_
              have hS := below_drew (Below.refl wb.heap.size wb)
              repeat (first
                | (refine s_pure (v := ?_) (a' := ?_) rfl (fun _ _ _ h => h) rfl ?hy ?ha ?_; (case hy => (intro w_; go_simp; with_reducible rfl)); (case ha => (simp only [Act.put, List.setIfInBounds_toArray, List.set_cons_zero, List.set_cons_succ, i64_w, i32_w]; rfl)))
                | (refine s_held (v := ?_) (a' := ?_) hS rfl (fun _ _ _ h => h) rfl ?hy ?ha ?_; (case hy => (intro w_ hb_; have s0 := pw_cell_below hb_ e0; have s1 := pw_cell_below hb_ e1; have s2 := pw_cell_below hb_ e2; have s3 := pw_cell_below hb_ e3; go_simp; with_reducible rfl)); (case ha => (simp only [Act.put, List.setIfInBounds_toArray, List.set_cons_zero, List.set_cons_succ, i64_w, i32_w]; rfl)))
                | (refine s_off (a' := ?_) rfl (fun _ _ _ h => h) rfl ?ha ?_; (case ha => (simp only [Act.put, List.setIfInBounds_toArray, List.set_cons_zero, List.set_cons_succ, i64_w, i32_w]; rfl)))
                | (refine s_offHeld (a' := ?_) hS rfl (fun _ _ _ h => h) rfl ?ha ?_; (case ha => (simp only [Act.put, List.setIfInBounds_toArray, List.set_cons_zero, List.set_cons_succ, i64_w, i32_w]; rfl)))
                | (refine s_offOne (a' := ?_) rfl rfl rfl ?ha ?_; (case ha => (simp only [Act.put, List.setIfInBounds_toArray, List.set_cons_zero, List.set_cons_succ, i64_w, i32_w]; rfl))))
              refine s_tail 11 _ (by kernel_rfl) ?_
              simp only [List.drop_succ_cons, List.drop_zero]
              have HS7 := Aside0.mk hS
              clear hS e0 e1 e2 e3 e4 s1 s2 s3 s4 s5 s6
              go_upto_region 7 with (go_at_call 41; (with_reducible refine (BuilderW.writeString_keep _ b _ ((⟨#[]⟩ : ByteArray) ++ ⟨#[36, 123]⟩ ++ x.f2 ++ x.f3) _ (BuilderW.Bld_below HBk2.out HS7.out) (by have := HTK.out; have := HWI.out; have := HA.out; have := HW.out; have := H2.out; have := H3.out; rw [List.length_append]; simp only [size_app, show (⟨#[]⟩ : ByteArray).size = 0 from rfl, show (⟨#[34]⟩ : ByteArray).size = 1 from rfl, show (⟨#[36, 123]⟩ : ByteArray).size = 2 from rfl]; omega) (Nat.le_trans HB3.out.size HS7.out.size)).mono ?_); rintro e w9 ⟨rfl, hb9, hB9, hK9⟩; have HB9 := Aside0.mk hb9; have HK9 := Aside0.mk (And.intro (HKk2.out.1.trans ((HS7.out.mono HB3.out.size).trans hB9)) (HKk2.out.2.trans ((BuilderW.kp_below HS7.out).trans hK9))); have HG9 := Aside0.mk (kp_pt ((BuilderW.kp_below HS7.out).trans hK9) HG2.out HGB.out); clear hb9 hB9 hK9)
              have HB10 := Aside0.mk (HB0.out.trans HK9.out.1)
              have e1 : w9.cell? ⟨g8, 1, none⟩ = some (.bool x.f1) := (blk_cell HG9.out 1).trans rfl
              have e4 : w9.cell? ⟨g8, 4, none⟩ = some (.slice A4 x.f4.length c4) := (blk_cell HG9.out 4).trans rfl
              go_upto_region 8 with (go_at_call 25; (with_reducible refine (IH.out x.f4 (by have := HSZ.out; have := HN.out; omega) (by have := HWI.out; have := HW.out; omega) x.f1 A4 _ c4 b _ _ H4.out HB9.out HB10.out (by have := HWK.out; have := HTL.out; have := HA.out; rw [List.length_append, List.length_append, data_length]; simp only [size_app, show (⟨#[]⟩ : ByteArray).size = 0 from rfl, show (⟨#[34]⟩ : ByteArray).size = 1 from rfl, show (⟨#[36, 123]⟩ : ByteArray).size = 2 from rfl]; omega)).mono ?_); rintro e w11 ⟨rfl, hb9, hB9, hK9⟩; have HB11 := Aside0.mk hb9; have HK11 := Aside0.mk (And.intro (HK9.out.1.trans hB9) (HK9.out.2.trans hK9)); clear hb9 hB9 hK9)
              have HB12 := Aside0.mk (HB0.out.trans HK11.out.1)
              clear e1 e4
              go_wp2_with (go_at_call 41; (with_reducible refine (BuilderW.writeString_keep _ b _ (⟨#[125]⟩ ++ (⟨#[]⟩ : ByteArray)) _ HB11.out (by have := HWK.out; have := HTL.out; have := HSUB.out; have := HA.out; have := HW.out; rw [List.length_append, List.length_append, List.length_append, data_length]; simp only [size_app, show (⟨#[]⟩ : ByteArray).size = 0 from rfl, show (⟨#[34]⟩ : ByteArray).size = 1 from rfl, show (⟨#[36, 123]⟩ : ByteArray).size = 2 from rfl, show (⟨#[125]⟩ : ByteArray).size = 1 from rfl]; omega) HB12.out.size).mono ?_); rintro e w13 ⟨rfl, hb9, hB9, hK9⟩; have HB13 := Aside0.mk hb9; have HK13 := Aside0.mk (And.intro (HK11.out.1.trans hB9) (HK11.out.2.trans hK9)); clear hb9 hB9 hK9)
              go_roundw
              case measure => simp [intOf]; omega
              case rel => exact ⟨k + 1, by omega, by go_num, ⟨by
                rw [HX.out, HO.out, HMK.out]
                have := HB13.out
                simp only [List.append_assoc] at this ⊢
                simpa [by2, List.append_assoc] using this⟩, HK13⟩
      · obtain rfl : k = n := by omega
        rw [List.take_of_length_le (by rw [HLN.out]; exact Nat.le_refl _)] at HBk
        go_wp2
        go_end0
        exact ⟨rfl, HBk.out, HKk.out.1, HKk.out.2⟩
end Go.Proofs.YtkecpfjmdokieaaDoor.Word
namespace Go.Proofs.YtkecpfjmdokieaaDoor.P
open Go.RowKit Go.Proofs.YtkecpfjmdokieaaDoorW.PrintWords Go.Proofs.YtkecpfjmdokieaaDoorW.PrintLast Go.Proofs.YtkecpfjmdokieaaDoor.Base Go.Proofs.YtkecpfjmdokieaaDoor.NodeOps
set_option linter.unusedVariables false
def PartsOk (l : List S33) (at_ deep : Int) (r : Bool) : Prop := ∀ (A : Option Addr) (c : Nat) (w : World), Kd.C k33 w A l.length l → l.length ≤ c → Calls Tryd.prog 23 #[.slice A l.length c, .int .i64 at_, .int .i64 deep] w fun e w' => e = .returned (.bool r) ∧ Below w.heap.size w w'
open Classical in
noncomputable def word_parts.f (l : List S33) (at_ deep : Int) : Option Bool := if PartsOk l at_ deep (Word.partsF (201 - deep).toNat at_ l) then some (Word.partsF (201 - deep).toNat at_ l) else none
theorem word_parts.calls (A : Option Addr) (c : Nat) (l : List S33) (at_ deep : Int) (r : Bool) (w : World) (hr : Kd.C k33 w A l.length l) (hc : l.length ≤ c) (h : word_parts.f l at_ deep = some r) :
    Calls Tryd.prog 23 #[.slice A l.length c, .int .i64 at_, .int .i64 deep] w fun e w' => e = .returned (.bool r) ∧ Below w.heap.size w w' := by
  unfold word_parts.f at h
  split at h
  · rename_i h1
    injection h with h
    subst h
    exact h1 A c w hr hc
  · cases h
theorem word_parts.of (l : List S33) (at_ deep : Int) (h : PartsOk l at_ deep (Word.partsF (201 - deep).toNat at_ l)) : word_parts.f l at_ deep = some (Word.partsF (201 - deep).toNat at_ l) := by
  unfold word_parts.f
  rw [if_pos h]
end Go.Proofs.YtkecpfjmdokieaaDoor.P
namespace Go.Proofs.YtkecpfjmdokieaaDoor.P
open Go.RowKit Go.Proofs.YtkecpfjmdokieaaDoorW.PrintWords Go.Proofs.YtkecpfjmdokieaaDoorW.PrintLast Go.Proofs.YtkecpfjmdokieaaDoorW.PrintMore
attribute [local go_sem] max2_int min2_int max_two min_two max_three min_three max_four min_four   -- for this text's walks alone
set_option linter.unusedVariables false
set_option linter.unusedSimpArgs false
def slices_Index_string_string.l0 : Nat → List ByteArray → ByteArray → Int → Int → Option (Int)
  | 0, _, _, _, _ => none
  | k + 1, x0, x1, x7, x8 => if x8 < x7 then (if 0 ≤ x8 then (if x8 < (x0.length : Int) then (if x1.toList = (rdOf ByteArray.empty x0 x8).toList then (some x8) else (slices_Index_string_string.l0 k x0 x1 x7 (wrap64 (x8 + 1)))) else (none)) else (none)) else (some (-1))
def slices_Index_string_string.f (k : Nat) (l0 : List ByteArray) (a1 : ByteArray) : Option (Int) := slices_Index_string_string.l0 k l0 a1 (l0.length : Int) 0
set_option maxHeartbeats 8000000 in
set_option maxRecDepth 100000 in
theorem slices_Index_string_string.calls (k : Nat) (A0 : Option Addr) (c0 : Nat) (l0 : List ByteArray) (a1 : ByteArray) (r : Int) (w : World) (hr0 : Kd.C Kd.string w A0 l0.length l0) (hc0 : l0.length ≤ c0) (h : slices_Index_string_string.f k l0 a1 = some r) :
    Calls Tryd.prog 72 #[.slice A0 l0.length c0, .string a1] w fun e w' => e = .returned (.int .i64 r) ∧ Drawn0 w w' := by
  have HR0 := Aside0.mk hr0
  have HC0 := Aside0.mk hc0
  clear hr0 hc0
  have H : (slices_Index_string_string.l0 k l0 a1 (l0.length : Int) 0) = some r := h
  clear h
  have H' := Aside0.mk H
  clear H
  go_enter Tryd.func72, Tryd.ntmps72
  go_wp2
  go_loopg [8] k (fun kq v8 w' => ∃ (x8_1 : Int), v8 = .int .i64 x8_1 ∧ Aside0 (slices_Index_string_string.l0 kq l0 a1 (l0.length : Int) x8_1 = some r) ∧ Aside0 (kq ≤ k) ∧ Drawn0 w w')
  case atStart => exact ⟨(0), (by first | rfl | (simp; done) | (simp [*]; done)), H', ⟨Nat.le_refl _⟩, by repeat (first | exact Drawn0.refl _ | apply Drawn0.step)⟩
  case round =>
    clear H'
    try clear p2
    obtain ⟨x8_1, rfl, HA, HK1, ⟨m1, rfl⟩⟩ := hrel
    cases gk with
    | zero => exact absurd HA.out (by simp [slices_Index_string_string.l0])
    | succ k1 =>
      have H := HA.out
      clear HA
      simp only [slices_Index_string_string.l0] at H
      by_cases c3 : x8_1 < (l0.length : Int)
      · rw [if_pos c3] at H
        have c3b0 : decide (x8_1 < (l0.length : Int)) = true := decide_eq_true c3
        clear c3
        by_cases c4 : 0 ≤ x8_1
        · rw [if_pos c4] at H
          have c4b0 : decide (0 ≤ x8_1) = true := decide_eq_true c4
          clear c4
          by_cases c5 : x8_1 < (l0.length : Int)
          · rw [if_pos c5] at H
            have c5b0 : decide (x8_1 < (l0.length : Int)) = true := decide_eq_true c5
            clear c5
            by_cases c6 : a1.toList = (rdOf ByteArray.empty l0 x8_1).toList
            · rw [if_pos c6] at H
              have c6b0 : (a1.toList == (rdOf ByteArray.empty l0 x8_1).toList) = true := beq_iff_eq.mpr c6
              have c6b1 : (a1.toList != (rdOf ByteArray.empty l0 x8_1).toList) = false := bne_eq_false_iff_eq.mpr c6
              clear c6
              obtain rfl := Option.some.inj H
              have p107 : 0 ≤ (x8_1 : Int) := of_decide_eq_true (by first | (with_reducible assumption) | assumption)
              have q107 : x8_1 < (l0.length : Int) := of_decide_eq_true (by first | (with_reducible assumption) | assumption)
              obtain ⟨ad107, e107, hx107_0⟩ := Kd.at_string HR0.out x8_1 p107 q107
              cases e107
              replace p107 := eq_true p107
              replace q107 := eq_true q107
              go_wp2
              go_ret
              exact ⟨by first | rfl | (simp; done) | (simp [*]; done), by repeat (first | exact Drawn0.refl _ | apply Drawn0.step)⟩
            · rw [if_neg c6] at H
              have c6b0 : (a1.toList == (rdOf ByteArray.empty l0 x8_1).toList) = false := beq_eq_false_iff_ne.mpr c6
              have c6b1 : (a1.toList != (rdOf ByteArray.empty l0 x8_1).toList) = true := bne_iff_ne.mpr c6
              have H' := Aside0.mk H
              clear H
              have p107 : 0 ≤ (x8_1 : Int) := of_decide_eq_true (by first | (with_reducible assumption) | assumption)
              have q107 : x8_1 < (l0.length : Int) := of_decide_eq_true (by first | (with_reducible assumption) | assumption)
              obtain ⟨ad107, e107, hx107_0⟩ := Kd.at_string HR0.out x8_1 p107 q107
              cases e107
              replace p107 := eq_true p107
              replace q107 := eq_true q107
              go_wp2
              go_roundg k1
              case measure => have := HK1.out; omega
              case rel => exact ⟨(wrap64 (x8_1 + 1)), (by first | rfl | (simp; done) | (simp [*]; done)), H', ⟨by have := HK1.out; omega⟩, by repeat (first | exact Drawn0.refl _ | apply Drawn0.step)⟩
          · rw [if_neg c5] at H
            exact absurd H (by simp)
        · rw [if_neg c4] at H
          exact absurd H (by simp)
      · rw [if_neg c3] at H
        have c3b0 : decide (x8_1 < (l0.length : Int)) = false := decide_eq_false c3
        clear c3
        obtain rfl := Option.some.inj H
        go_wp2
        go_ret
        exact ⟨by first | rfl | (simp; done) | (simp [*]; done), by repeat (first | exact Drawn0.refl _ | apply Drawn0.step)⟩
def slices_Contains_string_string.f (k : Nat) (l0 : List ByteArray) (a1 : ByteArray) : Option (Bool) := (slices_Index_string_string.f k l0 a1).bind fun t108 => (some (decide (t108 ≥ 0)))
set_option maxHeartbeats 8000000 in
set_option maxRecDepth 100000 in
theorem slices_Contains_string_string.calls (k : Nat) (A0 : Option Addr) (c0 : Nat) (l0 : List ByteArray) (a1 : ByteArray) (r : Bool) (w : World) (hr0 : Kd.C Kd.string w A0 l0.length l0) (hc0 : l0.length ≤ c0) (h : slices_Contains_string_string.f k l0 a1 = some r) :
    Calls Tryd.prog 52 #[.slice A0 l0.length c0, .string a1] w fun e w' => e = .returned (.bool r) ∧ Drawn0 w w' := by
  have HR0 := Aside0.mk hr0
  have HC0 := Aside0.mk hc0
  clear hr0 hc0
  have H : ((slices_Index_string_string.f k l0 a1).bind fun t108 => (some (decide (t108 ≥ 0)))) = some r := h
  clear h
  replace H := Option.bind_eq_some_iff.mp H
  obtain ⟨t108, A30, H⟩ := H
  replace H : (some (decide (t108 ≥ 0))) = some r := H
  have A3 := Aside0.mk A30
  clear A30
  obtain rfl := Option.some.inj H
  go_enter Tryd.func52, Tryd.ntmps52
  go_wp2_with (first | ((with_reducible refine gate_callee (f := 72) rfl ?_); refine goesL_ (some 7) rfl rfl Tryd.func72 (by kernel_rfl) rfl #[.slice A0 l0.length c0, .string a1] rfl (by (try simp only [List.map_toArray, List.map_cons, List.map_nil]); first | done | rfl | (simp only [List.length_drop, List.length_take]; rfl)) ?_; (with_reducible refine (slices_Index_string_string.calls k _ _ l0 a1 t108 _ ?side1 ?side2 A3.out).mono ?_); (case side1 => repeat (first | exact HR0.out | (with_reducible refine Kd.C_alloc ?_ _) | (with_reducible refine Kd.C_drewN ?_ _) | (with_reducible refine Kd.C_drew ?_))); (case side2 => exact HC0.out); rintro e w' ⟨rfl, ⟨nd, rfl⟩⟩; refine ⟨_, rfl, ?_⟩))
  go_ret
  exact ⟨by first | rfl | (simp; done) | (simp [*]; done), by repeat (first | exact Drawn0.refl _ | apply Drawn0.step)⟩
def stringslite_HasPrefix.f (a0 : ByteArray) (a1 : ByteArray) : Option (Bool) := if (a0.size : Int) ≥ (a1.size : Int) then (if 0 ≤ (a1.size : Int) then (if (a1.size : Int) ≤ (a0.size : Int) then (some ((a0.extract 0 ((a1.size : Int) : Int).toNat).toList == a1.toList)) else (none)) else (none)) else (some false)
set_option maxHeartbeats 8000000 in
set_option maxRecDepth 100000 in
theorem stringslite_HasPrefix.calls (a0 : ByteArray) (a1 : ByteArray) (r : Bool) (w : World) (h : stringslite_HasPrefix.f a0 a1 = some r) :
    Calls Tryd.prog 92 #[.string a0, .string a1] w fun e w' => e = .returned (.bool r) ∧ Drawn0 w w' := by
  have H : (if (a0.size : Int) ≥ (a1.size : Int) then (if 0 ≤ (a1.size : Int) then (if (a1.size : Int) ≤ (a0.size : Int) then (some ((a0.extract 0 ((a1.size : Int) : Int).toNat).toList == a1.toList)) else (none)) else (none)) else (some false)) = some r := h
  clear h
  by_cases c3 : (a0.size : Int) ≥ (a1.size : Int)
  · rw [if_pos c3] at H
    have c3b0 : decide ((a1.size : Int) ≤ (a0.size : Int)) = true := decide_eq_true c3
    have c3b1 : decide (a1.size ≤ a0.size) = true := decide_eq_true (Int.ofNat_le.mp c3)
    clear c3
    by_cases c4 : 0 ≤ (a1.size : Int)
    · rw [if_pos c4] at H
      have c4b0 := eq_true c4
      have c4b1 : decide (0 ≤ (a1.size : Int)) = true := decide_eq_true c4
      clear c4
      by_cases c5 : (a1.size : Int) ≤ (a0.size : Int)
      · rw [if_pos c5] at H
        have c5b0 := eq_true c5
        have c5b1 : decide ((a1.size : Int) ≤ (a0.size : Int)) = true := decide_eq_true c5
        clear c5
        obtain rfl := Option.some.inj H
        go_enter Tryd.func92, Tryd.ntmps92
        go_wp2
        go_ret
        exact ⟨by first | rfl | (simp; done) | (simp [*]; done), by repeat (first | exact Drawn0.refl _ | apply Drawn0.step)⟩
      · rw [if_neg c5] at H
        exact absurd H (by simp)
    · rw [if_neg c4] at H
      exact absurd H (by simp)
  · rw [if_neg c3] at H
    have c3b0 : decide ((a1.size : Int) ≤ (a0.size : Int)) = false := decide_eq_false c3
    have c3b1 : decide (a1.size ≤ a0.size) = false := decide_eq_false (fun h => c3 (Int.ofNat_le.mpr h))
    clear c3
    obtain rfl := Option.some.inj H
    go_enter Tryd.func92, Tryd.ntmps92
    go_wp2
    go_ret
    exact ⟨by first | rfl | (simp; done) | (simp [*]; done), by repeat (first | exact Drawn0.refl _ | apply Drawn0.step)⟩
def stringslite_TrimPrefix.f (a0 : ByteArray) (a1 : ByteArray) : Option (ByteArray) := (stringslite_HasPrefix.f a0 a1).bind fun t109 => (if t109 = true then (if 0 ≤ (a1.size : Int) then (if (a1.size : Int) ≤ (a0.size : Int) then (some (a0.extract ((a1.size : Int) : Int).toNat a0.size)) else (none)) else (none)) else (some a0))
set_option maxHeartbeats 8000000 in
set_option maxRecDepth 100000 in
theorem stringslite_TrimPrefix.calls (a0 : ByteArray) (a1 : ByteArray) (r : ByteArray) (w : World) (h : stringslite_TrimPrefix.f a0 a1 = some r) :
    Calls Tryd.prog 73 #[.string a0, .string a1] w fun e w' => e = .returned (.string r) ∧ Drawn0 w w' := by
  have H : ((stringslite_HasPrefix.f a0 a1).bind fun t109 => (if t109 = true then (if 0 ≤ (a1.size : Int) then (if (a1.size : Int) ≤ (a0.size : Int) then (some (a0.extract ((a1.size : Int) : Int).toNat a0.size)) else (none)) else (none)) else (some a0))) = some r := h
  clear h
  replace H := Option.bind_eq_some_iff.mp H
  obtain ⟨t109, A30, H⟩ := H
  replace H : (if t109 = true then (if 0 ≤ (a1.size : Int) then (if (a1.size : Int) ≤ (a0.size : Int) then (some (a0.extract ((a1.size : Int) : Int).toNat a0.size)) else (none)) else (none)) else (some a0)) = some r := H
  have A3 := Aside0.mk A30
  clear A30
  by_cases c4 : t109 = true
  · subst c4
    have H1 : (if 0 ≤ (a1.size : Int) then (if (a1.size : Int) ≤ (a0.size : Int) then (some (a0.extract ((a1.size : Int) : Int).toNat a0.size)) else (none)) else (none)) = some r := by rw [if_pos rfl] at H; exact H
    clear H
    have H := H1
    clear H1
    by_cases c5 : 0 ≤ (a1.size : Int)
    · rw [if_pos c5] at H
      have c5b0 := eq_true c5
      have c5b1 : decide (0 ≤ (a1.size : Int)) = true := decide_eq_true c5
      clear c5
      by_cases c6 : (a1.size : Int) ≤ (a0.size : Int)
      · rw [if_pos c6] at H
        have c6b0 := eq_true c6
        have c6b1 : decide ((a1.size : Int) ≤ (a0.size : Int)) = true := decide_eq_true c6
        clear c6
        obtain rfl := Option.some.inj H
        go_enter Tryd.func73, Tryd.ntmps73
        go_wp2_with (first | ((with_reducible refine gate_callee (f := 92) rfl ?_); refine goesL_ (some 7) rfl rfl Tryd.func92 (by kernel_rfl) rfl #[.string a0, .string a1] rfl (by (try simp only [List.map_toArray, List.map_cons, List.map_nil]); first | done | rfl | (simp only [List.length_drop, List.length_take]; rfl)) ?_; (with_reducible refine (stringslite_HasPrefix.calls a0 a1 true _ A3.out).mono ?_); rintro e w' ⟨rfl, ⟨nd, rfl⟩⟩; refine ⟨_, rfl, ?_⟩))
        go_ret
        exact ⟨by first | rfl | (simp; done) | (simp [*]; done), by repeat (first | exact Drawn0.refl _ | apply Drawn0.step)⟩
      · rw [if_neg c6] at H
        exact absurd H (by simp)
    · rw [if_neg c5] at H
      exact absurd H (by simp)
  · replace c4 := Bool.eq_false_iff.mpr c4
    subst c4
    have H1 : (some a0) = some r := by rw [if_neg (show ¬ (false = true) by decide)] at H; exact H
    clear H
    have H := H1
    clear H1
    obtain rfl := Option.some.inj H
    go_enter Tryd.func73, Tryd.ntmps73
    go_wp2_with (first | ((with_reducible refine gate_callee (f := 92) rfl ?_); refine goesL_ (some 7) rfl rfl Tryd.func92 (by kernel_rfl) rfl #[.string a0, .string a1] rfl (by (try simp only [List.map_toArray, List.map_cons, List.map_nil]); first | done | rfl | (simp only [List.length_drop, List.length_take]; rfl)) ?_; (with_reducible refine (stringslite_HasPrefix.calls a0 a1 false _ A3.out).mono ?_); rintro e w' ⟨rfl, ⟨nd, rfl⟩⟩; refine ⟨_, rfl, ?_⟩))
    go_ret
    exact ⟨by first | rfl | (simp; done) | (simp [*]; done), by repeat (first | exact Drawn0.refl _ | apply Drawn0.step)⟩
def strings_TrimPrefix.f (a0 : ByteArray) (a1 : ByteArray) : Option (ByteArray) := (stringslite_TrimPrefix.f a0 a1).bind fun t110 => (some t110)
set_option maxHeartbeats 8000000 in
set_option maxRecDepth 100000 in
theorem strings_TrimPrefix.calls (a0 : ByteArray) (a1 : ByteArray) (r : ByteArray) (w : World) (h : strings_TrimPrefix.f a0 a1 = some r) :
    Calls Tryd.prog 53 #[.string a0, .string a1] w fun e w' => e = .returned (.string r) ∧ Drawn0 w w' := by
  have H : ((stringslite_TrimPrefix.f a0 a1).bind fun t110 => (some t110)) = some r := h
  clear h
  replace H := Option.bind_eq_some_iff.mp H
  obtain ⟨t110, A30, H⟩ := H
  replace H : (some t110) = some r := H
  have A3 := Aside0.mk A30
  clear A30
  obtain rfl := Option.some.inj H
  go_enter Tryd.func53, Tryd.ntmps53
  go_wp2_with (first | ((with_reducible refine gate_callee (f := 73) rfl ?_); refine goesL_ (some 7) rfl rfl Tryd.func73 (by kernel_rfl) rfl #[.string a0, .string a1] rfl (by (try simp only [List.map_toArray, List.map_cons, List.map_nil]); first | done | rfl | (simp only [List.length_drop, List.length_take]; rfl)) ?_; (with_reducible refine (stringslite_TrimPrefix.calls a0 a1 t110 _ A3.out).mono ?_); rintro e w' ⟨rfl, ⟨nd, rfl⟩⟩; refine ⟨_, rfl, ?_⟩))
  go_ret
  exact ⟨by first | rfl | (simp; done) | (simp [*]; done), by repeat (first | exact Drawn0.refl _ | apply Drawn0.step)⟩
def stringslite_HasSuffix.f (a0 : ByteArray) (a1 : ByteArray) : Option (Bool) := if (a0.size : Int) ≥ (a1.size : Int) then (if 0 ≤ (wrap64 ((a0.size : Int) - (a1.size : Int))) then (if (wrap64 ((a0.size : Int) - (a1.size : Int))) ≤ (a0.size : Int) then (some ((a0.extract ((wrap64 ((a0.size : Int) - (a1.size : Int))) : Int).toNat a0.size).toList == a1.toList)) else (none)) else (none)) else (some false)
set_option maxHeartbeats 8000000 in
set_option maxRecDepth 100000 in
theorem stringslite_HasSuffix.calls (a0 : ByteArray) (a1 : ByteArray) (r : Bool) (w : World) (h : stringslite_HasSuffix.f a0 a1 = some r) :
    Calls Tryd.prog 74 #[.string a0, .string a1] w fun e w' => e = .returned (.bool r) ∧ Drawn0 w w' := by
  have H : (if (a0.size : Int) ≥ (a1.size : Int) then (if 0 ≤ (wrap64 ((a0.size : Int) - (a1.size : Int))) then (if (wrap64 ((a0.size : Int) - (a1.size : Int))) ≤ (a0.size : Int) then (some ((a0.extract ((wrap64 ((a0.size : Int) - (a1.size : Int))) : Int).toNat a0.size).toList == a1.toList)) else (none)) else (none)) else (some false)) = some r := h
  clear h
  by_cases c3 : (a0.size : Int) ≥ (a1.size : Int)
  · rw [if_pos c3] at H
    have c3b0 : decide ((a1.size : Int) ≤ (a0.size : Int)) = true := decide_eq_true c3
    have c3b1 : decide (a1.size ≤ a0.size) = true := decide_eq_true (Int.ofNat_le.mp c3)
    clear c3
    obtain ⟨ji4, hji4⟩ : ∃ j_ : Int, (wrap64 ((a0.size : Int) - (a1.size : Int))) = j_ := ⟨_, rfl⟩
    replace H : (if 0 ≤ (ji4) then (if (ji4) ≤ (a0.size : Int) then (some ((a0.extract ((ji4) : Int).toNat a0.size).toList == a1.toList)) else (none)) else (none)) = some r := by first | (rw [hji4] at H; exact H) | (simp only [hji4] at H ⊢; exact H)
    have hji4w : (IntKind.i64.wrap ((a0.size : Int) - (a1.size : Int))) = ji4 := (i64_w _).trans hji4
    by_cases c5 : 0 ≤ (ji4)
    · rw [if_pos c5] at H
      have c5b0 := eq_true c5
      have c5b1 : decide (0 ≤ (ji4)) = true := decide_eq_true c5
      clear c5
      by_cases c6 : (ji4) ≤ (a0.size : Int)
      · rw [if_pos c6] at H
        have c6b0 := eq_true c6
        have c6b1 : decide ((ji4) ≤ (a0.size : Int)) = true := decide_eq_true c6
        clear c6
        obtain rfl := Option.some.inj H
        go_enter Tryd.func74, Tryd.ntmps74
        go_wp2
        go_ret
        exact ⟨by first | rfl | (simp; done) | (simp only [← hji4] <;> (first | rfl | simp)) | (simp [*]; done), by repeat (first | exact Drawn0.refl _ | apply Drawn0.step)⟩
      · rw [if_neg c6] at H
        exact absurd H (by simp)
    · rw [if_neg c5] at H
      exact absurd H (by simp)
  · rw [if_neg c3] at H
    have c3b0 : decide ((a1.size : Int) ≤ (a0.size : Int)) = false := decide_eq_false c3
    have c3b1 : decide (a1.size ≤ a0.size) = false := decide_eq_false (fun h => c3 (Int.ofNat_le.mpr h))
    clear c3
    obtain rfl := Option.some.inj H
    go_enter Tryd.func74, Tryd.ntmps74
    go_wp2
    go_ret
    exact ⟨by first | rfl | (simp; done) | (simp [*]; done), by repeat (first | exact Drawn0.refl _ | apply Drawn0.step)⟩
def strings_HasSuffix.f (a0 : ByteArray) (a1 : ByteArray) : Option (Bool) := (stringslite_HasSuffix.f a0 a1).bind fun t111 => (some t111)
set_option maxHeartbeats 8000000 in
set_option maxRecDepth 100000 in
theorem strings_HasSuffix.calls (a0 : ByteArray) (a1 : ByteArray) (r : Bool) (w : World) (h : strings_HasSuffix.f a0 a1 = some r) :
    Calls Tryd.prog 54 #[.string a0, .string a1] w fun e w' => e = .returned (.bool r) ∧ Drawn0 w w' := by
  have H : ((stringslite_HasSuffix.f a0 a1).bind fun t111 => (some t111)) = some r := h
  clear h
  replace H := Option.bind_eq_some_iff.mp H
  obtain ⟨t111, A30, H⟩ := H
  replace H : (some t111) = some r := H
  have A3 := Aside0.mk A30
  clear A30
  obtain rfl := Option.some.inj H
  go_enter Tryd.func54, Tryd.ntmps54
  go_wp2_with (first | ((with_reducible refine gate_callee (f := 74) rfl ?_); refine goesL_ (some 7) rfl rfl Tryd.func74 (by kernel_rfl) rfl #[.string a0, .string a1] rfl (by (try simp only [List.map_toArray, List.map_cons, List.map_nil]); first | done | rfl | (simp only [List.length_drop, List.length_take]; rfl)) ?_; (with_reducible refine (stringslite_HasSuffix.calls a0 a1 t111 _ A3.out).mono ?_); rintro e w' ⟨rfl, ⟨nd, rfl⟩⟩; refine ⟨_, rfl, ?_⟩))
  go_ret
  exact ⟨by first | rfl | (simp; done) | (simp [*]; done), by repeat (first | exact Drawn0.refl _ | apply Drawn0.step)⟩
def word_Of.f (a0 : ByteArray) : Option ((List (S33))) := some (([(⟨1, true, a0, (⟨#[]⟩ : ByteArray), ([] : List (S33))⟩ : S33)] : List (S33)))
set_option maxHeartbeats 8000000 in
set_option maxRecDepth 100000 in
theorem word_Of.calls (a0 : ByteArray) (r : List (S33)) (w : World) (h : word_Of.f a0 = some r) :
    Calls Tryd.prog 19 #[.string a0] w fun e w' => ∃ v0_ : Value, e = .returned (v0_) ∧ Kd.R k33 33 w' w.heap.size (fun _ => True) v0_ r ∧ Below w.heap.size w w' := by
  have hu33 := Tryd.underlying33
  have HB := Aside0.mk (Below.refl w.heap.size w)
  have H : (some (([(⟨1, true, a0, (⟨#[]⟩ : ByteArray), ([] : List (S33))⟩ : S33)] : List (S33)))) = some r := h
  clear h
  obtain ⟨y127, hy127⟩ : ∃ y_ : List (S33), y_ = (([(⟨1, true, a0, (⟨#[]⟩ : ByteArray), ([] : List (S33))⟩ : S33)] : List (S33))) := ⟨_, rfl⟩
  replace H : (some y127) = some r := by first | (rw [hy127]; with_reducible exact H) | (have H2_ := (Option.bind_some _ _).symm.trans H; rw [hy127]; with_reducible exact H2_) | (have H2_ := (Option.bind_some _ _).symm.trans H; with_reducible exact H2_) | with_reducible exact H | (rw [hy127]; exact H) | exact H
  have Ny127 := Aside0.mk hy127
  clear hy127
  obtain rfl := Option.some.inj H
  go_enter Tryd.func19, Tryd.ntmps19
  go_wp2_with (first | ((with_reducible refine gate_dst (N := 5) rfl ?_); refine Kd.R_lit k33 _ 33 ?hg (N := 5) ?hd (xs := ([(⟨1, true, a0, (⟨#[]⟩ : ByteArray), ([] : List (S33))⟩ : S33)] : List (S33))) (inner := [.int .i64 1, .bool true, .string a0, .string (⟨#[]⟩ : ByteArray), .slice none 0 0]) (ok := fun _ => True) (okp := fun _ => True) ?hr ?hp (fun _ hk => hk) trivial (Below.refl _ _) (Nat.le_refl _) (by simp) ?_; (case hd => rfl); (case hg => rfl); (case hr => first | (go_simp; done) | (go_simp; rfl)); (case hp => exact (Reps.c5 (show Kd.M k33 _ _ _ (⟨1, true, a0, (⟨#[]⟩ : ByteArray), ([] : List (S33))⟩ : S33) [.int .i64 1, .bool true, .string a0, .string (⟨#[]⟩ : ByteArray), .slice none 0 0] from (k33_mkM _ _ _ (⟨1, true, a0, (⟨#[]⟩ : ByteArray), ([] : List (S33))⟩ : S33) (Kd.R_nil _ _ _ _ _))) (Reps.none _ _))); intro v128 w2 ho3 hb hg_ hnew_; clear hg_ hnew_; (first | rw [← Ny127.out] at ho3 | (simp only [Int.reduceToNat] at ho3; rw [← Ny127.out] at ho3)); have n0_ := Aside0.mk (Kd.R_lower ho3 (below_size (by repeat (first | (with_reducible first | exact HB.out | apply below_alloc | apply pw_below_drewN | apply below_drew1) | exact HB.out)))); have n1_ := Aside0.mk (below_step (by repeat (first | (with_reducible first | exact HB.out | apply below_alloc | apply pw_below_drewN | apply below_drew1) | exact HB.out)) hb); clear HB; have HO129 := n0_; have HB := n1_; clear n0_ n1_; clear hb ho3))
  go_ret
  exact ⟨_, by first | rfl | (simp [errW_none, errW_some] <;> rfl) | (simp [*, errW_none, errW_some] <;> rfl), by (with_reducible repeat (first | apply Kd.R_alloc | apply Kd.R_drewN | apply Kd.R_drew)); exact HO129.out, by repeat (first | (with_reducible first | exact HB.out | apply below_alloc | apply pw_below_drewN | apply below_drew1) | exact HB.out)⟩
end Go.Proofs.YtkecpfjmdokieaaDoor.P
namespace Go.Proofs.YtkecpfjmdokieaaDoor.P
noncomputable section
open Go.RowKit Go.Proofs.YtkecpfjmdokieaaDoorW.PrintWords Go.Proofs.YtkecpfjmdokieaaDoorW.PrintLast Go.Proofs.YtkecpfjmdokieaaDoorW.PrintMore
attribute [local go_sem] max2_int min2_int max_two min_two max_three min_three max_four min_four   -- for this text's walks alone
set_option linter.unusedVariables false
set_option linter.unusedSimpArgs false
mutual
def word_param.j0 : Nat → Int → Int → Int → Int → Bool → ByteArray → ByteArray → List (S33) → Option (Bool)
  | 0, _, _, _, _, _, _, _, _ => none
  | k + 1, x1, x2, x7, x110000, x110001, x110002, x110003, x110004 => if x2 > 200 then (word_param.j1 k x2 x7 true x110000 x110001 x110002 x110003 x110004) else (if x1 = 2 then (if x110001 = true then ((class_Param.f x110002).bind fun t110 => (word_param.j1 k x2 x7 (!t110) x110000 x110001 x110002 x110003 x110004)) else (word_param.j1 k x2 x7 true x110000 x110001 x110002 x110003 x110004)) else ((class_Param.f x110002).bind fun t111 => (word_param.j1 k x2 x7 (!t111) x110000 x110001 x110002 x110003 x110004)))
def word_param.j1 : Nat → Int → Int → Bool → Int → Bool → ByteArray → ByteArray → List (S33) → Option (Bool)
  | 0, _, _, _, _, _, _, _, _ => none
  | k + 1, x2, x7, x10, x110000, x110001, x110002, x110003, x110004 => if x10 = true then (some false) else (if x110003.toList = ([] : List UInt8) then (some ((x110004.length : Int) == 0)) else ((strings_TrimPrefix.f x110003 (⟨#[58]⟩ : ByteArray)).bind fun t115 => ((slices_Contains_string_string.f k (([(⟨#[45]⟩ : ByteArray), (⟨#[61]⟩ : ByteArray), (⟨#[43]⟩ : ByteArray), (⟨#[63]⟩ : ByteArray)] : List ByteArray)) t115).bind fun t116 => (if t116 = true then (word_param.j2 k x2 x7 (decide ((x110003.size : Int) > 2)) x110000 x110001 x110002 x110003 x110004) else (word_param.j2 k x2 x7 true x110000 x110001 x110002 x110003 x110004)))))
def word_param.j2 : Nat → Int → Int → Bool → Int → Bool → ByteArray → ByteArray → List (S33) → Option (Bool)
  | 0, _, _, _, _, _, _, _, _ => none
  | k + 1, x2, x7, x36, x110000, x110001, x110002, x110003, x110004 => if x36 = true then (some false) else ((strings_HasSuffix.f x110003 (⟨#[61]⟩ : ByteArray)).bind fun t117 => (if t117 = true then ((class_Name.f x110002).bind fun t118 => (if t118 = true then ((word_parts.f x110004 x7 (wrap64 (x2 + 1))).bind fun t119 => (some t119)) else (some false))) else ((word_parts.f x110004 x7 (wrap64 (x2 + 1))).bind fun t120 => (some t120))))
end
def word_param.f (k : Nat) (a0_0 : Int) (a0_1 : Bool) (a0_2 : ByteArray) (a0_3 : ByteArray) (l0_4 : List (S33)) (a1 : Int) (a2 : Int) : Option (Bool) := if a0_1 = true then (word_param.j0 k a1 a2 2 a0_0 a0_1 a0_2 a0_3 l0_4) else (word_param.j0 k a1 a2 1 a0_0 a0_1 a0_2 a0_3 l0_4)
set_option maxHeartbeats 8000000 in
set_option maxRecDepth 100000 in
theorem word_param.calls (k : Nat) (a0_0 : Int) (a0_1 : Bool) (a0_2 : ByteArray) (a0_3 : ByteArray) (A0_4 : Option Addr) (c0_4 : Nat) (l0_4 : List (S33)) (a1 : Int) (a2 : Int) (r : Bool) (w : World) (hr0_4 : Kd.C k33 w A0_4 l0_4.length l0_4) (hc0_4 : l0_4.length ≤ c0_4) (h : word_param.f k a0_0 a0_1 a0_2 a0_3 l0_4 a1 a2 = some r) :
    Calls Tryd.prog 36 #[.agg #[.int .i64 a0_0, .bool a0_1, .string a0_2, .string a0_3, .slice A0_4 l0_4.length c0_4], .int .i64 a1, .int .i64 a2] w fun e w' => e = .returned (.bool r) ∧ Below w.heap.size w w' := by
  have hu33 := Tryd.underlying33
  have HR0_4 := Aside0.mk hr0_4
  have HC0_4 := Aside0.mk hc0_4
  clear hr0_4 hc0_4
  have HB := Aside0.mk (Below.refl w.heap.size w)
  have H : (if a0_1 = true then (word_param.j0 k a1 a2 2 a0_0 a0_1 a0_2 a0_3 l0_4) else (word_param.j0 k a1 a2 1 a0_0 a0_1 a0_2 a0_3 l0_4)) = some r := h
  clear h
  have HC4 := Aside0.mk H
  clear H
  go_enter Tryd.func36, Tryd.ntmps36
  go_upto_if 9 with (first | ((with_reducible refine gate_dst (N := 3) rfl ?_); (try (refine gate_guard (by rfl) ?_; dsimp only)); refine box_event ?hg (N := 3) ?hd (cs := #[.int .i64 a0_0, .bool a0_1, .string a0_2, .string a0_3, .slice A0_4 l0_4.length c0_4]) (t := 33) ?hr ?_; (case hd => rfl); (case hg => rfl); (case hr => first | (go_simp; done) | (go_simp; rfl)); intro gb109 hg w5 hbox hb; have n0_ := Aside0.mk (below_step (by repeat (first | (with_reducible first | exact HB.out | apply below_alloc | apply pw_below_drewN | apply below_drew1) | exact HB.out)) hb); have n1_ := Aside0.mk (hbox); have n2_ := Aside0.mk ((by rw [hg]; exact (below_size (by repeat (first | (with_reducible first | exact HB.out | apply below_alloc | apply pw_below_drewN | apply below_drew1) | exact HB.out))) : w.heap.size ≤ gb109)); have n3_ := Aside0.mk ((by rw [hg]; exact (below_size (by repeat (first | (with_reducible first | exact HB.out | apply below_alloc | apply pw_below_drewN | apply below_drew1) | exact HB.out))) : w.heap.size ≤ gb109)); clear HB; have HB := n0_; have BK109 := n1_; have GW109 := n2_; have GE109 := n3_; clear n0_ n1_ n2_ n3_; clear hb hbox hg; have hcz6_0 : w5.cell? ⟨gb109, 0, none⟩ = some (.int .i64 a0_0) := (blk_cell BK109.out 0).trans rfl; have hcz6_1 : w5.cell? ⟨gb109, 1, none⟩ = some (.bool a0_1) := (blk_cell BK109.out 1).trans rfl; have hcz6_2 : w5.cell? ⟨gb109, 2, none⟩ = some (.string a0_2) := (blk_cell BK109.out 2).trans rfl; have hcz6_3 : w5.cell? ⟨gb109, 3, none⟩ = some (.string a0_3) := (blk_cell BK109.out 3).trans rfl; have hcz6_4 : w5.cell? ⟨gb109, 4, none⟩ = some (.slice A0_4 l0_4.length c0_4) := (blk_cell BK109.out 4).trans rfl; have hfz6_0 := blk_frozen BK109.out 0; have hfz6_1 := blk_frozen BK109.out 1; have hfz6_2 := blk_frozen BK109.out 2; have hfz6_3 := blk_frozen BK109.out 3; have hfz6_4 := blk_frozen BK109.out 4))
  (try simp only [Act.put, List.setIfInBounds_toArray, List.set_cons_zero, List.set_cons_succ])
  go_cut [7] (fun v7 wc => ∃ (kq : Nat) (x7_3 : Int), v7 = .int .i64 x7_3 ∧ Aside0 (word_param.j0 kq a1 a2 x7_3 a0_0 a0_1 a0_2 a0_3 l0_4 = some r) ∧ Aside0 (kq ≤ k) ∧ Aside0 (wc.heap[gb109]? = some (.cells #[.int .i64 a0_0, .bool a0_1, .string a0_2, .string a0_3, (.slice A0_4 l0_4.length c0_4)] 33 (0, 0))) ∧ Aside0 (Below w.heap.size w wc))
  case first =>
    have H := HC4.out
    clear HC4
    by_cases c7 : a0_1 = true
    · subst c7
      have H1 : (word_param.j0 k a1 a2 2 a0_0 true a0_2 a0_3 l0_4) = some r := by rw [if_pos rfl] at H; exact H
      clear H
      have H := H1
      clear H1
      have H' := Aside0.mk H
      clear H
      go_wp2
      go_meet
      case rel => exact ⟨_, (2), (by first | rfl | (simp; done) | (simp [*]; done)), H', ⟨by first | omega | exact Nat.le_refl _⟩, ⟨by (with_reducible repeat (first | refine blk_drewN ?_ _ | refine blk_drew ?_ | refine blk_alloc ?_ _)); exact BK109.out⟩, ⟨by repeat (first | (with_reducible first | exact HB.out | apply below_alloc | apply pw_below_drewN | apply below_drew1 | refine below_set ?_ GE109.out) | exact HB.out)⟩⟩
    · replace c7 := Bool.eq_false_iff.mpr c7
      subst c7
      have H1 : (word_param.j0 k a1 a2 1 a0_0 false a0_2 a0_3 l0_4) = some r := by rw [if_neg (show ¬ (false = true) by decide)] at H; exact H
      clear H
      have H := H1
      clear H1
      have H' := Aside0.mk H
      clear H
      go_wp2
      go_meet
      case rel => exact ⟨_, (1), (by first | rfl | (simp; done) | (simp [*]; done)), H', ⟨by first | omega | exact Nat.le_refl _⟩, ⟨by (with_reducible repeat (first | refine blk_drewN ?_ _ | refine blk_drew ?_ | refine blk_alloc ?_ _)); exact BK109.out⟩, ⟨by repeat (first | (with_reducible first | exact HB.out | apply below_alloc | apply pw_below_drewN | apply below_drew1 | refine below_set ?_ GE109.out) | exact HB.out)⟩⟩
  case rest =>
    clear HC4
    try clear p2
    try clear c3
    try clear c7
    try clear hcz6_0
    try clear hcz6_1
    try clear hcz6_2
    try clear hcz6_3
    try clear hcz6_4
    try clear hfz6_0
    try clear hfz6_1
    try clear hfz6_2
    try clear hfz6_3
    try clear hfz6_4
    obtain ⟨kq, x7_3, rfl, HA, HJ3, BK109, HB⟩ := hcut
    cases kq with
    | zero => exact absurd HA.out (by simp [word_param.j0])
    | succ kj3 =>
      have H := HA.out
      clear HA
      simp only [word_param.j0] at H
      have HC8 := Aside0.mk H
      clear H
      go_upto_region 4 with (fail)
      go_cut [10] (fun v10 wc => ∃ (kq : Nat) (x10_7 : Bool), v10 = .bool x10_7 ∧ Aside0 (word_param.j1 kq a2 x7_3 x10_7 a0_0 a0_1 a0_2 a0_3 l0_4 = some r) ∧ Aside0 (kq ≤ kj3) ∧ Aside0 (wc.heap[gb109]? = some (.cells #[.int .i64 a0_0, .bool a0_1, .string a0_2, .string a0_3, (.slice A0_4 l0_4.length c0_4)] 33 (0, 0))) ∧ Aside0 (Below w.heap.size w wc))
      case first =>
        have H := HC8.out
        clear HC8
        by_cases c9 : a2 > 200
        · rw [if_pos c9] at H
          have c9b0 : decide (200 < a2) = true := decide_eq_true c9
          clear c9
          (first | rw [c9b0] | (simp only [i64_w, i32_w]; rw [c9b0]) | skip)
          have H' := Aside0.mk H
          clear H
          go_wp2
          go_meet
          case rel => exact ⟨_, (true), (by first | rfl | (simp; done) | (simp [*]; done)), H', ⟨by have := HJ3.out; first | omega | exact Nat.le_refl _⟩, ⟨by (with_reducible repeat (first | refine blk_drewN ?_ _ | refine blk_drew ?_ | refine blk_alloc ?_ _)); exact BK109.out⟩, ⟨by repeat (first | (with_reducible first | exact HB.out | apply below_alloc | apply pw_below_drewN | apply below_drew1 | refine below_set ?_ GE109.out) | exact HB.out)⟩⟩
        · rw [if_neg c9] at H
          have c9b0 : decide (200 < a2) = false := decide_eq_false c9
          clear c9
          (first | rw [c9b0] | (simp only [i64_w, i32_w]; rw [c9b0]) | skip)
          by_cases c10 : a1 = 2
          · rw [if_pos c10] at H
            have c10b0 : (a1 == 2) = true := beq_iff_eq.mpr c10
            have c10b1 : (a1 != 2) = false := bne_eq_false_iff_eq.mpr c10
            clear c10
            by_cases c11 : a0_1 = true
            · subst c11
              have H1 : ((class_Param.f a0_2).bind fun t110 => (word_param.j1 kj3 a2 x7_3 (!t110) a0_0 true a0_2 a0_3 l0_4)) = some r := by rw [if_pos rfl] at H; exact H
              clear H
              have H := H1
              clear H1
              replace H := Option.bind_eq_some_iff.mp H
              obtain ⟨t110, A120, H⟩ := H
              replace H : (word_param.j1 kj3 a2 x7_3 (!t110) a0_0 true a0_2 a0_3 l0_4) = some r := H
              have A12 := Aside0.mk A120
              clear A120
              have H' := Aside0.mk H
              clear H
              have hcz13_0 : wc.cell? ⟨gb109, 0, none⟩ = some (.int .i64 a0_0) := (blk_cell BK109.out 0).trans rfl
              have hcz13_1 : wc.cell? ⟨gb109, 1, none⟩ = some (.bool true) := (blk_cell BK109.out 1).trans rfl
              have hcz13_2 : wc.cell? ⟨gb109, 2, none⟩ = some (.string a0_2) := (blk_cell BK109.out 2).trans rfl
              have hcz13_3 : wc.cell? ⟨gb109, 3, none⟩ = some (.string a0_3) := (blk_cell BK109.out 3).trans rfl
              have hcz13_4 : wc.cell? ⟨gb109, 4, none⟩ = some (.slice A0_4 l0_4.length c0_4) := (blk_cell BK109.out 4).trans rfl
              have hfz13_0 := blk_frozen BK109.out 0
              have hfz13_1 := blk_frozen BK109.out 1
              have hfz13_2 := blk_frozen BK109.out 2
              have hfz13_3 := blk_frozen BK109.out 3
              have hfz13_4 := blk_frozen BK109.out 4
              go_wp2_with (first | (go_at_call 51; (with_reducible refine (class_Param.calls a0_2 t110 _ A12.out).mono ?_); rintro e w14 ⟨rfl, hb⟩; have n0_ := Aside0.mk (blk_below (g := gb109) (o := .cells #[.int .i64 a0_0, .bool true, .string a0_2, .string a0_3, .slice A0_4 l0_4.length c0_4] 33 (0, 0)) (by (with_reducible repeat (first | refine blk_drewN ?_ _ | refine blk_drew ?_ | refine blk_alloc ?_ _)); exact BK109.out) hb); have n1_ := Aside0.mk (below_step (by repeat (first | (with_reducible first | exact HB.out | apply below_alloc | apply pw_below_drewN | apply below_drew1 | refine below_set ?_ GE109.out) | exact HB.out)) hb); clear BK109; clear HB; have BK109 := n0_; have HB := n1_; clear n0_ n1_; (try clear hb); (try clear hb2); (try clear hk); (try clear hi)))
              go_meet
              case rel => exact ⟨_, (!t110), (by first | rfl | (simp; done) | (simp [*]; done)), H', ⟨by have := HJ3.out; first | omega | exact Nat.le_refl _⟩, ⟨by (with_reducible repeat (first | refine blk_drewN ?_ _ | refine blk_drew ?_ | refine blk_alloc ?_ _)); exact BK109.out⟩, ⟨by repeat (first | (with_reducible first | exact HB.out | apply below_alloc | apply pw_below_drewN | apply below_drew1 | refine below_set ?_ GE109.out) | exact HB.out)⟩⟩
            · replace c11 := Bool.eq_false_iff.mpr c11
              subst c11
              have H1 : (word_param.j1 kj3 a2 x7_3 true a0_0 false a0_2 a0_3 l0_4) = some r := by rw [if_neg (show ¬ (false = true) by decide)] at H; exact H
              clear H
              have H := H1
              clear H1
              have H' := Aside0.mk H
              clear H
              have hcz15_0 : wc.cell? ⟨gb109, 0, none⟩ = some (.int .i64 a0_0) := (blk_cell BK109.out 0).trans rfl
              have hcz15_1 : wc.cell? ⟨gb109, 1, none⟩ = some (.bool false) := (blk_cell BK109.out 1).trans rfl
              have hcz15_2 : wc.cell? ⟨gb109, 2, none⟩ = some (.string a0_2) := (blk_cell BK109.out 2).trans rfl
              have hcz15_3 : wc.cell? ⟨gb109, 3, none⟩ = some (.string a0_3) := (blk_cell BK109.out 3).trans rfl
              have hcz15_4 : wc.cell? ⟨gb109, 4, none⟩ = some (.slice A0_4 l0_4.length c0_4) := (blk_cell BK109.out 4).trans rfl
              have hfz15_0 := blk_frozen BK109.out 0
              have hfz15_1 := blk_frozen BK109.out 1
              have hfz15_2 := blk_frozen BK109.out 2
              have hfz15_3 := blk_frozen BK109.out 3
              have hfz15_4 := blk_frozen BK109.out 4
              go_wp2
              go_meet
              case rel => exact ⟨_, (true), (by first | rfl | (simp; done) | (simp [*]; done)), H', ⟨by have := HJ3.out; first | omega | exact Nat.le_refl _⟩, ⟨by (with_reducible repeat (first | refine blk_drewN ?_ _ | refine blk_drew ?_ | refine blk_alloc ?_ _)); exact BK109.out⟩, ⟨by repeat (first | (with_reducible first | exact HB.out | apply below_alloc | apply pw_below_drewN | apply below_drew1 | refine below_set ?_ GE109.out) | exact HB.out)⟩⟩
          · rw [if_neg c10] at H
            have c10b0 : (a1 == 2) = false := beq_eq_false_iff_ne.mpr c10
            have c10b1 : (a1 != 2) = true := bne_iff_ne.mpr c10
            replace H := Option.bind_eq_some_iff.mp H
            obtain ⟨t111, A160, H⟩ := H
            replace H : (word_param.j1 kj3 a2 x7_3 (!t111) a0_0 a0_1 a0_2 a0_3 l0_4) = some r := H
            have A16 := Aside0.mk A160
            clear A160
            have H' := Aside0.mk H
            clear H
            have hcz17_0 : wc.cell? ⟨gb109, 0, none⟩ = some (.int .i64 a0_0) := (blk_cell BK109.out 0).trans rfl
            have hcz17_1 : wc.cell? ⟨gb109, 1, none⟩ = some (.bool a0_1) := (blk_cell BK109.out 1).trans rfl
            have hcz17_2 : wc.cell? ⟨gb109, 2, none⟩ = some (.string a0_2) := (blk_cell BK109.out 2).trans rfl
            have hcz17_3 : wc.cell? ⟨gb109, 3, none⟩ = some (.string a0_3) := (blk_cell BK109.out 3).trans rfl
            have hcz17_4 : wc.cell? ⟨gb109, 4, none⟩ = some (.slice A0_4 l0_4.length c0_4) := (blk_cell BK109.out 4).trans rfl
            have hfz17_0 := blk_frozen BK109.out 0
            have hfz17_1 := blk_frozen BK109.out 1
            have hfz17_2 := blk_frozen BK109.out 2
            have hfz17_3 := blk_frozen BK109.out 3
            have hfz17_4 := blk_frozen BK109.out 4
            go_wp2_with (first | (go_at_call 51; (with_reducible refine (class_Param.calls a0_2 t111 _ A16.out).mono ?_); rintro e w18 ⟨rfl, hb⟩; have n0_ := Aside0.mk (blk_below (g := gb109) (o := .cells #[.int .i64 a0_0, .bool a0_1, .string a0_2, .string a0_3, .slice A0_4 l0_4.length c0_4] 33 (0, 0)) (by (with_reducible repeat (first | refine blk_drewN ?_ _ | refine blk_drew ?_ | refine blk_alloc ?_ _)); exact BK109.out) hb); have n1_ := Aside0.mk (below_step (by repeat (first | (with_reducible first | exact HB.out | apply below_alloc | apply pw_below_drewN | apply below_drew1 | refine below_set ?_ GE109.out) | exact HB.out)) hb); clear BK109; clear HB; have BK109 := n0_; have HB := n1_; clear n0_ n1_; (try clear hb); (try clear hb2); (try clear hk); (try clear hi)))
            go_meet
            case rel => exact ⟨_, (!t111), (by first | rfl | (simp; done) | (simp [*]; done)), H', ⟨by have := HJ3.out; first | omega | exact Nat.le_refl _⟩, ⟨by (with_reducible repeat (first | refine blk_drewN ?_ _ | refine blk_drew ?_ | refine blk_alloc ?_ _)); exact BK109.out⟩, ⟨by repeat (first | (with_reducible first | exact HB.out | apply below_alloc | apply pw_below_drewN | apply below_drew1 | refine below_set ?_ GE109.out) | exact HB.out)⟩⟩
      case rest =>
        clear HC8
        try clear c1
        try clear p2
        try clear c3
        try clear c7
        try clear c9
        try clear c9b0
        try clear c10
        try clear c10b0
        try clear c10b1
        try clear c11
        try clear hcz13_0
        try clear hcz13_1
        try clear hcz13_2
        try clear hcz13_3
        try clear hcz13_4
        try clear hcz15_0
        try clear hcz15_1
        try clear hcz15_2
        try clear hcz15_3
        try clear hcz15_4
        try clear hcz17_0
        try clear hcz17_1
        try clear hcz17_2
        try clear hcz17_3
        try clear hcz17_4
        try clear hcz6_0
        try clear hcz6_1
        try clear hcz6_2
        try clear hcz6_3
        try clear hcz6_4
        try clear hfz13_0
        try clear hfz13_1
        try clear hfz13_2
        try clear hfz13_3
        try clear hfz13_4
        try clear hfz15_0
        try clear hfz15_1
        try clear hfz15_2
        try clear hfz15_3
        try clear hfz15_4
        try clear hfz17_0
        try clear hfz17_1
        try clear hfz17_2
        try clear hfz17_3
        try clear hfz17_4
        try clear hfz6_0
        try clear hfz6_1
        try clear hfz6_2
        try clear hfz6_3
        try clear hfz6_4
        try clear p2
        obtain ⟨kq, x10_7, rfl, HA, HJ7, BK109, HB⟩ := hcut
        cases kq with
        | zero => exact absurd HA.out (by simp [word_param.j1])
        | succ kj7 =>
          have H := HA.out
          clear HA
          simp only [word_param.j1] at H
          by_cases c19 : x10_7 = true
          · subst c19
            have H1 : (some false) = some r := by rw [if_pos rfl] at H; exact H
            clear H
            have H := H1
            clear H1
            obtain rfl := Option.some.inj H
            go_wp2
            go_ret
            exact ⟨by first | rfl | (simp [errW_none, errW_some] <;> rfl) | (simp [*, errW_none, errW_some] <;> rfl), by repeat (first | (with_reducible first | exact HB.out | apply below_alloc | apply pw_below_drewN | apply below_drew1 | refine below_set ?_ GE109.out) | exact HB.out)⟩
          · replace c19 := Bool.eq_false_iff.mpr c19
            subst c19
            have H1 : (if a0_3.toList = ([] : List UInt8) then (some ((l0_4.length : Int) == 0)) else ((strings_TrimPrefix.f a0_3 (⟨#[58]⟩ : ByteArray)).bind fun t115 => ((slices_Contains_string_string.f kj7 (([(⟨#[45]⟩ : ByteArray), (⟨#[61]⟩ : ByteArray), (⟨#[43]⟩ : ByteArray), (⟨#[63]⟩ : ByteArray)] : List ByteArray)) t115).bind fun t116 => (if t116 = true then (word_param.j2 kj7 a2 x7_3 (decide ((a0_3.size : Int) > 2)) a0_0 a0_1 a0_2 a0_3 l0_4) else (word_param.j2 kj7 a2 x7_3 true a0_0 a0_1 a0_2 a0_3 l0_4))))) = some r := by rw [if_neg (show ¬ (false = true) by decide)] at H; exact H
            clear H
            have H := H1
            clear H1
            by_cases c20 : a0_3.toList = ([] : List UInt8)
            · rw [if_pos c20] at H
              have c20b0 : (a0_3.toList == ([] : List UInt8)) = true := beq_iff_eq.mpr c20
              have c20b1 : (a0_3.toList != ([] : List UInt8)) = false := bne_eq_false_iff_eq.mpr c20
              clear c20
              obtain rfl := Option.some.inj H
              have hcz21_0 : wc.cell? ⟨gb109, 0, none⟩ = some (.int .i64 a0_0) := (blk_cell BK109.out 0).trans rfl
              have hcz21_1 : wc.cell? ⟨gb109, 1, none⟩ = some (.bool a0_1) := (blk_cell BK109.out 1).trans rfl
              have hcz21_2 : wc.cell? ⟨gb109, 2, none⟩ = some (.string a0_2) := (blk_cell BK109.out 2).trans rfl
              have hcz21_3 : wc.cell? ⟨gb109, 3, none⟩ = some (.string a0_3) := (blk_cell BK109.out 3).trans rfl
              have hcz21_4 : wc.cell? ⟨gb109, 4, none⟩ = some (.slice A0_4 l0_4.length c0_4) := (blk_cell BK109.out 4).trans rfl
              have hfz21_0 := blk_frozen BK109.out 0
              have hfz21_1 := blk_frozen BK109.out 1
              have hfz21_2 := blk_frozen BK109.out 2
              have hfz21_3 := blk_frozen BK109.out 3
              have hfz21_4 := blk_frozen BK109.out 4
              go_wp2
              go_ret
              exact ⟨by first | rfl | (simp [errW_none, errW_some] <;> rfl) | (simp [*, errW_none, errW_some] <;> rfl), by repeat (first | (with_reducible first | exact HB.out | apply below_alloc | apply pw_below_drewN | apply below_drew1 | refine below_set ?_ GE109.out) | exact HB.out)⟩
            · rw [if_neg c20] at H
              have c20b0 : (a0_3.toList == ([] : List UInt8)) = false := beq_eq_false_iff_ne.mpr c20
              have c20b1 : (a0_3.toList != ([] : List UInt8)) = true := bne_iff_ne.mpr c20
              have HC22 := Aside0.mk H
              clear H
              have hcz23_0 : wc.cell? ⟨gb109, 0, none⟩ = some (.int .i64 a0_0) := (blk_cell BK109.out 0).trans rfl
              have hcz23_1 : wc.cell? ⟨gb109, 1, none⟩ = some (.bool a0_1) := (blk_cell BK109.out 1).trans rfl
              have hcz23_2 : wc.cell? ⟨gb109, 2, none⟩ = some (.string a0_2) := (blk_cell BK109.out 2).trans rfl
              have hcz23_3 : wc.cell? ⟨gb109, 3, none⟩ = some (.string a0_3) := (blk_cell BK109.out 3).trans rfl
              have hcz23_4 : wc.cell? ⟨gb109, 4, none⟩ = some (.slice A0_4 l0_4.length c0_4) := (blk_cell BK109.out 4).trans rfl
              have hfz23_0 := blk_frozen BK109.out 0
              have hfz23_1 := blk_frozen BK109.out 1
              have hfz23_2 := blk_frozen BK109.out 2
              have hfz23_3 := blk_frozen BK109.out 3
              have hfz23_4 := blk_frozen BK109.out 4
              go_upto_region 8 with (fail)
              go_cut [36] (fun v36 wc => ∃ (kq : Nat) (x36_21 : Bool), v36 = .bool x36_21 ∧ Aside0 (word_param.j2 kq a2 x7_3 x36_21 a0_0 a0_1 a0_2 a0_3 l0_4 = some r) ∧ Aside0 (kq ≤ kj7) ∧ Aside0 (wc.heap[gb109]? = some (.cells #[.int .i64 a0_0, .bool a0_1, .string a0_2, .string a0_3, (.slice A0_4 l0_4.length c0_4)] 33 (0, 0))) ∧ Aside0 (Below w.heap.size w wc))
              case first =>
                have H := HC22.out
                clear HC22
                obtain ⟨y112, hy112⟩ : ∃ y_ : List ByteArray, y_ = (([(⟨#[45]⟩ : ByteArray), (⟨#[61]⟩ : ByteArray), (⟨#[43]⟩ : ByteArray), (⟨#[63]⟩ : ByteArray)] : List ByteArray)) := ⟨_, rfl⟩
                replace H : ((strings_TrimPrefix.f a0_3 (⟨#[58]⟩ : ByteArray)).bind fun t115 => ((slices_Contains_string_string.f kj7 y112 t115).bind fun t116 => (if t116 = true then (word_param.j2 kj7 a2 x7_3 (decide ((a0_3.size : Int) > 2)) a0_0 a0_1 a0_2 a0_3 l0_4) else (word_param.j2 kj7 a2 x7_3 true a0_0 a0_1 a0_2 a0_3 l0_4)))) = some r := by first | (rw [hy112]; with_reducible exact H) | (have H2_ := (Option.bind_some _ _).symm.trans H; rw [hy112]; with_reducible exact H2_) | (have H2_ := (Option.bind_some _ _).symm.trans H; with_reducible exact H2_) | with_reducible exact H | (rw [hy112]; exact H) | exact H
                have Ny112 := Aside0.mk hy112
                clear hy112
                replace H := Option.bind_eq_some_iff.mp H
                obtain ⟨t115, A240, H⟩ := H
                replace H : ((slices_Contains_string_string.f kj7 y112 t115).bind fun t116 => (if t116 = true then (word_param.j2 kj7 a2 x7_3 (decide ((a0_3.size : Int) > 2)) a0_0 a0_1 a0_2 a0_3 l0_4) else (word_param.j2 kj7 a2 x7_3 true a0_0 a0_1 a0_2 a0_3 l0_4))) = some r := H
                have A24 := Aside0.mk A240
                clear A240
                replace H := Option.bind_eq_some_iff.mp H
                obtain ⟨t116, A250, H⟩ := H
                replace H : (if t116 = true then (word_param.j2 kj7 a2 x7_3 (decide ((a0_3.size : Int) > 2)) a0_0 a0_1 a0_2 a0_3 l0_4) else (word_param.j2 kj7 a2 x7_3 true a0_0 a0_1 a0_2 a0_3 l0_4)) = some r := H
                have A25 := Aside0.mk A250
                clear A250
                by_cases c26 : t116 = true
                · subst c26
                  have H1 : (word_param.j2 kj7 a2 x7_3 (decide ((a0_3.size : Int) > 2)) a0_0 a0_1 a0_2 a0_3 l0_4) = some r := by rw [if_pos rfl] at H; exact H
                  clear H
                  have H := H1
                  clear H1
                  have H' := Aside0.mk H
                  clear H
                  go_wp2_with (first | ((with_reducible refine gate_dst (N := 37) rfl ?_); (try (refine gate_guard (by rfl) ?_; dsimp only)); refine Kd.R_lit Kd.string _ 9 ?hg (N := 37) ?hd (xs := ([(⟨#[45]⟩ : ByteArray), (⟨#[61]⟩ : ByteArray), (⟨#[43]⟩ : ByteArray), (⟨#[63]⟩ : ByteArray)] : List ByteArray)) (inner := [.string (⟨#[45]⟩ : ByteArray), .string (⟨#[61]⟩ : ByteArray), .string (⟨#[43]⟩ : ByteArray), .string (⟨#[63]⟩ : ByteArray)]) (ok := fun _ => True) (okp := fun _ => True) ?hr ?hp (fun _ hk => hk) trivial (Below.refl _ _) (Nat.le_refl _) (by simp) ?_; (case hd => rfl); (case hg => rfl); (case hr => first | (go_simp; done) | (go_simp; rfl)); (case hp => exact (Reps.one (show Kd.M Kd.string _ _ _ (⟨#[45]⟩ : ByteArray) [.string (⟨#[45]⟩ : ByteArray)] from rfl) (Reps.one (show Kd.M Kd.string _ _ _ (⟨#[61]⟩ : ByteArray) [.string (⟨#[61]⟩ : ByteArray)] from rfl) (Reps.one (show Kd.M Kd.string _ _ _ (⟨#[43]⟩ : ByteArray) [.string (⟨#[43]⟩ : ByteArray)] from rfl) (Reps.one (show Kd.M Kd.string _ _ _ (⟨#[63]⟩ : ByteArray) [.string (⟨#[63]⟩ : ByteArray)] from rfl) (Reps.none _ _)))))); intro v113 w27 ho28 hb hg_ hnew_; clear hg_ hnew_; (first | rw [← Ny112.out] at ho28 | (simp only [Int.reduceToNat] at ho28; rw [← Ny112.out] at ho28)); have n0_ := Aside0.mk (Kd.R_lower ho28 (below_size (by repeat (first | (with_reducible first | exact HB.out | apply below_alloc | apply pw_below_drewN | apply below_drew1 | refine below_set ?_ GE109.out) | exact HB.out)))); have n1_ := Aside0.mk (blk_below (g := gb109) (o := .cells #[.int .i64 a0_0, .bool a0_1, .string a0_2, .string a0_3, .slice A0_4 l0_4.length c0_4] 33 (0, 0)) (by (with_reducible repeat (first | refine blk_drewN ?_ _ | refine blk_drew ?_ | refine blk_alloc ?_ _)); exact BK109.out) hb); have n2_ := Aside0.mk (below_step (by repeat (first | (with_reducible first | exact HB.out | apply below_alloc | apply pw_below_drewN | apply below_drew1 | refine below_set ?_ GE109.out) | exact HB.out)) hb); clear BK109; clear HB; have HO114 := n0_; have BK109 := n1_; have HB := n2_; clear n0_ n1_ n2_; clear hb ho28; have hcz29_0 : w27.cell? ⟨gb109, 0, none⟩ = some (.int .i64 a0_0) := (blk_cell BK109.out 0).trans rfl; have hcz29_1 : w27.cell? ⟨gb109, 1, none⟩ = some (.bool a0_1) := (blk_cell BK109.out 1).trans rfl; have hcz29_2 : w27.cell? ⟨gb109, 2, none⟩ = some (.string a0_2) := (blk_cell BK109.out 2).trans rfl; have hcz29_3 : w27.cell? ⟨gb109, 3, none⟩ = some (.string a0_3) := (blk_cell BK109.out 3).trans rfl; have hcz29_4 : w27.cell? ⟨gb109, 4, none⟩ = some (.slice A0_4 l0_4.length c0_4) := (blk_cell BK109.out 4).trans rfl; have hfz29_0 := blk_frozen BK109.out 0; have hfz29_1 := blk_frozen BK109.out 1; have hfz29_2 := blk_frozen BK109.out 2; have hfz29_3 := blk_frozen BK109.out 3; have hfz29_4 := blk_frozen BK109.out 4) | ((with_reducible refine gate_callee (f := 53) rfl ?_); refine goesL_ (some 40) rfl rfl Tryd.func53 (by kernel_rfl) rfl #[.string a0_3, .string (⟨#[58]⟩ : ByteArray)] rfl (by (try simp only [List.map_toArray, List.map_cons, List.map_nil]); first | done | rfl | (simp only [List.length_drop, List.length_take]; rfl)) ?_; (with_reducible refine (strings_TrimPrefix.calls a0_3 (⟨#[58]⟩ : ByteArray) t115 _ A24.out).mono ?_); rintro e w' ⟨rfl, ⟨nd, rfl⟩⟩; refine ⟨_, rfl, ?_⟩; obtain ⟨Ao30, co30, eo30⟩ := Kd.R_slice HO114.out; subst eo30) | ((with_reducible refine gate_callee (f := 52) rfl ?_); refine goesL_ (some 41) rfl rfl Tryd.func52 (by kernel_rfl) rfl #[.slice Ao30 y112.length co30, .string t115] rfl (by (try simp only [List.map_toArray, List.map_cons, List.map_nil]); first | done | rfl | (simp only [List.length_drop, List.length_take]; rfl)) ?_; (with_reducible refine (slices_Contains_string_string.calls kj7 _ _ y112 t115 true _ ?side1 ?side2 A25.out).mono ?_); (case side1 => repeat (first | exact (Kd.R_reads' HO114.out).2.2 | (with_reducible refine Kd.C_alloc ?_ _) | (with_reducible refine Kd.C_drewN ?_ _) | (with_reducible refine Kd.C_drew ?_))); (case side2 => exact (Kd.R_reads' HO114.out).2.1); rintro e w' ⟨rfl, ⟨nd, rfl⟩⟩; refine ⟨_, rfl, ?_⟩))
                  go_meet
                  case rel => exact ⟨_, (decide ((a0_3.size : Int) > 2)), (by first | rfl | (simp; done) | (simp [*]; done)), H', ⟨by have := HJ3.out; have := HJ7.out; first | omega | exact Nat.le_refl _⟩, ⟨by (with_reducible repeat (first | refine blk_drewN ?_ _ | refine blk_drew ?_ | refine blk_alloc ?_ _)); exact BK109.out⟩, ⟨by repeat (first | (with_reducible first | exact HB.out | apply below_alloc | apply pw_below_drewN | apply below_drew1 | refine below_set ?_ GE109.out) | exact HB.out)⟩⟩
                · replace c26 := Bool.eq_false_iff.mpr c26
                  subst c26
                  have H1 : (word_param.j2 kj7 a2 x7_3 true a0_0 a0_1 a0_2 a0_3 l0_4) = some r := by rw [if_neg (show ¬ (false = true) by decide)] at H; exact H
                  clear H
                  have H := H1
                  clear H1
                  have H' := Aside0.mk H
                  clear H
                  go_wp2_with (first | ((with_reducible refine gate_dst (N := 37) rfl ?_); (try (refine gate_guard (by rfl) ?_; dsimp only)); refine Kd.R_lit Kd.string _ 9 ?hg (N := 37) ?hd (xs := ([(⟨#[45]⟩ : ByteArray), (⟨#[61]⟩ : ByteArray), (⟨#[43]⟩ : ByteArray), (⟨#[63]⟩ : ByteArray)] : List ByteArray)) (inner := [.string (⟨#[45]⟩ : ByteArray), .string (⟨#[61]⟩ : ByteArray), .string (⟨#[43]⟩ : ByteArray), .string (⟨#[63]⟩ : ByteArray)]) (ok := fun _ => True) (okp := fun _ => True) ?hr ?hp (fun _ hk => hk) trivial (Below.refl _ _) (Nat.le_refl _) (by simp) ?_; (case hd => rfl); (case hg => rfl); (case hr => first | (go_simp; done) | (go_simp; rfl)); (case hp => exact (Reps.one (show Kd.M Kd.string _ _ _ (⟨#[45]⟩ : ByteArray) [.string (⟨#[45]⟩ : ByteArray)] from rfl) (Reps.one (show Kd.M Kd.string _ _ _ (⟨#[61]⟩ : ByteArray) [.string (⟨#[61]⟩ : ByteArray)] from rfl) (Reps.one (show Kd.M Kd.string _ _ _ (⟨#[43]⟩ : ByteArray) [.string (⟨#[43]⟩ : ByteArray)] from rfl) (Reps.one (show Kd.M Kd.string _ _ _ (⟨#[63]⟩ : ByteArray) [.string (⟨#[63]⟩ : ByteArray)] from rfl) (Reps.none _ _)))))); intro v113 w31 ho32 hb hg_ hnew_; clear hg_ hnew_; (first | rw [← Ny112.out] at ho32 | (simp only [Int.reduceToNat] at ho32; rw [← Ny112.out] at ho32)); have n0_ := Aside0.mk (Kd.R_lower ho32 (below_size (by repeat (first | (with_reducible first | exact HB.out | apply below_alloc | apply pw_below_drewN | apply below_drew1 | refine below_set ?_ GE109.out) | exact HB.out)))); have n1_ := Aside0.mk (blk_below (g := gb109) (o := .cells #[.int .i64 a0_0, .bool a0_1, .string a0_2, .string a0_3, .slice A0_4 l0_4.length c0_4] 33 (0, 0)) (by (with_reducible repeat (first | refine blk_drewN ?_ _ | refine blk_drew ?_ | refine blk_alloc ?_ _)); exact BK109.out) hb); have n2_ := Aside0.mk (below_step (by repeat (first | (with_reducible first | exact HB.out | apply below_alloc | apply pw_below_drewN | apply below_drew1 | refine below_set ?_ GE109.out) | exact HB.out)) hb); clear BK109; clear HB; have HO114 := n0_; have BK109 := n1_; have HB := n2_; clear n0_ n1_ n2_; clear hb ho32; have hcz33_0 : w31.cell? ⟨gb109, 0, none⟩ = some (.int .i64 a0_0) := (blk_cell BK109.out 0).trans rfl; have hcz33_1 : w31.cell? ⟨gb109, 1, none⟩ = some (.bool a0_1) := (blk_cell BK109.out 1).trans rfl; have hcz33_2 : w31.cell? ⟨gb109, 2, none⟩ = some (.string a0_2) := (blk_cell BK109.out 2).trans rfl; have hcz33_3 : w31.cell? ⟨gb109, 3, none⟩ = some (.string a0_3) := (blk_cell BK109.out 3).trans rfl; have hcz33_4 : w31.cell? ⟨gb109, 4, none⟩ = some (.slice A0_4 l0_4.length c0_4) := (blk_cell BK109.out 4).trans rfl; have hfz33_0 := blk_frozen BK109.out 0; have hfz33_1 := blk_frozen BK109.out 1; have hfz33_2 := blk_frozen BK109.out 2; have hfz33_3 := blk_frozen BK109.out 3; have hfz33_4 := blk_frozen BK109.out 4) | ((with_reducible refine gate_callee (f := 53) rfl ?_); refine goesL_ (some 40) rfl rfl Tryd.func53 (by kernel_rfl) rfl #[.string a0_3, .string (⟨#[58]⟩ : ByteArray)] rfl (by (try simp only [List.map_toArray, List.map_cons, List.map_nil]); first | done | rfl | (simp only [List.length_drop, List.length_take]; rfl)) ?_; (with_reducible refine (strings_TrimPrefix.calls a0_3 (⟨#[58]⟩ : ByteArray) t115 _ A24.out).mono ?_); rintro e w' ⟨rfl, ⟨nd, rfl⟩⟩; refine ⟨_, rfl, ?_⟩; obtain ⟨Ao34, co34, eo34⟩ := Kd.R_slice HO114.out; subst eo34) | ((with_reducible refine gate_callee (f := 52) rfl ?_); refine goesL_ (some 41) rfl rfl Tryd.func52 (by kernel_rfl) rfl #[.slice Ao34 y112.length co34, .string t115] rfl (by (try simp only [List.map_toArray, List.map_cons, List.map_nil]); first | done | rfl | (simp only [List.length_drop, List.length_take]; rfl)) ?_; (with_reducible refine (slices_Contains_string_string.calls kj7 _ _ y112 t115 false _ ?side1 ?side2 A25.out).mono ?_); (case side1 => repeat (first | exact (Kd.R_reads' HO114.out).2.2 | (with_reducible refine Kd.C_alloc ?_ _) | (with_reducible refine Kd.C_drewN ?_ _) | (with_reducible refine Kd.C_drew ?_))); (case side2 => exact (Kd.R_reads' HO114.out).2.1); rintro e w' ⟨rfl, ⟨nd, rfl⟩⟩; refine ⟨_, rfl, ?_⟩))
                  go_meet
                  case rel => exact ⟨_, (true), (by first | rfl | (simp; done) | (simp [*]; done)), H', ⟨by have := HJ3.out; have := HJ7.out; first | omega | exact Nat.le_refl _⟩, ⟨by (with_reducible repeat (first | refine blk_drewN ?_ _ | refine blk_drew ?_ | refine blk_alloc ?_ _)); exact BK109.out⟩, ⟨by repeat (first | (with_reducible first | exact HB.out | apply below_alloc | apply pw_below_drewN | apply below_drew1 | refine below_set ?_ GE109.out) | exact HB.out)⟩⟩
              case rest =>
                clear HC22
                try clear c1
                try clear c2
                try clear p2
                try clear c3
                try clear c5
                try clear c7
                try clear c9
                try clear c9b0
                try clear c10
                try clear c10b0
                try clear c10b1
                try clear c11
                try clear c19
                try clear c20
                try clear c20b0
                try clear c20b1
                try clear c26
                try clear hcz13_0
                try clear hcz13_1
                try clear hcz13_2
                try clear hcz13_3
                try clear hcz13_4
                try clear hcz15_0
                try clear hcz15_1
                try clear hcz15_2
                try clear hcz15_3
                try clear hcz15_4
                try clear hcz17_0
                try clear hcz17_1
                try clear hcz17_2
                try clear hcz17_3
                try clear hcz17_4
                try clear hcz21_0
                try clear hcz21_1
                try clear hcz21_2
                try clear hcz21_3
                try clear hcz21_4
                try clear hcz23_0
                try clear hcz23_1
                try clear hcz23_2
                try clear hcz23_3
                try clear hcz23_4
                try clear hcz29_0
                try clear hcz29_1
                try clear hcz29_2
                try clear hcz29_3
                try clear hcz29_4
                try clear hcz33_0
                try clear hcz33_1
                try clear hcz33_2
                try clear hcz33_3
                try clear hcz33_4
                try clear hcz6_0
                try clear hcz6_1
                try clear hcz6_2
                try clear hcz6_3
                try clear hcz6_4
                try clear hfz13_0
                try clear hfz13_1
                try clear hfz13_2
                try clear hfz13_3
                try clear hfz13_4
                try clear hfz15_0
                try clear hfz15_1
                try clear hfz15_2
                try clear hfz15_3
                try clear hfz15_4
                try clear hfz17_0
                try clear hfz17_1
                try clear hfz17_2
                try clear hfz17_3
                try clear hfz17_4
                try clear hfz21_0
                try clear hfz21_1
                try clear hfz21_2
                try clear hfz21_3
                try clear hfz21_4
                try clear hfz23_0
                try clear hfz23_1
                try clear hfz23_2
                try clear hfz23_3
                try clear hfz23_4
                try clear hfz29_0
                try clear hfz29_1
                try clear hfz29_2
                try clear hfz29_3
                try clear hfz29_4
                try clear hfz33_0
                try clear hfz33_1
                try clear hfz33_2
                try clear hfz33_3
                try clear hfz33_4
                try clear hfz6_0
                try clear hfz6_1
                try clear hfz6_2
                try clear hfz6_3
                try clear hfz6_4
                try clear p2
                obtain ⟨kq, x36_21, rfl, HA, HJ21, BK109, HB⟩ := hcut
                cases kq with
                | zero => exact absurd HA.out (by simp [word_param.j2])
                | succ kj21 =>
                  have H := HA.out
                  clear HA
                  simp only [word_param.j2] at H
                  by_cases c35 : x36_21 = true
                  · subst c35
                    have H1 : (some false) = some r := by rw [if_pos rfl] at H; exact H
                    clear H
                    have H := H1
                    clear H1
                    obtain rfl := Option.some.inj H
                    go_wp2
                    go_ret
                    exact ⟨by first | rfl | (simp [errW_none, errW_some] <;> rfl) | (simp [*, errW_none, errW_some] <;> rfl), by repeat (first | (with_reducible first | exact HB.out | apply below_alloc | apply pw_below_drewN | apply below_drew1 | refine below_set ?_ GE109.out) | exact HB.out)⟩
                  · replace c35 := Bool.eq_false_iff.mpr c35
                    subst c35
                    have H1 : ((strings_HasSuffix.f a0_3 (⟨#[61]⟩ : ByteArray)).bind fun t117 => (if t117 = true then ((class_Name.f a0_2).bind fun t118 => (if t118 = true then ((word_parts.f l0_4 x7_3 (wrap64 (a2 + 1))).bind fun t119 => (some t119)) else (some false))) else ((word_parts.f l0_4 x7_3 (wrap64 (a2 + 1))).bind fun t120 => (some t120)))) = some r := by rw [if_neg (show ¬ (false = true) by decide)] at H; exact H
                    clear H
                    have H := H1
                    clear H1
                    replace H := Option.bind_eq_some_iff.mp H
                    obtain ⟨t117, A360, H⟩ := H
                    replace H : (if t117 = true then ((class_Name.f a0_2).bind fun t118 => (if t118 = true then ((word_parts.f l0_4 x7_3 (wrap64 (a2 + 1))).bind fun t119 => (some t119)) else (some false))) else ((word_parts.f l0_4 x7_3 (wrap64 (a2 + 1))).bind fun t120 => (some t120))) = some r := H
                    have A36 := Aside0.mk A360
                    clear A360
                    by_cases c37 : t117 = true
                    · subst c37
                      have H1 : ((class_Name.f a0_2).bind fun t118 => (if t118 = true then ((word_parts.f l0_4 x7_3 (wrap64 (a2 + 1))).bind fun t119 => (some t119)) else (some false))) = some r := by rw [if_pos rfl] at H; exact H
                      clear H
                      have H := H1
                      clear H1
                      replace H := Option.bind_eq_some_iff.mp H
                      obtain ⟨t118, A380, H⟩ := H
                      replace H : (if t118 = true then ((word_parts.f l0_4 x7_3 (wrap64 (a2 + 1))).bind fun t119 => (some t119)) else (some false)) = some r := H
                      have A38 := Aside0.mk A380
                      clear A380
                      by_cases c39 : t118 = true
                      · subst c39
                        have H1 : ((word_parts.f l0_4 x7_3 (wrap64 (a2 + 1))).bind fun t119 => (some t119)) = some r := by rw [if_pos rfl] at H; exact H
                        clear H
                        have H := H1
                        clear H1
                        replace H := Option.bind_eq_some_iff.mp H
                        obtain ⟨t119, A400, H⟩ := H
                        replace H : (some t119) = some r := H
                        have A40 := Aside0.mk A400
                        clear A400
                        obtain rfl := Option.some.inj H
                        have hcz41_0 : wc.cell? ⟨gb109, 0, none⟩ = some (.int .i64 a0_0) := (blk_cell BK109.out 0).trans rfl
                        have hcz41_1 : wc.cell? ⟨gb109, 1, none⟩ = some (.bool a0_1) := (blk_cell BK109.out 1).trans rfl
                        have hcz41_2 : wc.cell? ⟨gb109, 2, none⟩ = some (.string a0_2) := (blk_cell BK109.out 2).trans rfl
                        have hcz41_3 : wc.cell? ⟨gb109, 3, none⟩ = some (.string a0_3) := (blk_cell BK109.out 3).trans rfl
                        have hcz41_4 : wc.cell? ⟨gb109, 4, none⟩ = some (.slice A0_4 l0_4.length c0_4) := (blk_cell BK109.out 4).trans rfl
                        have hfz41_0 := blk_frozen BK109.out 0
                        have hfz41_1 := blk_frozen BK109.out 1
                        have hfz41_2 := blk_frozen BK109.out 2
                        have hfz41_3 := blk_frozen BK109.out 3
                        have hfz41_4 := blk_frozen BK109.out 4
                        go_wp2_with (first | ((with_reducible refine gate_callee (f := 54) rfl ?_); refine goesL_ (some 52) rfl rfl Tryd.func54 (by kernel_rfl) rfl #[.string a0_3, .string (⟨#[61]⟩ : ByteArray)] rfl (by (try simp only [List.map_toArray, List.map_cons, List.map_nil]); first | done | rfl | (simp only [List.length_drop, List.length_take]; rfl)) ?_; (with_reducible refine (strings_HasSuffix.calls a0_3 (⟨#[61]⟩ : ByteArray) true _ A36.out).mono ?_); rintro e w' ⟨rfl, ⟨nd, rfl⟩⟩; refine ⟨_, rfl, ?_⟩) | (go_at_call 32; (with_reducible refine (class_Name.calls a0_2 true _ A38.out).mono ?_); rintro e w42 ⟨rfl, hb⟩; have n0_ := Aside0.mk (blk_below (g := gb109) (o := .cells #[.int .i64 a0_0, .bool a0_1, .string a0_2, .string a0_3, .slice A0_4 l0_4.length c0_4] 33 (0, 0)) (by (with_reducible repeat (first | refine blk_drewN ?_ _ | refine blk_drew ?_ | refine blk_alloc ?_ _)); exact BK109.out) hb); have n1_ := Aside0.mk (below_step (by repeat (first | (with_reducible first | exact HB.out | apply below_alloc | apply pw_below_drewN | apply below_drew1 | refine below_set ?_ GE109.out) | exact HB.out)) hb); clear BK109; clear HB; have BK109 := n0_; have HB := n1_; clear n0_ n1_; (try clear hb); (try clear hb2); (try clear hk); (try clear hi); have hcz43_0 : w42.cell? ⟨gb109, 0, none⟩ = some (.int .i64 a0_0) := (blk_cell BK109.out 0).trans rfl; have hcz43_1 : w42.cell? ⟨gb109, 1, none⟩ = some (.bool a0_1) := (blk_cell BK109.out 1).trans rfl; have hcz43_2 : w42.cell? ⟨gb109, 2, none⟩ = some (.string a0_2) := (blk_cell BK109.out 2).trans rfl; have hcz43_3 : w42.cell? ⟨gb109, 3, none⟩ = some (.string a0_3) := (blk_cell BK109.out 3).trans rfl; have hcz43_4 : w42.cell? ⟨gb109, 4, none⟩ = some (.slice A0_4 l0_4.length c0_4) := (blk_cell BK109.out 4).trans rfl; have hfz43_0 := blk_frozen BK109.out 0; have hfz43_1 := blk_frozen BK109.out 1; have hfz43_2 := blk_frozen BK109.out 2; have hfz43_3 := blk_frozen BK109.out 3; have hfz43_4 := blk_frozen BK109.out 4) | ((with_reducible refine gate_callee (f := 23) rfl ?_); refine goesL_ (some 64) rfl rfl Tryd.func23 (by kernel_rfl) rfl #[.slice A0_4 l0_4.length c0_4, .int .i64 x7_3, .int .i64 (wrap64 (a2 + 1))] rfl (by (try simp only [List.map_toArray, List.map_cons, List.map_nil]); first | done | rfl | (simp only [List.length_drop, List.length_take]; rfl)) ?_; (with_reducible refine (word_parts.calls _ _ l0_4 x7_3 (wrap64 (a2 + 1)) t119 _ ?side1 ?side2 A40.out).mono ?_); (case side1 => repeat (first | exact (Kd.C_below HR0_4.out HB.out) | (with_reducible refine Kd.C_alloc ?_ _) | (with_reducible refine Kd.C_drewN ?_ _) | (with_reducible refine Kd.C_drew ?_))); (case side2 => exact HC0_4.out); rintro e w44 ⟨rfl, hb⟩; refine ⟨_, rfl, ?_⟩; have n0_ := Aside0.mk (blk_below (g := gb109) (o := .cells #[.int .i64 a0_0, .bool a0_1, .string a0_2, .string a0_3, .slice A0_4 l0_4.length c0_4] 33 (0, 0)) (by (with_reducible repeat (first | refine blk_drewN ?_ _ | refine blk_drew ?_ | refine blk_alloc ?_ _)); exact BK109.out) hb); have n1_ := Aside0.mk (below_step (by repeat (first | (with_reducible first | exact HB.out | apply below_alloc | apply pw_below_drewN | apply below_drew1 | refine below_set ?_ GE109.out) | exact HB.out)) hb); clear BK109; clear HB; have BK109 := n0_; have HB := n1_; clear n0_ n1_; (try clear hb); (try clear hb2); (try clear hk); (try clear hi)))
                        go_ret
                        exact ⟨by first | rfl | (simp [errW_none, errW_some] <;> rfl) | (simp [*, errW_none, errW_some] <;> rfl), by repeat (first | (with_reducible first | exact HB.out | apply below_alloc | apply pw_below_drewN | apply below_drew1 | refine below_set ?_ GE109.out) | exact HB.out)⟩
                      · replace c39 := Bool.eq_false_iff.mpr c39
                        subst c39
                        have H1 : (some false) = some r := by rw [if_neg (show ¬ (false = true) by decide)] at H; exact H
                        clear H
                        have H := H1
                        clear H1
                        obtain rfl := Option.some.inj H
                        have hcz45_0 : wc.cell? ⟨gb109, 0, none⟩ = some (.int .i64 a0_0) := (blk_cell BK109.out 0).trans rfl
                        have hcz45_1 : wc.cell? ⟨gb109, 1, none⟩ = some (.bool a0_1) := (blk_cell BK109.out 1).trans rfl
                        have hcz45_2 : wc.cell? ⟨gb109, 2, none⟩ = some (.string a0_2) := (blk_cell BK109.out 2).trans rfl
                        have hcz45_3 : wc.cell? ⟨gb109, 3, none⟩ = some (.string a0_3) := (blk_cell BK109.out 3).trans rfl
                        have hcz45_4 : wc.cell? ⟨gb109, 4, none⟩ = some (.slice A0_4 l0_4.length c0_4) := (blk_cell BK109.out 4).trans rfl
                        have hfz45_0 := blk_frozen BK109.out 0
                        have hfz45_1 := blk_frozen BK109.out 1
                        have hfz45_2 := blk_frozen BK109.out 2
                        have hfz45_3 := blk_frozen BK109.out 3
                        have hfz45_4 := blk_frozen BK109.out 4
                        go_wp2_with (first | ((with_reducible refine gate_callee (f := 54) rfl ?_); refine goesL_ (some 52) rfl rfl Tryd.func54 (by kernel_rfl) rfl #[.string a0_3, .string (⟨#[61]⟩ : ByteArray)] rfl (by (try simp only [List.map_toArray, List.map_cons, List.map_nil]); first | done | rfl | (simp only [List.length_drop, List.length_take]; rfl)) ?_; (with_reducible refine (strings_HasSuffix.calls a0_3 (⟨#[61]⟩ : ByteArray) true _ A36.out).mono ?_); rintro e w' ⟨rfl, ⟨nd, rfl⟩⟩; refine ⟨_, rfl, ?_⟩) | (go_at_call 32; (with_reducible refine (class_Name.calls a0_2 false _ A38.out).mono ?_); rintro e w46 ⟨rfl, hb⟩; have n0_ := Aside0.mk (blk_below (g := gb109) (o := .cells #[.int .i64 a0_0, .bool a0_1, .string a0_2, .string a0_3, .slice A0_4 l0_4.length c0_4] 33 (0, 0)) (by (with_reducible repeat (first | refine blk_drewN ?_ _ | refine blk_drew ?_ | refine blk_alloc ?_ _)); exact BK109.out) hb); have n1_ := Aside0.mk (below_step (by repeat (first | (with_reducible first | exact HB.out | apply below_alloc | apply pw_below_drewN | apply below_drew1 | refine below_set ?_ GE109.out) | exact HB.out)) hb); clear BK109; clear HB; have BK109 := n0_; have HB := n1_; clear n0_ n1_; (try clear hb); (try clear hb2); (try clear hk); (try clear hi)))
                        go_ret
                        exact ⟨by first | rfl | (simp [errW_none, errW_some] <;> rfl) | (simp [*, errW_none, errW_some] <;> rfl), by repeat (first | (with_reducible first | exact HB.out | apply below_alloc | apply pw_below_drewN | apply below_drew1 | refine below_set ?_ GE109.out) | exact HB.out)⟩
                    · replace c37 := Bool.eq_false_iff.mpr c37
                      subst c37
                      have H1 : ((word_parts.f l0_4 x7_3 (wrap64 (a2 + 1))).bind fun t120 => (some t120)) = some r := by rw [if_neg (show ¬ (false = true) by decide)] at H; exact H
                      clear H
                      have H := H1
                      clear H1
                      replace H := Option.bind_eq_some_iff.mp H
                      obtain ⟨t120, A470, H⟩ := H
                      replace H : (some t120) = some r := H
                      have A47 := Aside0.mk A470
                      clear A470
                      obtain rfl := Option.some.inj H
                      have hcz48_0 : wc.cell? ⟨gb109, 0, none⟩ = some (.int .i64 a0_0) := (blk_cell BK109.out 0).trans rfl
                      have hcz48_1 : wc.cell? ⟨gb109, 1, none⟩ = some (.bool a0_1) := (blk_cell BK109.out 1).trans rfl
                      have hcz48_2 : wc.cell? ⟨gb109, 2, none⟩ = some (.string a0_2) := (blk_cell BK109.out 2).trans rfl
                      have hcz48_3 : wc.cell? ⟨gb109, 3, none⟩ = some (.string a0_3) := (blk_cell BK109.out 3).trans rfl
                      have hcz48_4 : wc.cell? ⟨gb109, 4, none⟩ = some (.slice A0_4 l0_4.length c0_4) := (blk_cell BK109.out 4).trans rfl
                      have hfz48_0 := blk_frozen BK109.out 0
                      have hfz48_1 := blk_frozen BK109.out 1
                      have hfz48_2 := blk_frozen BK109.out 2
                      have hfz48_3 := blk_frozen BK109.out 3
                      have hfz48_4 := blk_frozen BK109.out 4
                      go_wp2_with (first | ((with_reducible refine gate_callee (f := 54) rfl ?_); refine goesL_ (some 52) rfl rfl Tryd.func54 (by kernel_rfl) rfl #[.string a0_3, .string (⟨#[61]⟩ : ByteArray)] rfl (by (try simp only [List.map_toArray, List.map_cons, List.map_nil]); first | done | rfl | (simp only [List.length_drop, List.length_take]; rfl)) ?_; (with_reducible refine (strings_HasSuffix.calls a0_3 (⟨#[61]⟩ : ByteArray) false _ A36.out).mono ?_); rintro e w' ⟨rfl, ⟨nd, rfl⟩⟩; refine ⟨_, rfl, ?_⟩) | ((with_reducible refine gate_callee (f := 23) rfl ?_); refine goesL_ (some 64) rfl rfl Tryd.func23 (by kernel_rfl) rfl #[.slice A0_4 l0_4.length c0_4, .int .i64 x7_3, .int .i64 (wrap64 (a2 + 1))] rfl (by (try simp only [List.map_toArray, List.map_cons, List.map_nil]); first | done | rfl | (simp only [List.length_drop, List.length_take]; rfl)) ?_; (with_reducible refine (word_parts.calls _ _ l0_4 x7_3 (wrap64 (a2 + 1)) t120 _ ?side1 ?side2 A47.out).mono ?_); (case side1 => repeat (first | exact (Kd.C_below HR0_4.out (by repeat (first | (with_reducible first | exact HB.out | apply below_alloc | apply pw_below_drewN | apply below_drew1 | refine below_set ?_ GE109.out) | exact HB.out))) | (with_reducible refine Kd.C_alloc ?_ _) | (with_reducible refine Kd.C_drewN ?_ _) | (with_reducible refine Kd.C_drew ?_))); (case side2 => exact HC0_4.out); rintro e w49 ⟨rfl, hb⟩; refine ⟨_, rfl, ?_⟩; have n0_ := Aside0.mk (blk_below (g := gb109) (o := .cells #[.int .i64 a0_0, .bool a0_1, .string a0_2, .string a0_3, .slice A0_4 l0_4.length c0_4] 33 (0, 0)) (by (with_reducible repeat (first | refine blk_drewN ?_ _ | refine blk_drew ?_ | refine blk_alloc ?_ _)); exact BK109.out) hb); have n1_ := Aside0.mk (below_step (by repeat (first | (with_reducible first | exact HB.out | apply below_alloc | apply pw_below_drewN | apply below_drew1 | refine below_set ?_ GE109.out) | exact HB.out)) hb); clear BK109; clear HB; have BK109 := n0_; have HB := n1_; clear n0_ n1_; (try clear hb); (try clear hb2); (try clear hk); (try clear hi)))
                      go_ret
                      exact ⟨by first | rfl | (simp [errW_none, errW_some] <;> rfl) | (simp [*, errW_none, errW_some] <;> rfl), by repeat (first | (with_reducible first | exact HB.out | apply below_alloc | apply pw_below_drewN | apply below_drew1 | refine below_set ?_ GE109.out) | exact HB.out)⟩
end
end Go.Proofs.YtkecpfjmdokieaaDoor.P
