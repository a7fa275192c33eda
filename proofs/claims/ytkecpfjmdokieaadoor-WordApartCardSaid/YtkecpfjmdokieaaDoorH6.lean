/- WordApart: for every two words the law returns true and leaves the words as they were: the row, and its card. No condition. -/
/- texts of this claim, one behind the other: I6 WordTell WordApart2 WordShape WordApart -/
import Derived.Test.YtkecpfjmdokieaaDoorH5
import Derived.HandedShaped
import Derived.LaidMore
import Derived.Test.YtkecpfjmdokieaaDoorRows
import Derived.Test.YtkecpfjmdokieaaDoorCards
import Derived.Test.YtkecpfjmdokieaaDoorTie
import Derived.ProofKit
import Derived.OpenShut
import Derived.ShutString
import Derived.ChangeOld
import Derived.SizedLaws
import Derived.Lay
import Derived.Lib.LaidU8
import Derived.SevenTiedAt
import Derived.Stop.Joined
import Derived.Shelf.Vars
namespace Go.Proofs.YtkecpfjmdokieaaDoor.P
noncomputable section
open Go.RowKit Go.Proofs.YtkecpfjmdokieaaDoorW.PrintWords Go.Proofs.YtkecpfjmdokieaaDoorW.PrintLast Go.Proofs.YtkecpfjmdokieaaDoorW.PrintMore
attribute [local go_sem] max2_int min2_int max_two min_two max_three min_three max_four min_four   -- for this text's walks alone
set_option linter.unusedVariables false
set_option linter.unusedSimpArgs false
def word_Value.f (l0 : List (S33)) : Option (Bool) := (word_parts.f l0 0 1).bind fun t122 => (some t122)
set_option maxHeartbeats 8000000 in
set_option maxRecDepth 100000 in
theorem word_Value.calls (A0 : Option Addr) (c0 : Nat) (l0 : List (S33)) (r : Bool) (w : World) (hr0 : Kd.C k33 w A0 l0.length l0) (hc0 : l0.length ≤ c0) (h : word_Value.f l0 = some r) :
    Calls Tryd.prog 10 #[.slice A0 l0.length c0] w fun e w' => e = .returned (.bool r) ∧ Below w.heap.size w w' := by
  have HR0 := Aside0.mk hr0
  have HC0 := Aside0.mk hc0
  clear hr0 hc0
  have HB := Aside0.mk (Below.refl w.heap.size w)
  have H : ((word_parts.f l0 0 1).bind fun t122 => (some t122)) = some r := h
  clear h
  replace H := Option.bind_eq_some_iff.mp H
  obtain ⟨t122, A20, H⟩ := H
  replace H : (some t122) = some r := H
  have A2 := Aside0.mk A20
  clear A20
  obtain rfl := Option.some.inj H
  go_enter Tryd.func10, Tryd.ntmps10
  go_wp2_with (first | ((with_reducible refine gate_callee (f := 23) rfl ?_); refine goesL_ (some 4) rfl rfl Tryd.func23 (by kernel_rfl) rfl #[.slice A0 l0.length c0, .int .i64 0, .int .i64 1] rfl (by (try simp only [List.map_toArray, List.map_cons, List.map_nil]); first | done | rfl | (simp only [List.length_drop, List.length_take]; rfl)) ?_; (with_reducible refine (word_parts.calls _ _ l0 0 1 t122 _ ?side1 ?side2 A2.out).mono ?_); (case side1 => repeat (first | exact HR0.out | (with_reducible refine Kd.C_alloc ?_ _) | (with_reducible refine Kd.C_drewN ?_ _) | (with_reducible refine Kd.C_drew ?_))); (case side2 => exact HC0.out); rintro e w3 ⟨rfl, hb⟩; refine ⟨_, rfl, ?_⟩; have n0_ := Aside0.mk (below_step (by repeat (first | (with_reducible first | exact HB.out | apply below_alloc | apply pw_below_drewN | apply below_drew1) | exact HB.out)) hb); clear HB; have HB := n0_; clear n0_; (try clear hb); (try clear hb2); (try clear hk); (try clear hi)))
  go_ret
  exact ⟨by first | rfl | (simp [errW_none, errW_some] <;> rfl) | (simp [*, errW_none, errW_some] <;> rfl), by repeat (first | (with_reducible first | exact HB.out | apply below_alloc | apply pw_below_drewN | apply below_drew1) | exact HB.out)⟩
end
end Go.Proofs.YtkecpfjmdokieaaDoor.P
namespace Go.Proofs.YtkecpfjmdokieaaDoor.Word
open Go.RowKit Go.Proofs.YtkecpfjmdokieaaDoorW.PrintWords Go.Proofs.YtkecpfjmdokieaaDoorW.PrintLast Go.Proofs.YtkecpfjmdokieaaDoor.Base Go.Proofs.YtkecpfjmdokieaaDoor.Seq Go.Proofs.YtkecpfjmdokieaaDoor.P Go.Proofs.YtkecpfjmdokieaaDoor.NodeOps
set_option linter.unusedVariables false
set_option linter.unusedSimpArgs false
theorem value_f (l : List Pt) (hw : wt l ≤ 1000000) : word_Value.f l = some (partsF 200 0 l) := by
  have h := partsOk 200 (by omega) l 0 hw
  have h2 := word_parts.of l 0 1 (by exact h)
  unfold word_Value.f
  rw [h2]
  rfl
theorem value_any (l : List Pt) (hw : wt l ≤ 1000000) (A : Option Addr) (n c : Nat) (w : World) (hr : Kd.C k33 w A n l) (hc : n ≤ c) :
    Calls Tryd.prog 10 #[.slice A n c] w fun e w' => e = .returned (.bool (partsF 200 0 l)) ∧ Below w.heap.size w w' := by
  obtain rfl := hr.1
  exact word_Value.calls A c l _ w hr hc (value_f l hw)
theorem wsame_n (l l' : List Pt) (A B : Option Addr) (n c m d : Nat) (w : World) (hr : Kd.C k33 w A n l) (hc : n ≤ c) (hr2 : Kd.C k33 w B m l') (hd : m ≤ d) :
    Calls Tryd.prog 14 #[.slice A n c, .slice B m d] w fun e w' => e = .returned (.bool (eqL l l')) ∧ Below w.heap.size w w' := by
  obtain rfl := hr.1
  obtain rfl := hr2.1
  exact wsame_any l l' A B c d w hr hc hr2 hd
def textS (l : List Pt) : ByteArray := if partsF 200 0 l = true then bs (wrL false l) else ⟨#[]⟩
set_option maxHeartbeats 4000000 in
set_option maxRecDepth 100000 in
theorem wparts_nil (A : Option Addr) (c b : Nat) (w : World) : Calls Tryd.prog 25 #[.pointer (some ⟨b, 0, none⟩), .slice A 0 c, .bool false] w fun e w' => e = .returned (.tuple #[]) ∧ w = w' := by
  go_enter Tryd.func25, Tryd.ntmps25
  go_upto_region 1 with (fail)
  go_loopw [11] (fun v11 w' => v11 = .int .i64 0 ∧ w' = w) (fun v11 _ => 0)
  case atStart => exact ⟨rfl, rfl⟩
  case round =>
    obtain ⟨rfl, rfl⟩ := hrel
    go_wp2
    go_end0
    exact ⟨rfl, rfl⟩
set_option maxHeartbeats 4000000 in
set_option maxRecDepth 100000 in
theorem text_any (l : List Pt) (hw : wt l ≤ 1000000) (A : Option Addr) (n c : Nat) (w : World) (hr : Kd.C k33 w A n l) (hc : n ≤ c) {m : Int} (hm : w.cell? ⟨0, 0, none⟩ = some (.int .i64 m)) :
    Calls Tryd.prog 12 #[.slice A n c] w fun e w' => e = .returned (.string (textS l)) ∧ Below w.heap.size w w' := by
  have HR := Aside0.mk hr
  have HM := Aside0.mk hm
  have HC := Aside0.mk hc
  have HW := Aside0.mk hw
  have HLN := Aside0.mk (show l.length = n from hr.1)
  clear hr hm hc hw
  cases hp : partsF 200 0 l
  · have HT := Aside0.mk (show textS l = ⟨#[]⟩ by unfold textS; rw [hp, if_neg (by decide)])
    have HP := Aside0.mk hp
    clear hp
    go_enter Tryd.func12, Tryd.ntmps12
    go_wp2_with (go_at_call 10; (with_reducible refine (value_any l HW.out A n c _ HR.out HC.out).mono ?_); rintro e w1 ⟨rfl, hB⟩; rw [HP.out]; have HB := Aside0.mk hB; clear hB)
    go_ret
    exact ⟨congrArg (fun s => Ending.returned (.string s)) HT.out.symm, HB.out⟩
  · have HT := Aside0.mk (show textS l = bs (wrL false l) by unfold textS; rw [hp, if_pos rfl])
    have HP := Aside0.mk hp
    have HRT := Aside0.mk (rt_of 200 0 l hp)
    clear hp
    by_cases hl : l = []
    · subst hl
      have hn : n = 0 := HLN.out.symm
      subst hn
      go_enter Tryd.func12, Tryd.ntmps12
      go_upto_region 4 with (go_at_call 10; (with_reducible refine (value_any [] HW.out A 0 c _ HR.out HC.out).mono ?_); rintro e w1 ⟨rfl, hB⟩; rw [HP.out]; have HB := Aside0.mk hB; clear hB)
      have hal := below_alloc (Below.refl w1.heap.size w1) (.cells #[.pointer none, .slice none 0 0] 49)
      have HBK := Aside0.mk (blk_new w1 (.cells #[.pointer none, .slice none 0 0] 49))
      have HB2 := Aside0.mk (HB.out.trans (hal.mono HB.out.size))
      clear hal
      generalize w1.alloc (.cells #[.pointer none, .slice none 0 0] 49) = w2 at *
      generalize w1.heap.size = b at *
      go_wp2_with (first
        | (go_at_call 25; (with_reducible refine (wparts_nil A c b _).mono ?_); rintro e w3 ⟨rfl, rfl⟩)
        | (go_at_call 26; go_loud (with_reducible refine (BuilderW.string_nil w.heap.size b _ _ HBK.out).mono ?_); rintro e w4 ⟨rfl, hB4⟩; have HB4 := Aside0.mk (HB2.out.trans hB4); clear hB4))
      go_ret
      exact ⟨congrArg (fun s => Ending.returned (.string s)) (by rw [HT.out, wrL_nil]; rfl), HB4.out⟩
    · have HNE := Aside0.mk (show wrL false l ≠ [] from fun e => hl (wrL_empty HRT.out e))
      clear hl
      go_enter Tryd.func12, Tryd.ntmps12
      go_upto_region 4 with (go_at_call 10; (with_reducible refine (value_any l HW.out A n c _ HR.out HC.out).mono ?_); rintro e w1 ⟨rfl, hB⟩; rw [HP.out]; have HB := Aside0.mk hB; clear hB)
      have hal := below_alloc (Below.refl w1.heap.size w1) (.cells #[.pointer none, .slice none 0 0] 49)
      have HBD := Aside0.mk (BuilderW.Bld_new (B := w.heap.size) (blk_new w1 (.cells #[.pointer none, .slice none 0 0] 49)) HB.out.size)
      have HB2 := Aside0.mk (HB.out.trans (hal.mono HB.out.size))
      clear hal
      generalize w1.alloc (.cells #[.pointer none, .slice none 0 0] 49) = w2 at *
      generalize w1.heap.size = b at *
      go_wp2_with (first
        | (go_at_call 25; (with_reducible refine (wparts_any w HM.out _ l (Nat.lt_succ_self _) HW.out false A n c b [] _ HR.out HBD.out HB2.out (by have := HW.out; simp; omega)).mono ?_); rintro e w3 ⟨rfl, hb3, hB3, hK3⟩; have HBD3 := Aside0.mk hb3; have HB3 := Aside0.mk (HB2.out.trans hB3); clear hb3 hB3 hK3)
        | (go_at_call 26; go_loud (with_reducible refine (BuilderW.string_any w.heap.size b _ _ HBD3.out (by simpa using HNE.out)).mono ?_); rintro e w4 ⟨rfl, hB4⟩; have HB4 := Aside0.mk (HB3.out.trans hB4); clear hB4))
      go_ret
      exact ⟨congrArg (fun s => Ending.returned (.string s)) (by rw [HT.out]; rfl), HB4.out⟩
end Go.Proofs.YtkecpfjmdokieaaDoor.Word
namespace Go.Proofs.YtkecpfjmdokieaaDoor.Word
open Go.RowKit Go.Proofs.YtkecpfjmdokieaaDoorW.PrintWords Go.Proofs.YtkecpfjmdokieaaDoorW.PrintLast Go.Proofs.YtkecpfjmdokieaaDoor.Base Go.Proofs.YtkecpfjmdokieaaDoor.Seq Go.Proofs.YtkecpfjmdokieaaDoor.P Go.Proofs.YtkecpfjmdokieaaDoor.NodeOps
set_option linter.unusedVariables false
set_option linter.unusedSimpArgs false
set_option maxHeartbeats 16000000 in
set_option maxRecDepth 100000 in
theorem apart_law (l l' : List Pt) (A B : Option Addr) (n c m d : Nat) (w : World) (hC : Kd.C k33 w A n l) (hc : n ≤ c) (hfit : FitWord l) (hD : Kd.C k33 w B m l') (hd : m ≤ d) (hfit' : FitWord l') {mx : Int} (hm : w.cell? ⟨0, 0, none⟩ = some (.int .i64 mx)) :
    Calls Tryd.prog 4 #[.slice A n c, .slice B m d] w fun e w' => e = .returned (.bool true) ∧ Below w.heap.size w w' := by
  obtain ⟨r, hr, hW⟩ := weight_any l hfit
  obtain ⟨r', hr', hW'⟩ := weight_any l' hfit'
  have HC := Aside0.mk hC
  have HD := Aside0.mk hD
  have HCC := Aside0.mk hc
  have HDD := Aside0.mk hd
  have HM := Aside0.mk hm
  have HWA := Aside0.mk hW
  have HWB := Aside0.mk hW'
  have HLN := Aside0.mk (show l.length = n from hC.1)
  have HBw := Aside0.mk (Below.refl w.heap.size w)
  have hl1 := hC.2.1
  clear hC hD hm hW hW' hc hd hfit hfit'
  by_cases h5 : 5000 < r
  · have b5 : decide (5000 < r) = true := decide_eq_true h5
    clear hr hr' h5
    go_enter Tryd.func4, Tryd.ntmps4
    go_wp2_with (first
      | (go_at_call 6; (with_reducible refine (alive_any _ (pw_cell_below HBw.out HM.out)).mono ?_); rintro e w1 ⟨rfl, hB⟩; have HBn := Aside0.mk (HBw.out.trans (below_sub hB HBw.out.size)); clear HBw hB; have HBw := HBn; clear HBn)
      | (go_at_call 7; (with_reducible refine (HWA.out A n c _ (Kd.C_below HC.out HBw.out) HCC.out).mono ?_); rintro e w1 ⟨rfl, hB⟩; have HBn := Aside0.mk (HBw.out.trans (below_sub hB HBw.out.size)); clear HBw hB; have HBw := HBn; clear HBn))
    go_ret
    exact ⟨rfl, HBw.out⟩
  have b5 : decide (5000 < r) = false := decide_eq_false h5
  by_cases h6 : 5000 < r'
  · have b6 : decide (5000 < r') = true := decide_eq_true h6
    clear hr hr' h5 h6
    go_enter Tryd.func4, Tryd.ntmps4
    go_wp2_with (first
      | (go_at_call 6; (with_reducible refine (alive_any _ (pw_cell_below HBw.out HM.out)).mono ?_); rintro e w1 ⟨rfl, hB⟩; have HBn := Aside0.mk (HBw.out.trans (below_sub hB HBw.out.size)); clear HBw hB; have HBw := HBn; clear HBn)
      | (go_at_call 7; (with_reducible refine (HWA.out A n c _ (Kd.C_below HC.out HBw.out) HCC.out).mono ?_); rintro e w1 ⟨rfl, hB⟩; have HBn := Aside0.mk (HBw.out.trans (below_sub hB HBw.out.size)); clear HBw hB; have HBw := HBn; clear HBn)
      | (go_at_call 7; (with_reducible refine (HWB.out B m d _ (Kd.C_below HD.out HBw.out) HDD.out).mono ?_); rintro e w1 ⟨rfl, hB⟩; have HBn := Aside0.mk (HBw.out.trans (below_sub hB HBw.out.size)); clear HBw hB; have HBw := HBn; clear HBn))
    go_ret
    exact ⟨rfl, HBw.out⟩
  have b6 : decide (5000 < r') = false := decide_eq_false h6
  have HWT := Aside0.mk (show wt l ≤ 1000000 by have := hr (by omega); omega)
  have HWT' := Aside0.mk (show wt l' ≤ 1000000 by have := hr' (by omega); omega)
  clear hr hr' h5 h6
  cases hva : partsF 200 0 l
  · have HVA := Aside0.mk hva
    clear hva
    go_enter Tryd.func4, Tryd.ntmps4
    go_wp2_with (first
      | (go_at_call 6; (with_reducible refine (alive_any _ (pw_cell_below HBw.out HM.out)).mono ?_); rintro e w1 ⟨rfl, hB⟩; have HBn := Aside0.mk (HBw.out.trans (below_sub hB HBw.out.size)); clear HBw hB; have HBw := HBn; clear HBn)
      | (go_at_call 7; (with_reducible refine (HWA.out A n c _ (Kd.C_below HC.out HBw.out) HCC.out).mono ?_); rintro e w1 ⟨rfl, hB⟩; have HBn := Aside0.mk (HBw.out.trans (below_sub hB HBw.out.size)); clear HBw hB; have HBw := HBn; clear HBn)
      | (go_at_call 7; (with_reducible refine (HWB.out B m d _ (Kd.C_below HD.out HBw.out) HDD.out).mono ?_); rintro e w1 ⟨rfl, hB⟩; have HBn := Aside0.mk (HBw.out.trans (below_sub hB HBw.out.size)); clear HBw hB; have HBw := HBn; clear HBn)
      | (go_at_call 10; (with_reducible refine (value_any l HWT.out A n c _ (Kd.C_below HC.out HBw.out) HCC.out).mono ?_); rintro e w1 ⟨rfl, hB⟩; rw [HVA.out]; have HBn := Aside0.mk (HBw.out.trans (below_sub hB HBw.out.size)); clear HBw hB; have HBw := HBn; clear HBn))
    go_ret
    exact ⟨rfl, HBw.out⟩
  have HVA := Aside0.mk hva
  clear hva
  cases hvb : partsF 200 0 l'
  · have HVB := Aside0.mk hvb
    clear hvb
    go_enter Tryd.func4, Tryd.ntmps4
    go_wp2_with (first
      | (go_at_call 6; (with_reducible refine (alive_any _ (pw_cell_below HBw.out HM.out)).mono ?_); rintro e w1 ⟨rfl, hB⟩; have HBn := Aside0.mk (HBw.out.trans (below_sub hB HBw.out.size)); clear HBw hB; have HBw := HBn; clear HBn)
      | (go_at_call 7; (with_reducible refine (HWA.out A n c _ (Kd.C_below HC.out HBw.out) HCC.out).mono ?_); rintro e w1 ⟨rfl, hB⟩; have HBn := Aside0.mk (HBw.out.trans (below_sub hB HBw.out.size)); clear HBw hB; have HBw := HBn; clear HBn)
      | (go_at_call 7; (with_reducible refine (HWB.out B m d _ (Kd.C_below HD.out HBw.out) HDD.out).mono ?_); rintro e w1 ⟨rfl, hB⟩; have HBn := Aside0.mk (HBw.out.trans (below_sub hB HBw.out.size)); clear HBw hB; have HBw := HBn; clear HBn)
      | (go_at_call 10; (with_reducible refine (value_any l HWT.out A n c _ (Kd.C_below HC.out HBw.out) HCC.out).mono ?_); rintro e w1 ⟨rfl, hB⟩; rw [HVA.out]; have HBn := Aside0.mk (HBw.out.trans (below_sub hB HBw.out.size)); clear HBw hB; have HBw := HBn; clear HBn)
      | (go_at_call 10; (with_reducible refine (value_any l' HWT'.out B m d _ (Kd.C_below HD.out HBw.out) HDD.out).mono ?_); rintro e w1 ⟨rfl, hB⟩; rw [HVB.out]; have HBn := Aside0.mk (HBw.out.trans (below_sub hB HBw.out.size)); clear HBw hB; have HBw := HBn; clear HBn))
    go_ret
    exact ⟨rfl, HBw.out⟩
  have HVB := Aside0.mk hvb
  clear hvb
  have hta : textS l = bs (wrL false l) := by unfold textS; rw [HVA.out, if_pos rfl]
  have htb : textS l' = bs (wrL false l') := by unfold textS; rw [HVB.out, if_pos rfl]
  have hRa := rt_of 200 0 l HVA.out
  have hRb := rt_of 200 0 l' HVB.out
  have inj : textS l = textS l' → l = l' := fun e => wrL_inj hRa hRb (by rw [hta, htb] at e; have := congrArg by2 e; rwa [by2_bs, by2_bs] at this)
  have emp : textS l = ⟨#[]⟩ → n = 0 := fun e => by
    rw [hta] at e
    have := congrArg by2 e
    rw [by2_bs] at this
    rw [← HLN.out, wrL_empty hRa this]
    rfl
  have non : n = 0 → textS l = ⟨#[]⟩ := fun e => by
    have : l = [] := List.length_eq_zero_iff.1 (HLN.out.trans e)
    rw [hta, this, wrL_nil]
    rfl
  have tl : ∀ x y : ByteArray, x.toList = y.toList ↔ x = y := fun x y => ⟨bytes_eq, fun e => by rw [e]⟩
  have nil0 : (⟨#[]⟩ : ByteArray).toList = [] := by rw [Go.Lib.toList_data]
  clear hta htb hRa hRb
  obtain ⟨ta, hva⟩ : ∃ x, textS l = x := ⟨_, rfl⟩
  obtain ⟨tb, hvb⟩ : ∃ x, textS l' = x := ⟨_, rfl⟩
  have HTA := Aside0.mk hva
  have HTB := Aside0.mk hvb
  rw [hva] at inj emp non
  rw [hvb] at inj
  clear hva hvb
  have HES := Aside0.mk (show eqL l l' = decide (ta = tb) from by
    by_cases e : ta = tb
    · rw [decide_eq_true e]
      exact eqL_yes (inj e)
    · rw [decide_eq_false e]
      exact eqL_no fun h => e (by rw [← HTA.out, ← HTB.out, h]))
  clear inj
  obtain ⟨q, hq⟩ : ∃ q, decide (ta = tb) = q := ⟨_, rfl⟩
  obtain ⟨z, hz⟩ : ∃ z, decide (n = 0) = z := ⟨_, rfl⟩
  have c1 : (ta.toList == tb.toList) = q := by rw [← hq, Bool.eq_iff_iff, beq_iff_eq, decide_eq_true_iff]; exact tl _ _
  have c2 : (ta.toList == []) = z := by
    rw [← hz, Bool.eq_iff_iff, beq_iff_eq, decide_eq_true_iff]
    exact ⟨fun e => emp ((tl _ _).1 (by rw [e, nil0])), fun e => by rw [non e, nil0]⟩
  have c3 : ((n : Int) == 0) = z := by rw [← hz, Bool.eq_iff_iff, beq_iff_eq, decide_eq_true_iff]; omega
  rw [hq] at HES
  clear hq hz emp non tl nil0
  go_enter Tryd.func4, Tryd.ntmps4
  go_wp2_with (first
    | (go_at_call 6; (with_reducible refine (alive_any _ (pw_cell_below HBw.out HM.out)).mono ?_); rintro e w1 ⟨rfl, hB⟩; have HBn := Aside0.mk (HBw.out.trans (below_sub hB HBw.out.size)); clear HBw hB; have HBw := HBn; clear HBn)
    | (go_at_call 7; (with_reducible refine (HWA.out A n c _ (Kd.C_below HC.out HBw.out) HCC.out).mono ?_); rintro e w1 ⟨rfl, hB⟩; have HBn := Aside0.mk (HBw.out.trans (below_sub hB HBw.out.size)); clear HBw hB; have HBw := HBn; clear HBn)
    | (go_at_call 7; (with_reducible refine (HWB.out B m d _ (Kd.C_below HD.out HBw.out) HDD.out).mono ?_); rintro e w1 ⟨rfl, hB⟩; have HBn := Aside0.mk (HBw.out.trans (below_sub hB HBw.out.size)); clear HBw hB; have HBw := HBn; clear HBn)
    | (go_at_call 10; (with_reducible refine (value_any l HWT.out A n c _ (Kd.C_below HC.out HBw.out) HCC.out).mono ?_); rintro e w1 ⟨rfl, hB⟩; rw [HVA.out]; have HBn := Aside0.mk (HBw.out.trans (below_sub hB HBw.out.size)); clear HBw hB; have HBw := HBn; clear HBn)
    | (go_at_call 10; (with_reducible refine (value_any l' HWT'.out B m d _ (Kd.C_below HD.out HBw.out) HDD.out).mono ?_); rintro e w1 ⟨rfl, hB⟩; rw [HVB.out]; have HBn := Aside0.mk (HBw.out.trans (below_sub hB HBw.out.size)); clear HBw hB; have HBw := HBn; clear HBn)
    | (go_at_call 12; (with_reducible refine (text_any l HWT.out A n c _ (Kd.C_below HC.out HBw.out) HCC.out (pw_cell_below HBw.out HM.out)).mono ?_); rintro e w1 ⟨rfl, hB⟩; rw [HTA.out]; have HBn := Aside0.mk (HBw.out.trans (below_sub hB HBw.out.size)); clear HBw hB; have HBw := HBn; clear HBn)
    | (go_at_call 12; (with_reducible refine (text_any l' HWT'.out B m d _ (Kd.C_below HD.out HBw.out) HDD.out (pw_cell_below HBw.out HM.out)).mono ?_); rintro e w1 ⟨rfl, hB⟩; rw [HTB.out]; have HBn := Aside0.mk (HBw.out.trans (below_sub hB HBw.out.size)); clear HBw hB; have HBw := HBn; clear HBn)
    | (go_at_call 14; (with_reducible refine (wsame_n l l' A B n c m d _ (Kd.C_below HC.out HBw.out) HCC.out (Kd.C_below HD.out HBw.out) HDD.out).mono ?_); rintro e w1 ⟨rfl, hB⟩; rw [HES.out]; have HBn := Aside0.mk (HBw.out.trans (below_sub hB HBw.out.size)); clear HBw hB; have HBw := HBn; clear HBn))

  all_goals
    go_ret
    exact ⟨rfl, HBw.out⟩
end Go.Proofs.YtkecpfjmdokieaaDoor.Word
namespace Go.Proofs.YtkecpfjmdokieaaDoor.Word
open Go
variable {H : Type} {enc : TypeId × Value → H}
theorem change_and_shaped {a : Assume} {C : Checked} {os : Os} {f : FuncId} {fn : Func} {s : ChangeSpec} {conds : List PathCond} {apart fresh handsOn again : Bool} {X : World → Array Value → Prop}
    (hX : ∀ (w w' : World) (args : Array Value), w.heap = w'.heap → X w args → X w' args)
    (own : ownKnob C.prog.godebug = none) (started : os.Started) (noInit : C.prog.inits.idxOf? f = none) (hfn : C.prog.funcs[f]? = some fn)
    (witness : ∃ (w : World) (tape : Tape) (i : Input), w.os = os ∧ (w.forCall tape i).Shaped C.prog ∧ i.vars = [] ∧ Input.okWide C.prog (w.forCall tape i) .any w.heap.size f i ∧
      ((s.pre enc C.prog fn conds apart (w.forCall tape i).memory i.args ∧ X (w.forCall tape i).memory i.args) ∧ sizedMet enc C.prog fn (OpenSpec.ofChange s) apart (w.forCall tape i).memory i.args) ∧ a.holds C.prog (lone (Frame.enter C.prog f i.args .normal) [] (w.forCall tape i)))
    (contract : ∀ (W : World) (base : Nat) (args : Array Value) (ds gs : List (DataW H)) (before : List MemPlace),
      (∀ (j : Nat) t v, fn.params[j]? = some t → args[j]? = some v → Value.okWide C.prog W .any base t v) →
      DataW.Whole enc C.prog fn.params.toList s.vars apart W args.toList ds gs before →
      conds.all (PathCond.test C.prog ⟨fn.params.toList, ds, s.plain.varTypes C.prog, gs⟩) = true →
      (DataW.weightsEach C.prog (fn.params.toList ++ s.plain.varTypes C.prog) (ds ++ gs)).all (· ≤ reachBytes) = true → X W args → W.ShapedOpen C.prog →
      a.holds C.prog (lone (Frame.enter C.prog f args .normal) [] W) →
      Calls C.prog f args W fun e W' => ∃ v, e = .returned v ∧ s.post enc C.prog fn apart fresh handsOn again W args v W') :
    ReturnsInHanded a C os f .any (fun w args => (s.pre enc C.prog fn conds apart w args ∧ X w args) ∧ sizedMet enc C.prog fn (OpenSpec.ofChange s) apart w args) (s.post enc C.prog fn apart fresh handsOn again) := by
  refine returnsInHanded_of_calls own started noInit witness ?_
  intro w tape i _ hsh _ hok hpre hholds
  obtain ⟨_, _, _, fn', hfn', _, _, _, _, hval⟩ := hok
  have e : fn' = fn := Option.some.inj (hfn'.symm.trans hfn)
  subst e
  obtain ⟨⟨⟨ds, gs, before, hw, hc⟩, hx⟩, hz⟩ := hpre
  have hw' := DataW.Whole.of_heap (w' := w.forCall tape i) (by rfl) hw
  refine (contract (w.forCall tape i) w.heap.size i.args ds gs before hval hw' hc (hz.weights hw) (hX _ _ _ (by rfl) hx) hsh hholds).mono fun e W' ⟨v, he, hp⟩ => ?_
  subst he
  exact ChangeSpec.post_blind hp
end Go.Proofs.YtkecpfjmdokieaaDoor.Word
namespace Go.Proofs.YtkecpfjmdokieaaDoor
open Go.RowKit Go.Proofs.YtkecpfjmdokieaaDoorW.PrintWords Go.Proofs.YtkecpfjmdokieaaDoorW.PrintLast
set_option linter.unusedVariables false
theorem maxlen_of {W : World} (h : W.ShapedOpen Tryd.prog) : ∃ m, W.cell? ⟨0, 0, none⟩ = some (.int .i64 m) :=
  cell_of_shapedOpen_int (P := Tryd.prog) (g := 0) (t := 3) (zero := #[.int .i64 0]) h (of_decide_eq_true (by kernel_rfl)) (by kernel_rfl) rfl (by kernel_rfl) (by kernel_rfl) Tryd.underlying3
theorem apart_lawI (l l' : List P.S33) (A B : Option Addr) (n c m d : Nat) (w : World) (hC : Kd.C P.k33 w A n l) (hc : n ≤ c) (hfit : NodeOps.FitWord l) (hD : Kd.C P.k33 w B m l') (hd : m ≤ d) (hfit' : NodeOps.FitWord l') (h : w.ShapedOpen Tryd.prog) :
    Calls Tryd.prog 4 #[.slice A n c, .slice B m d] w fun e w' => e = .returned (.bool true) ∧ Below w.heap.size w w' := by
  obtain ⟨mx, hm⟩ := maxlen_of h
  exact Word.apart_law l l' A B n c m d w hC hc hfit hD hd hfit' hm
namespace RowWordApart
open Go.ChangeShapes Go.WideShapes Go.ChangeAt Go.RowKit
open Go.ChangeMaps (open_string shut_string)
theorem own : ownKnob Tryd.prog.godebug = none := by kernel_rfl
theorem laidOut : laidOutB Tryd.prog = true := by kernel_rfl
set_option maxRecDepth 100000 in
theorem lifted (os : Os) (started : os.Started) (H : Type) (enc : TypeId × Value → H) :
    ReturnsInHanded {} Tryd.checked os 4 .any (fun w args => (Rows.wordApartSpec.pre enc Tryd.prog Tryd.f4 Rows.wordApartRow.domain false w args ∧ laidMetH Tryd.prog Rows.wordApartRow.laid w) ∧ sizedMet enc Tryd.prog Tryd.f4 (OpenSpec.ofChange Rows.wordApartSpec) false w args) (Rows.wordApartSpec.post enc Tryd.prog Tryd.f4 false true false false) := by
  refine Word.change_and_shaped (C := Tryd.checked) (X := (fun w _ => laidMetH Tryd.prog Rows.wordApartRow.laid w)) (fun _ _ _ hh h => h.of_heap hh) own started (by kernel_rfl) Tryd.func4
    (ChangeSpec.witness_shaped (enc := enc) (C := Tryd.checked) (os := os) (X := (fun w _ => laidMetH Tryd.prog Rows.wordApartRow.laid w)) false (World.laidAll Tryd.prog os Rows.wordApartRow.laid) #[.slice none 0 0, .slice none 0 0] 8 (World.laidAll_os _ _ _)
      (World.shaped_of_ZipB (by kernel_rfl) (by kernel_rfl)) (by kernel_rfl) (by kernel_rfl) (by kernel_rfl)
      (by rw [MakeChecks.laidMetH_plain _ _ _ (by kernel_rfl)]; exact laidMet_laidAll _ (by kernel_rfl) (by kernel_rfl))) ?_
  intro W base args ds gs before hval0 hW hcnd hsz0 hL hSh _
  have hsz : (DataW.weightsEach Tryd.prog (Tryd.f4.params.toList ++ Rows.wordApartSpec.plain.varTypes Tryd.prog) (ds ++ gs)).all (· ≤ reachBytes) = true := hsz0
  have hval : ∀ (j : Nat) t v, Tryd.f4.params[j]? = some t → args[j]? = some v → Value.okWide Tryd.prog W .any base t v := hval0
  have hW' := hW
  obtain ⟨p, q, hA0, hV, rfl, hfz, hnd⟩ := hW
  have hA : DataW.TrodAll enc Tryd.prog W 0 (fun _ => true) true Tryd.f4.params.toList args.toList ds p := hA0
  rw [Tryd.params4] at hA hval hsz
  obtain ⟨v0, vs0, d0, ds0, p0, q0, hargs, rfl, rfl, h0, r0⟩ := trodAll_cons hA
  obtain ⟨v1, vs1, d1, ds1, p1, q1, rfl, rfl, rfl, h1, r1⟩ := trodAll_cons r0
  obtain ⟨rfl, rfl, rfl⟩ := trodAll_nil r1
  obtain rfl : args = #[v0, v1] := by cases args; simp_all
  obtain ⟨rfl, rfl⟩ := trodVars_none hV
  obtain ⟨a0, n0, c0, rfl⟩ := okWide_slice Tryd.underlying23 (hval 0 23 v0 rfl rfl)
  have t0 := h0
  have lt0 : ∀ x ∈ p0, x.block < W.heap.size := by obtain ⟨m, hm⟩ := t0; exact DataW.trod_lt m _ _ _ hm
  have z0 : ∀ n ∈ d0.weights Tryd.prog 23, n ≤ reachBytes := fun n hn => by simpa using List.all_eq_true.1 hsz n (DataW.weights_mem_each (j := 0) rfl rfl n hn)
  obtain ⟨l0, C0, k0, V0⟩ := Open.open_sl (NodeOps.op_word W) h0 z0
  obtain ⟨a1, n1, c1, rfl⟩ := okWide_slice Tryd.underlying23 (hval 1 23 v1 rfl rfl)
  have t1 := h1
  have lt1 : ∀ x ∈ p1, x.block < W.heap.size := by obtain ⟨m, hm⟩ := t1; exact DataW.trod_lt m _ _ _ hm
  have z1 : ∀ n ∈ d1.weights Tryd.prog 23, n ≤ reachBytes := fun n hn => by simpa using List.all_eq_true.1 hsz n (DataW.weights_mem_each (j := 1) rfl rfl n hn)
  obtain ⟨l1, C1, k1, V1⟩ := Open.open_sl (NodeOps.op_word W) h1 z1
  clear hA0 hval0 hsz0 hsz
  refine (apart_lawI l0 l1 _ _ _ _ _ _ W C0 k0 V0 C1 k1 V1 hSh).mono fun e W' ⟨he, bel⟩ => ?_
  subst he
  exact ⟨_, rfl, _, _, _, [], _, [], hW', trodAll_mk1 (shut_bool Tryd.underlying4 _), (trodAll_cons_mk (Below.trod laidOut (by kernel_rfl) (of_decide_eq_true (by kernel_rfl)) t0 bel lt0) (trodAll_cons_mk (Below.trod laidOut (by kernel_rfl) (of_decide_eq_true (by kernel_rfl)) t1 bel lt1) trodAll_mk0)), rfl, bel.frame _, fun h => by cases h⟩
theorem proved : Rows.WordApartSaid :=
  OpenClaim.holds_of_wide 4 Tryd.f4 rfl rfl rfl rfl rfl rfl rfl ⟨rfl, rfl, rfl, rfl, rfl⟩ rfl rfl rfl rfl rfl (by kernel_rfl) Tryd.func4 (by kernel_rfl)
    (of_decide_eq_true (by kernel_rfl)) (by unfold Func.isWrapper; first | (rw [if_pos (by decide +kernel)]; kernel_rfl) | (rw [if_neg (by decide +kernel)]; exact ⟨rfl, rfl⟩))
    (fun os started H enc _ => lifted os started H enc)
end RowWordApart
theorem wordApart_holds : Rows.WordApartSaid := RowWordApart.proved
theorem wordApart_card_holds : Rows.WordApartCardSaid :=
  Claim7.holds_tied_plain_at .later [] [.data, .pinned] true (true, "d7c8ea5a395ae472993517a0e6983a3ca7ffa6d3b7f4a3261fa0a56531d6764a") false wordApart_holds (fun _ h => by cases h) (by kernel_rfl) (fun _ h => by cases h) wordApart_row_tie rfl ⟨rfl, rfl⟩ (by kernel_rfl) rfl
    (fun f fn hf hfn => by
      obtain rfl : f = 4 := Option.some.inj ((show Tryd.prog.funcNamed "deadfall/deadfalllaw03.WordApart" = some 4 by kernel_rfl).symm.trans hf) |>.symm
      obtain rfl : fn = Tryd.f4 := (Option.some.inj (Tryd.func4.symm.trans hfn)).symm
      exact ⟨by kernel_rfl, fun j t ht => by
        rw [Tryd.params4] at ht
        have hm : t ∈ [23, 23] := by simpa using Array.mem_of_getElem? ht
        have hall : ([23, 23].all fun u => !Tryd.prog.wantsStandIn u) = true := by kernel_rfl
        exact (show Tryd.prog.wantsStandIn t = false by simpa using List.all_eq_true.1 hall t hm)⟩)
    (by kernel_rfl)
#print axioms wordApart_card_holds
end Go.Proofs.YtkecpfjmdokieaaDoor
