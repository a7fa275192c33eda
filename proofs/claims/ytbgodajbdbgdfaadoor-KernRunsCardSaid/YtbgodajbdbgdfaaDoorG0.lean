/- texts of this claim, one behind the other: Nest R0 R1 SigSlim SigBits SigSet Seq Base SigSets ProcPure ProcWalk ProcSet SeqMore ProcOps ProcFork ProcPut ProcExit ProcEnd ProcSend SigList ProcNew ProcAlive V0 V1 -/
import Derived.Test.YtbgodajbdbgdfaaDoorWWords
import Derived.Test.YtbgodajbdbgdfaaDoorProg
import Derived.Below
import Derived.Deep.Draws
import Derived.Deep.AppendLies
import Derived.Maps.AppendAt
import Derived.OwnWalk
import Derived.Laws.BytesArg
import Derived.Laws.MakeOwn
import Derived.Laws.OwnMore
import Derived.Deep.OwnRows
import Derived.Tactics
import Derived.Lib.ConvBytes
import Derived.Laws.Slices
import Derived.WalkKit
import Derived.KernelRfl
import Derived.RowKit3
import Derived.Deep.LoopGhost
import Derived.Deep.QuietTactic
import Derived.BigQuiet
import Derived.WideLaws
import Derived.Deep.DeepCutAuto
import Derived.Deep.CutBlock
import Derived.Deep.RegionHeld3
import Derived.Laws.Rows
import Derived.Lib.AppendStr
import Derived.ArgAppend
import Derived.Laws.IdiomCopy
import Derived.OrdersHeld
import Derived.Laws.BitsLemmas
import Derived.RowKit
import Derived.Test.YtbgodajbdbgdfaaDoorWLast
import Derived.Test.YtbgodajbdbgdfaaDoorWTab
import Derived.Test.YtbgodajbdbgdfaaDoorWFour
import Derived.Test.YtbgodajbdbgdfaaDoorWQPut
import Derived.Test.YtbgodajbdbgdfaaDoorWApart
import Derived.Test.YtbgodajbdbgdfaaDoorWArr
import Derived.Test.YtbgodajbdbgdfaaDoorWZeros
import Derived.Test.YtbgodajbdbgdfaaDoorWFoot
import Derived.Test.YtbgodajbdbgdfaaDoorWKept
import Derived.Test.YtbgodajbdbgdfaaDoorWShare
import Derived.Test.YtbgodajbdbgdfaaDoorWN
import Derived.Test.YtbgodajbdbgdfaaDoorWFootNe
import Derived.Test.YtbgodajbdbgdfaaDoorWAt
import Derived.Test.YtbgodajbdbgdfaaDoorWEqStruct
import Derived.Test.YtbgodajbdbgdfaaDoorWRepsOne
import Derived.Test.YtbgodajbdbgdfaaDoorWInv
import Derived.Test.YtbgodajbdbgdfaaDoorWInvWords
import Derived.Test.YtbgodajbdbgdfaaDoorWGuard
import Derived.Test.YtbgodajbdbgdfaaDoorWNEv
import Derived.Test.YtbgodajbdbgdfaaDoorWMore
import Derived.Test.YtbgodajbdbgdfaaDoorShelf
import Derived.Lib.TrailingZeros
import Derived.Laws.BitsAllLaws
import Derived.Shelf.Spec.TrailingZeros
import Derived.Maps.RangeWalk
import Derived.Maps.OwnSet
/- Types that are nested in each other: what holds of a kind over the fixed point holds over some depth, and the other way round. -/
namespace Go.Proofs.YtbgodajbdbgdfaaDoor.Nest
open Go.RowKit Go.Proofs.YtbgodajbdbgdfaaDoorW.PrintWords
set_option linter.unusedVariables false
/-- What holds over the fixed point holds at some depth. -/
structure Cont {α β : Type} (F : Kd α → Kd α) (sz : Nat) (E : List Nat) (hs : ∀ n, (Kd.upto F sz E n).sz = sz) (hE : ∀ n q, q ∈ (Kd.upto F sz E n).E → q ∈ E) (G : Kd α → Kd β) : Prop where
  K : ∀ {w x cs}, (G (Kd.fix F sz E hs hE)).K w x cs → ∃ n, (G (Kd.upto F sz E n)).K w x cs
  M : ∀ {w base ok x cs}, (G (Kd.fix F sz E hs hE)).M w base ok x cs → ∃ n, (G (Kd.upto F sz E n)).M w base ok x cs
section
variable {α β γ : Type} {F : Kd α → Kd α} {sz : Nat} {E : List Nat} {hs : ∀ n, (Kd.upto F sz E n).sz = sz} {hE : ∀ n q, q ∈ (Kd.upto F sz E n).E → q ∈ E}
theorem G_K_le {G : Kd α → Kd β} (hm : Kd.Mono F) (hs : ∀ n, (Kd.upto F sz E n).sz = sz) (hG : Kd.Mono G) {n m : Nat} (hnm : n ≤ m) {w x cs} (h : (G (Kd.upto F sz E n)).K w x cs) : (G (Kd.upto F sz E m)).K w x cs :=
  hG.K _ _ (by rw [hs n, hs m]) (fun _ _ _ hp => Kd.upto_K_le hm hs hnm hp) _ _ _ h
theorem G_M_le {G : Kd α → Kd β} (hm : Kd.Mono F) (hs : ∀ n, (Kd.upto F sz E n).sz = sz) (hG : Kd.Mono G) {n m : Nat} (hnm : n ≤ m) {w base ok x cs} (h : (G (Kd.upto F sz E n)).M w base ok x cs) : (G (Kd.upto F sz E m)).M w base ok x cs :=
  hG.M _ _ (by rw [hs n, hs m]) (fun _ _ _ _ _ hp => Kd.upto_M_le hm hs hnm hp) _ _ _ _ _ h
theorem cont_const (k : Kd β) : Cont F sz E hs hE (fun _ : Kd α => k) := ⟨fun h => ⟨0, h⟩, fun h => ⟨0, h⟩⟩
theorem cont_id : Cont F sz E hs hE (fun d : Kd α => d) := ⟨fun h => h, fun h => h⟩
theorem cont_iso {G : Kd α → Kd β} (f : γ → β) (hG : Cont F sz E hs hE G) : Cont F sz E hs hE (fun d => Kd.iso (G d) f) := ⟨fun h => hG.K h, fun h => hG.M h⟩
theorem cont_pair {G : Kd α → Kd β} {H : Kd α → Kd γ} (hm : Kd.Mono F) (mG : Kd.Mono G) (mH : Kd.Mono H) (hG : Cont F sz E hs hE G) (hH : Cont F sz E hs hE H) : Cont F sz E hs hE (fun d => Kd.pair (G d) (H d)) := by
  refine ⟨?_, ?_⟩
  · rintro w x cs ⟨c0, c1, rfl, h0, h1⟩
    obtain ⟨n, h0⟩ := hG.K h0
    obtain ⟨m, h1⟩ := hH.K h1
    exact ⟨max n m, c0, c1, rfl, G_K_le hm hs mG (Nat.le_max_left _ _) h0, G_K_le hm hs mH (Nat.le_max_right _ _) h1⟩
  · rintro w base ok x cs ⟨c0, c1, rfl, h0, h1⟩
    obtain ⟨n, h0⟩ := hG.M h0
    obtain ⟨m, h1⟩ := hH.M h1
    exact ⟨max n m, c0, c1, rfl, G_M_le hm hs mG (Nat.le_max_left _ _) h0, G_M_le hm hs mH (Nat.le_max_right _ _) h1⟩
theorem fixG_C {G : Kd α → Kd β} (hG : Kd.Mono G) {n : Nat} {w : World} {A : Option Addr} {m : Nat} {xs : List β} (h : (G (Kd.upto F sz E n)).C w A m xs) : (G (Kd.fix F sz E hs hE)).C w A m xs :=
  Kd.C_imp (hG.sz _ _ (hs n)) (hG.K _ _ (hs n) (fun w x cs hp => (⟨n, hp⟩ : ∃ n, (Kd.upto F sz E n).K w x cs))) h
theorem fixG_R {G : Kd α → Kd β} (hG : Kd.Mono G) {n : Nat} {e : Nat} {w : World} {base : Nat} {ok : Nat → Prop} {v : Value} {xs : List β} (h : (G (Kd.upto F sz E n)).R e w base ok v xs) : (G (Kd.fix F sz E hs hE)).R e w base ok v xs :=
  Kd.R_imp (hG.sz _ _ (hs n)) (hG.M _ _ (hs n) (fun w base ok x cs hp => (⟨n, hp⟩ : ∃ n, (Kd.upto F sz E n).M w base ok x cs))) h
theorem back_R {G : Kd α → Kd β} (hm : Kd.Mono F) (mG : Kd.Mono G) (hG : Cont F sz E hs hE G) {e : Nat} {w : World} {base : Nat} {ok : Nat → Prop} {v : Value} {xs : List β} (h : (G (Kd.fix F sz E hs hE)).R e w base ok v xs) : ∃ n, (G (Kd.upto F sz E n)).R e w base ok v xs := by
  obtain ⟨h0, inner, ho, hr⟩ := h
  obtain ⟨N, hN⟩ := Kd.reps_bounded (R := fun n p c => (G (Kd.upto F sz E n)).M w base (fun k => ok k ∧ some k ≠ v.ownBlock) p c) (fun n m p c hnm hp => G_M_le hm hs mG hnm hp) (hr.imp_ (fun _ _ hp => hG.M hp))
  have e1 : (G (Kd.upto F sz E N)).sz = (G (Kd.fix F sz E hs hE)).sz := mG.sz _ _ (hs N)
  refine ⟨N, h0, inner, ?_, ?_⟩
  · rw [e1]; exact ho
  · rw [e1]; exact hN
theorem back_C {G : Kd α → Kd β} (hm : Kd.Mono F) (mG : Kd.Mono G) (hG : Cont F sz E hs hE G) {w : World} {A : Option Addr} {m : Nat} {xs : List β} (h : (G (Kd.fix F sz E hs hE)).C w A m xs) : ∃ n, (G (Kd.upto F sz E n)).C w A m xs := by
  rcases Nat.eq_zero_or_pos m with hz | hpos
  · subst hz
    exact ⟨0, h.1, h.2.1, fun hp => absurd hp (Nat.lt_irrefl 0)⟩
  · obtain ⟨ad, e, hc⟩ := h.2.2 hpos
    have e1 : ∀ N, (G (Kd.upto F sz E N)).sz = (G (Kd.fix F sz E hs hE)).sz := fun N => mG.sz _ _ (hs N)
    obtain ⟨N, hN⟩ := Kd.bounded (P := fun n j => ∀ p, xs[j]? = some p → ∃ c, c.length = (G (Kd.fix F sz E hs hE)).sz ∧ (G (Kd.upto F sz E n)).K w p c ∧ ∀ i u, c[i]? = some u → w.cell? (ad.add (j * (G (Kd.fix F sz E hs hE)).sz + i)) = some u)
      (fun n n' j hnm hp p hj => by
        obtain ⟨c, h1, h2, h3⟩ := hp p hj
        exact ⟨c, h1, G_K_le hm hs mG hnm h2, h3⟩) xs.length
      (fun j hj => by
        obtain ⟨c, h1, h2, h3⟩ := hc j _ (List.getElem?_eq_getElem hj)
        obtain ⟨n, h2⟩ := hG.K h2
        refine ⟨n, fun p hp => ?_⟩
        rw [List.getElem?_eq_getElem hj] at hp
        injection hp with hp
        rw [← hp]
        exact ⟨c, h1, h2, h3⟩)
    refine ⟨N, h.1, h.2.1, fun _ => ⟨ad, e, fun j p hj => ?_⟩⟩
    rw [e1 N]
    exact hN j (List.getElem?_eq_some_iff.1 hj).1 p hj
theorem le_R {G : Kd α → Kd β} (hm : Kd.Mono F) (hs : ∀ n, (Kd.upto F sz E n).sz = sz) (mG : Kd.Mono G) {n m : Nat} (hnm : n ≤ m) {e : Nat} {w : World} {base : Nat} {ok : Nat → Prop} {v : Value} {xs : List β} (h : (G (Kd.upto F sz E n)).R e w base ok v xs) : (G (Kd.upto F sz E m)).R e w base ok v xs :=
  Kd.R_imp (mG.sz _ _ (by rw [hs n, hs m])) (fun _ _ _ _ _ hp => G_M_le hm hs mG hnm hp) h
theorem le_C {G : Kd α → Kd β} (hm : Kd.Mono F) (hs : ∀ n, (Kd.upto F sz E n).sz = sz) (mG : Kd.Mono G) {n m : Nat} (hnm : n ≤ m) {w : World} {A : Option Addr} {l : Nat} {xs : List β} (h : (G (Kd.upto F sz E n)).C w A l xs) : (G (Kd.upto F sz E m)).C w A l xs :=
  Kd.C_imp (mG.sz _ _ (by rw [hs n, hs m])) (fun _ _ _ hp => G_K_le hm hs mG hnm hp) h
theorem cont_slice (e : Nat) {G : Kd α → Kd β} (hm : Kd.Mono F) (mG : Kd.Mono G) (hG : Cont F sz E hs hE G) : Cont F sz E hs hE (fun d => Kd.slice e (G d)) := by
  refine ⟨?_, ?_⟩
  · rintro w x cs ⟨A, c, rfl, hl, hr⟩
    obtain ⟨n, hr⟩ := back_C hm mG hG hr
    exact ⟨n, A, c, rfl, hl, hr⟩
  · rintro w base ok x cs ⟨v, rfl, hr⟩
    obtain ⟨n, hr⟩ := back_R hm mG hG hr
    exact ⟨n, v, rfl, hr⟩
end
end Go.Proofs.YtbgodajbdbgdfaaDoor.Nest
-- printed by a program of this session (wip/pp): a Lean function and a proof for each Go function
namespace Go.Proofs.YtbgodajbdbgdfaaDoor.R
open Go.RowKit Go.Proofs.YtbgodajbdbgdfaaDoorW.PrintWords Go.Proofs.YtbgodajbdbgdfaaDoorW.PrintLast Go.Proofs.YtbgodajbdbgdfaaDoorW.PrintMore
attribute [local go_sem] max2_int min2_int max_two min_two max_three min_three max_four min_four   -- for this text's walks alone
set_option linter.unusedVariables false
set_option linter.unusedSimpArgs false




def errW : Option Int → Value
  | none => .nilIface
  | some c => .iface 0 (.int .i64 c)
theorem errW_none : errW none = .nilIface := rfl
theorem errW_some (c : Int) : errW (some c) = .iface 0 (.int .i64 c) := rfl

-- the values' own types

end Go.Proofs.YtbgodajbdbgdfaaDoor.R
-- printed by a program of this session (wip/pp): a Lean function and a proof for each Go function
namespace Go.Proofs.YtbgodajbdbgdfaaDoor.R
open Go.RowKit Go.Proofs.YtbgodajbdbgdfaaDoorW.PrintWords Go.Proofs.YtbgodajbdbgdfaaDoorW.PrintLast Go.Proofs.YtbgodajbdbgdfaaDoorW.PrintMore
attribute [local go_sem] max2_int min2_int max_two min_two max_three min_three max_four min_four   -- for this text's walks alone
set_option linter.unusedVariables false
set_option linter.unusedSimpArgs false

/-! ### sig_Is: function 48 -/
def sig_Is.f (a0 : Int) : Option (Bool) := if a0 > 0 then (some (decide (a0 < 32))) else (some false)
set_option maxHeartbeats 8000000 in
set_option maxRecDepth 100000 in
theorem sig_Is.calls (a0 : Int) (r : Bool) (w : World) (h : sig_Is.f a0 = some r) :
    Calls Tryd.prog 48 #[.int .i64 a0] w fun e w' => e = .returned (.bool r) ∧ Drawn0 w w' := by
  have H : (if a0 > 0 then (some (decide (a0 < 32))) else (some false)) = some r := h
  clear h
  by_cases c2 : a0 > 0
  · rw [if_pos c2] at H
    have c2b0 : decide (0 < a0) = true := decide_eq_true c2
    clear c2
    obtain rfl := Option.some.inj H
    go_enter Tryd.func48, Tryd.ntmps48
    go_wp2
    go_ret
    exact ⟨by first | rfl | (simp; done) | (simp [*]; done), by repeat (first | exact Drawn0.refl _ | apply Drawn0.step)⟩
  · rw [if_neg c2] at H
    have c2b0 : decide (0 < a0) = false := decide_eq_false c2
    clear c2
    obtain rfl := Option.some.inj H
    go_enter Tryd.func48, Tryd.ntmps48
    go_wp2
    go_ret
    exact ⟨by first | rfl | (simp; done) | (simp [*]; done), by repeat (first | exact Drawn0.refl _ | apply Drawn0.step)⟩

/-- THE ONE PURE STATEMENT of sig_Is: yours. -/
def sig_Is.Pure : Prop := ∀ (a0 : Int), (Lit.int .i64 a0).wf = true → sig_Is.f a0 = some true
theorem sig_Is.walk (P : sig_Is.Pure) (a0 : Int) (w : World) (w0 : (Lit.int .i64 a0).wf = true) :
    Calls Tryd.prog 48 #[.int .i64 a0] w fun e w' => e = .returned (.bool true) ∧ Below w.heap.size w w' := by
  have h := P a0 w0
  refine (sig_Is.calls a0 true w h).mono ?_
  rintro e w' ⟨rfl, hd⟩
  exact ⟨rfl, hd.below⟩

/-! ### sig_Mild: function 50 -/
def sig_Mild.f (a0 : Int) : Option (Bool) := if a0 = 17 then (some true) else (if a0 = 18 then (some true) else (if a0 = 23 then (some true) else (some (a0 == 28))))
set_option maxHeartbeats 8000000 in
set_option maxRecDepth 100000 in
theorem sig_Mild.calls (a0 : Int) (r : Bool) (w : World) (h : sig_Mild.f a0 = some r) :
    Calls Tryd.prog 50 #[.int .i64 a0] w fun e w' => e = .returned (.bool r) ∧ Drawn0 w w' := by
  have H : (if a0 = 17 then (some true) else (if a0 = 18 then (some true) else (if a0 = 23 then (some true) else (some (a0 == 28))))) = some r := h
  clear h
  by_cases c2 : a0 = 17
  · rw [if_pos c2] at H
    have c2b0 : (a0 == 17) = true := beq_iff_eq.mpr c2
    have c2b1 : (a0 != 17) = false := bne_eq_false_iff_eq.mpr c2
    clear c2
    obtain rfl := Option.some.inj H
    go_enter Tryd.func50, Tryd.ntmps50
    go_wp2
    go_ret
    exact ⟨by first | rfl | (simp; done) | (simp [*]; done), by repeat (first | exact Drawn0.refl _ | apply Drawn0.step)⟩
  · rw [if_neg c2] at H
    have c2b0 : (a0 == 17) = false := beq_eq_false_iff_ne.mpr c2
    have c2b1 : (a0 != 17) = true := bne_iff_ne.mpr c2
    by_cases c3 : a0 = 18
    · rw [if_pos c3] at H
      have c3b0 : (a0 == 18) = true := beq_iff_eq.mpr c3
      have c3b1 : (a0 != 18) = false := bne_eq_false_iff_eq.mpr c3
      clear c3
      obtain rfl := Option.some.inj H
      go_enter Tryd.func50, Tryd.ntmps50
      go_wp2
      go_ret
      exact ⟨by first | rfl | (simp; done) | (simp [*]; done), by repeat (first | exact Drawn0.refl _ | apply Drawn0.step)⟩
    · rw [if_neg c3] at H
      have c3b0 : (a0 == 18) = false := beq_eq_false_iff_ne.mpr c3
      have c3b1 : (a0 != 18) = true := bne_iff_ne.mpr c3
      by_cases c4 : a0 = 23
      · rw [if_pos c4] at H
        have c4b0 : (a0 == 23) = true := beq_iff_eq.mpr c4
        have c4b1 : (a0 != 23) = false := bne_eq_false_iff_eq.mpr c4
        clear c4
        obtain rfl := Option.some.inj H
        go_enter Tryd.func50, Tryd.ntmps50
        go_wp2
        go_ret
        exact ⟨by first | rfl | (simp; done) | (simp [*]; done), by repeat (first | exact Drawn0.refl _ | apply Drawn0.step)⟩
      · rw [if_neg c4] at H
        have c4b0 : (a0 == 23) = false := beq_eq_false_iff_ne.mpr c4
        have c4b1 : (a0 != 23) = true := bne_iff_ne.mpr c4
        obtain rfl := Option.some.inj H
        go_enter Tryd.func50, Tryd.ntmps50
        go_wp2
        go_ret
        exact ⟨by first | rfl | (simp; done) | (simp [*]; done), by repeat (first | exact Drawn0.refl _ | apply Drawn0.step)⟩

/-- THE ONE PURE STATEMENT of sig_Mild: yours. -/
def sig_Mild.Pure : Prop := ∀ (a0 : Int), (Lit.int .i64 a0).wf = true → sig_Mild.f a0 = some true
theorem sig_Mild.walk (P : sig_Mild.Pure) (a0 : Int) (w : World) (w0 : (Lit.int .i64 a0).wf = true) :
    Calls Tryd.prog 50 #[.int .i64 a0] w fun e w' => e = .returned (.bool true) ∧ Below w.heap.size w w' := by
  have h := P a0 w0
  refine (sig_Mild.calls a0 true w h).mono ?_
  rintro e w' ⟨rfl, hd⟩
  exact ⟨rfl, hd.below⟩

/-! ### sig_Fixed: function 33 -/
def sig_Fixed.f (a0 : Int) : Option (Bool) := if a0 = 9 then (some true) else (some (a0 == 19))
set_option maxHeartbeats 8000000 in
set_option maxRecDepth 100000 in
theorem sig_Fixed.calls (a0 : Int) (r : Bool) (w : World) (h : sig_Fixed.f a0 = some r) :
    Calls Tryd.prog 33 #[.int .i64 a0] w fun e w' => e = .returned (.bool r) ∧ Drawn0 w w' := by
  have H : (if a0 = 9 then (some true) else (some (a0 == 19))) = some r := h
  clear h
  by_cases c2 : a0 = 9
  · rw [if_pos c2] at H
    have c2b0 : (a0 == 9) = true := beq_iff_eq.mpr c2
    have c2b1 : (a0 != 9) = false := bne_eq_false_iff_eq.mpr c2
    clear c2
    obtain rfl := Option.some.inj H
    go_enter Tryd.func33, Tryd.ntmps33
    go_wp2
    go_ret
    exact ⟨by first | rfl | (simp; done) | (simp [*]; done), by repeat (first | exact Drawn0.refl _ | apply Drawn0.step)⟩
  · rw [if_neg c2] at H
    have c2b0 : (a0 == 9) = false := beq_eq_false_iff_ne.mpr c2
    have c2b1 : (a0 != 9) = true := bne_iff_ne.mpr c2
    obtain rfl := Option.some.inj H
    go_enter Tryd.func33, Tryd.ntmps33
    go_wp2
    go_ret
    exact ⟨by first | rfl | (simp; done) | (simp [*]; done), by repeat (first | exact Drawn0.refl _ | apply Drawn0.step)⟩

/-- THE ONE PURE STATEMENT of sig_Fixed: yours. -/
def sig_Fixed.Pure : Prop := ∀ (a0 : Int), (Lit.int .i64 a0).wf = true → sig_Fixed.f a0 = some true
theorem sig_Fixed.walk (P : sig_Fixed.Pure) (a0 : Int) (w : World) (w0 : (Lit.int .i64 a0).wf = true) :
    Calls Tryd.prog 33 #[.int .i64 a0] w fun e w' => e = .returned (.bool true) ∧ Below w.heap.size w w' := by
  have h := P a0 w0
  refine (sig_Fixed.calls a0 true w h).mono ?_
  rintro e w' ⟨rfl, hd⟩
  exact ⟨rfl, hd.below⟩

/-! ### deadfallref01_Is: function 51 -/
def deadfallref01_Is.f (a0 : Int) : Option (Bool) := if a0 ≥ 1 then (some (decide (a0 ≤ 31))) else (some false)
set_option maxHeartbeats 8000000 in
set_option maxRecDepth 100000 in
theorem deadfallref01_Is.calls (a0 : Int) (r : Bool) (w : World) (h : deadfallref01_Is.f a0 = some r) :
    Calls Tryd.prog 51 #[.int .i64 a0] w fun e w' => e = .returned (.bool r) ∧ Drawn0 w w' := by
  have H : (if a0 ≥ 1 then (some (decide (a0 ≤ 31))) else (some false)) = some r := h
  clear h
  by_cases c2 : a0 ≥ 1
  · rw [if_pos c2] at H
    have c2b0 : decide (1 ≤ a0) = true := decide_eq_true c2
    clear c2
    obtain rfl := Option.some.inj H
    go_enter Tryd.func51, Tryd.ntmps51
    go_wp2
    go_ret
    exact ⟨by first | rfl | (simp; done) | (simp [*]; done), by repeat (first | exact Drawn0.refl _ | apply Drawn0.step)⟩
  · rw [if_neg c2] at H
    have c2b0 : decide (1 ≤ a0) = false := decide_eq_false c2
    clear c2
    obtain rfl := Option.some.inj H
    go_enter Tryd.func51, Tryd.ntmps51
    go_wp2
    go_ret
    exact ⟨by first | rfl | (simp; done) | (simp [*]; done), by repeat (first | exact Drawn0.refl _ | apply Drawn0.step)⟩

/-- THE ONE PURE STATEMENT of deadfallref01_Is: yours. -/
def deadfallref01_Is.Pure : Prop := ∀ (a0 : Int), (Lit.int .i64 a0).wf = true → deadfallref01_Is.f a0 = some true
theorem deadfallref01_Is.walk (P : deadfallref01_Is.Pure) (a0 : Int) (w : World) (w0 : (Lit.int .i64 a0).wf = true) :
    Calls Tryd.prog 51 #[.int .i64 a0] w fun e w' => e = .returned (.bool true) ∧ Below w.heap.size w w' := by
  have h := P a0 w0
  refine (deadfallref01_Is.calls a0 true w h).mono ?_
  rintro e w' ⟨rfl, hd⟩
  exact ⟨rfl, hd.below⟩

end Go.Proofs.YtbgodajbdbgdfaaDoor.R
/- sig: what a seat without the names needs: Is, Mild, Fixed: their contracts. -/
namespace Go.Proofs.YtbgodajbdbgdfaaDoor.Num
open Go.RowKit Go.Proofs.YtbgodajbdbgdfaaDoorW.PrintWords Go.Proofs.YtbgodajbdbgdfaaDoorW.PrintLast
theorem below_trans {B : Nat} {w w1 w2 : World} (h : Below B w w1) (k : Below B w1 w2) : Below B w w2 := h.trans k
theorem below_sub {B B' : Nat} {w w1 : World} (h : Below B w w1) (hB : B' ≤ B) : Below B' w w1 := ⟨h.os, h.tape, h.output, h.size, fun i hi => h.block i (Nat.lt_of_lt_of_le hi hB)⟩
end Go.Proofs.YtbgodajbdbgdfaaDoor.Num
namespace Go.Proofs.YtbgodajbdbgdfaaDoor.Sig
open Go.RowKit Go.Proofs.YtbgodajbdbgdfaaDoorW.PrintWords Go.Proofs.YtbgodajbdbgdfaaDoorW.PrintLast Go.Proofs.YtbgodajbdbgdfaaDoor.R Go.Proofs.YtbgodajbdbgdfaaDoor.Num
set_option linter.unusedVariables false
set_option linter.unusedSimpArgs false
theorem is_any (v : Int) (w : World) : Calls Tryd.prog 48 #[.int .i64 v] w fun e w' => e = .returned (.bool (decide (0 < v) && decide (v < 32))) ∧ Below w.heap.size w w' := by
  have h : sig_Is.f v = some (decide (0 < v) && decide (v < 32)) := by
    unfold sig_Is.f
    by_cases h0 : v > 0
    · rw [if_pos h0, decide_eq_true (show 0 < v from h0), Bool.true_and]
    · rw [if_neg h0, decide_eq_false (show ¬ 0 < v from h0), Bool.false_and]
  exact (sig_Is.calls v _ w h).mono fun e w' h => ⟨h.1, h.2.below⟩
theorem ris_any (s : Int) (w : World) : Calls Tryd.prog 51 #[.int .i64 s] w fun e w' => e = .returned (.bool (decide (0 < s) && decide (s < 32))) ∧ Below w.heap.size w w' := by
  have h : deadfallref01_Is.f s = some (decide (0 < s) && decide (s < 32)) := by
    unfold deadfallref01_Is.f
    by_cases h0 : s ≥ 1
    · rw [if_pos h0, decide_eq_true (show 0 < s by omega), Bool.true_and]
      congr 1
      rw [Bool.eq_iff_iff, decide_eq_true_eq, decide_eq_true_eq]; omega
    · rw [if_neg h0, decide_eq_false (show ¬ 0 < s by omega), Bool.false_and]
  exact (deadfallref01_Is.calls s _ w h).mono fun e w' h => ⟨h.1, h.2.below⟩
def mild (s : Int) : Bool := s == 17 || s == 18 || s == 23 || s == 28
def fixed (s : Int) : Bool := s == 9 || s == 19
theorem mild_f (s : Int) : sig_Mild.f s = some (mild s) := by
  unfold sig_Mild.f mild
  by_cases h1 : s = 17
  · subst h1; rfl
  · by_cases h2 : s = 18
    · subst h2; rfl
    · by_cases h3 : s = 23
      · subst h3; rfl
      · rw [if_neg h1, if_neg h2, if_neg h3, beq_eq_false_iff_ne.2 h1, beq_eq_false_iff_ne.2 h2, beq_eq_false_iff_ne.2 h3]
        simp
theorem fixed_f (s : Int) : sig_Fixed.f s = some (fixed s) := by
  unfold sig_Fixed.f fixed
  by_cases h1 : s = 9
  · subst h1; rfl
  · rw [if_neg h1, beq_eq_false_iff_ne.2 h1]
    simp
theorem smild_any (s : Int) (w : World) : Calls Tryd.prog 50 #[.int .i64 s] w fun e w' => e = .returned (.bool (mild s)) ∧ Below w.heap.size w w' := (sig_Mild.calls s _ w (mild_f s)).mono fun e w' h => ⟨h.1, h.2.below⟩
theorem sfixed_any (s : Int) (w : World) : Calls Tryd.prog 33 #[.int .i64 s] w fun e w' => e = .returned (.bool (fixed s)) ∧ Below w.heap.size w w' := (sig_Fixed.calls s _ w (fixed_f s)).mono fun e w' h => ⟨h.1, h.2.below⟩
end Go.Proofs.YtbgodajbdbgdfaaDoor.Sig
/- sets of signals: bits, in plain words. -/
namespace Go.Proofs.YtbgodajbdbgdfaaDoor.Sig
open Go.Lib
set_option linter.unusedVariables false
set_option linter.unusedSimpArgs false
/-- Is it a signal? -/
def isg (s : Int) : Bool := decide (0 < s) && decide (s < 32)
theorem isg_iff {s : Int} : isg s = true ↔ 0 < s ∧ s < 32 := by
  unfold isg; rw [Bool.and_eq_true, decide_eq_true_eq, decide_eq_true_eq]
def wth (x : Nat) (s : Int) : Nat := if isg s = true then x ||| 2 ^ s.toNat else x
def wto (x : Nat) (s : Int) : Nat := if isg s = true then x &&& (4294967295 - 2 ^ s.toNat) else x
def hs (x : Nat) (s : Int) : Bool := isg s && x.testBit s.toNat
def ofL (x : Nat) : List Int → Nat
  | [] => x
  | s :: l => ofL (wth x s) l
theorem pow_lt32 {n : Nat} (h : n < 32) : 2 ^ n < 4294967296 := by
  have := Nat.pow_lt_pow_right (a := 2) (by decide) h
  simpa using this
theorem wth_lt {x : Nat} (s : Int) (h : x < 4294967296) : wth x s < 4294967296 := by
  unfold wth
  split
  · rename_i hi
    have hi := isg_iff.1 hi
    exact Nat.or_lt_two_pow (n := 32) h (pow_lt32 (by omega))
  · exact h
theorem wto_lt {x : Nat} (s : Int) (h : x < 4294967296) : wto x s < 4294967296 := by
  unfold wto
  split
  · exact Nat.lt_of_le_of_lt Nat.and_le_left h
  · exact h
theorem ofL_lt : ∀ (l : List Int) (x : Nat), x < 4294967296 → ofL x l < 4294967296
  | [], x, h => h
  | s :: l, x, h => ofL_lt l _ (wth_lt s h)
theorem ofL_append : ∀ (l m : List Int) (x : Nat), ofL x (l ++ m) = ofL (ofL x l) m
  | [], m, x => rfl
  | s :: l, m, x => ofL_append l m _
theorem wth_bit (x : Nat) (s : Int) (i : Nat) : (wth x s).testBit i = (x.testBit i || (isg s && decide (s.toNat = i))) := by
  unfold wth
  split
  · rename_i h
    rw [Nat.testBit_or, Nat.testBit_two_pow, h, Bool.true_and]
  · rename_i h
    rw [Bool.not_eq_true] at h
    rw [h, Bool.false_and, Bool.or_false]
theorem ofL_keeps : ∀ (l : List Int) (x i : Nat), x.testBit i = true → (ofL x l).testBit i = true
  | [], x, i, h => h
  | s :: l, x, i, h => ofL_keeps l _ i (by rw [wth_bit, h, Bool.true_or])
theorem ofL_hs : ∀ (l : List Int) (x : Nat) (s : Int), s ∈ l → isg s = true → hs (ofL x l) s = true
  | [], x, s, h, _ => absurd h List.not_mem_nil
  | t :: l, x, s, h, hi => by
    rcases List.mem_cons.1 h with rfl | h
    · unfold hs
      rw [hi, Bool.true_and]
      exact ofL_keeps l _ _ (by rw [wth_bit, hi, Bool.true_and, decide_eq_true rfl, Bool.or_true])
    · exact ofL_hs l _ s h hi
theorem ofL_hs_is (l : List Int) (s : Int) (h : s ∈ l) : hs (ofL 0 l) s = isg s := by
  cases hi : isg s with
  | true => exact ofL_hs l 0 s h hi
  | false => unfold hs; rw [hi, Bool.false_and]
/-- Only signals' bits. -/
theorem ofL_zero : ∀ (l : List Int) (x i : Nat), (i = 0 ∨ 32 ≤ i) → x.testBit i = false → (ofL x l).testBit i = false
  | [], x, i, _, h => h
  | s :: l, x, i, hi, h => ofL_zero l _ i hi (by
      rw [wth_bit, h, Bool.false_or]
      cases hg : isg s with
      | false => rfl
      | true =>
        have hg := isg_iff.1 hg
        rw [Bool.true_and]
        exact decide_eq_false (by omega))
theorem wto_hs (x : Nat) (s : Int) : hs (wto x s) s = false := by
  unfold hs
  cases hi : isg s with
  | false => rfl
  | true =>
    have hg := isg_iff.1 hi
    unfold wto
    rw [if_pos hi, Bool.true_and, Nat.testBit_and]
    obtain ⟨n, rfl⟩ : ∃ n : Nat, s = (n : Int) := ⟨s.toNat, by omega⟩
    rw [Int.toNat_natCast]
    have : (4294967295 - 2 ^ n).testBit n = false := by
      have key : ∀ i : Fin 32, (4294967295 - 2 ^ i.val).testBit i.val = false := by decide +kernel
      exact key ⟨n, by omega⟩
    rw [this, Bool.and_false]
theorem wth_hs (x : Nat) (s : Int) : hs (wth x s) s = isg s := by
  unfold hs
  cases hi : isg s with
  | false => rfl
  | true => rw [wth_bit, hi, Bool.true_and, Bool.true_and, decide_eq_true rfl, Bool.or_true]
theorem shape {x : Nat} (h0 : x ≠ 0) (h : x < 4294967296) : ∃ k m, ctz 32 x = k ∧ x = 2 ^ k * (2 * m + 1) ∧ k < 32 := by
  obtain ⟨m, h1, h2⟩ := ctzFrom_spec 32 x (by omega) h
  refine ⟨ctz 32 x, m, rfl, ?_, ?_⟩
  · unfold ctz; rw [if_neg h0]; exact h1
  · unfold ctz; rw [if_neg h0]; exact h2
theorem and_pred (k m : Nat) : (2 ^ k * (2 * m + 1)) &&& (2 ^ k * (2 * m + 1) - 1) = 2 ^ k * (2 * m) := by
  have hp : 0 < 2 ^ k := Nat.two_pow_pos k
  have e1 : 2 ^ k * (2 * m + 1) - 1 = 2 ^ k * (2 * m) + (2 ^ k - 1) := by
    rw [Nat.mul_add, Nat.mul_one]; omega
  apply Nat.eq_of_testBit_eq
  intro i
  rw [e1, Nat.testBit_and, Nat.testBit_two_pow_mul_add _ (by omega), Nat.testBit_two_pow_mul, Nat.testBit_two_pow_mul]
  by_cases hik : k ≤ i
  · rw [if_neg (by omega), decide_eq_true hik, Bool.true_and, Bool.true_and]
    obtain ⟨j, rfl⟩ : ∃ j, i = k + j := ⟨i - k, by omega⟩
    rw [Nat.add_sub_cancel_left]
    cases j with
    | zero => simp [Nat.testBit_zero]
    | succ j => 
      rw [Nat.testBit_succ, Nat.testBit_succ, show (2 * m + 1) / 2 = m by omega, show 2 * m / 2 = m by omega, Bool.and_self]
  · rw [decide_eq_false hik, Bool.false_and, Bool.false_and, Bool.false_and]
theorem or_low (k m : Nat) : 2 ^ k ||| 2 ^ k * (2 * m) = 2 ^ k * (2 * m + 1) := by
  apply Nat.eq_of_testBit_eq
  intro i
  rw [Nat.testBit_or, Nat.testBit_two_pow, Nat.testBit_two_pow_mul, Nat.testBit_two_pow_mul]
  by_cases hik : k ≤ i
  · rw [decide_eq_true hik, Bool.true_and, Bool.true_and]
    obtain ⟨j, rfl⟩ : ∃ j, i = k + j := ⟨i - k, by omega⟩
    rw [Nat.add_sub_cancel_left]
    cases j with
    | zero => simp [Nat.testBit_zero]
    | succ j =>
      rw [Nat.testBit_succ, Nat.testBit_succ, show (2 * m + 1) / 2 = m by omega, show 2 * m / 2 = m by omega, decide_eq_false (by omega), Bool.false_or]
  · rw [decide_eq_false hik, Bool.false_and, Bool.false_and, decide_eq_false (by omega), Bool.or_false]
theorem pred_lt {x : Nat} (h0 : x ≠ 0) : x &&& (x - 1) < x := Nat.lt_of_le_of_lt Nat.and_le_right (by omega)
/-- A set's signals, the least first. -/
def lst (x : Nat) : List Int := if h : x = 0 then [] else (ctz 32 x : Int) :: lst (x &&& (x - 1))
termination_by x
decreasing_by exact pred_lt h
theorem lst_zero : lst 0 = [] := by rw [lst, dif_pos rfl]
theorem lst_pos {x : Nat} (h : x ≠ 0) : lst x = (ctz 32 x : Int) :: lst (x &&& (x - 1)) := by rw [lst, dif_neg h]
theorem lst_len (x : Nat) : (lst x).length ≤ x := by
  induction x using Nat.strongRecOn with
  | _ x ih =>
    by_cases h : x = 0
    · subst h; rw [lst_zero]; exact Nat.le_refl _
    · rw [lst_pos h, List.length_cons]
      have := ih _ (pred_lt h)
      have := pred_lt h
      omega
theorem lst_of (x : Nat) : ∀ acc : Nat, x < 4294967296 → x.testBit 0 = false → ofL acc (lst x) = acc ||| x := by
  induction x using Nat.strongRecOn with
  | _ x ih =>
    intro acc h h1
    by_cases h0 : x = 0
    · subst h0; rw [lst_zero, Nat.or_zero]; rfl
    · obtain ⟨k, m, hk, hx, hlt⟩ := shape h0 h
      have hp : x &&& (x - 1) = 2 ^ k * (2 * m) := by rw [hx]; exact and_pred k m
      have hlt2 := pred_lt h0
      have hk0 : k ≠ 0 := by
        rintro rfl
        rw [hx, Nat.pow_zero, Nat.one_mul, Nat.testBit_zero] at h1
        simp at h1
      have hb : (x &&& (x - 1)).testBit 0 = false := by rw [Nat.testBit_and, h1, Bool.false_and]
      rw [lst_pos h0, hk]
      show ofL (wth acc (k : Int)) (lst (x &&& (x - 1))) = acc ||| x
      rw [ih _ hlt2 _ (by omega) hb]
      unfold wth
      rw [if_pos (isg_iff.2 (by omega)), Int.toNat_natCast, Nat.or_assoc, hp, or_low, ← hx]
def allN : Nat := 4294967294
theorem all_same {x : Nat} (h : x < 4294967296) (h1 : x.testBit 0 = false) : x &&& allN = x := by
  apply Nat.eq_of_testBit_eq
  intro i
  rw [Nat.testBit_and]
  by_cases h0 : i = 0
  · subst h0; rw [h1, Bool.false_and]
  · by_cases h32 : i < 32
    · have key : ∀ i : Fin 31, allN.testBit (i.val + 1) = true := by decide +kernel
      have := key ⟨i - 1, by omega⟩
      rw [show i - 1 + 1 = i by omega] at this
      rw [this, Bool.and_true]
    · have : x.testBit i = false := Nat.testBit_lt_two_pow (Nat.lt_of_lt_of_le h (by
        have := Nat.pow_le_pow_right (n := 2) (by decide) (show 32 ≤ i by omega)
        simpa using this))
      rw [this, Bool.false_and]
theorem back (l : List Int) : ofL 0 (lst (ofL 0 l &&& allN)) = ofL 0 l := by
  have h := ofL_lt l 0 (by decide)
  have h1 := ofL_zero l 0 0 (Or.inl rfl) (by simp)
  rw [all_same h h1, lst_of _ 0 h h1, Nat.zero_or]
end Go.Proofs.YtbgodajbdbgdfaaDoor.Sig
/- sig: With, Without, Has, Of, Least: their contracts. -/
namespace Go.Proofs.YtbgodajbdbgdfaaDoor.Sig
open Go.RowKit Go.Proofs.YtbgodajbdbgdfaaDoorW.PrintWords Go.Proofs.YtbgodajbdbgdfaaDoorW.PrintLast Go.Proofs.YtbgodajbdbgdfaaDoor.R Go.Proofs.YtbgodajbdbgdfaaDoor.Num
set_option linter.unusedVariables false
set_option linter.unusedSimpArgs false
theorem ret_u {a b : Int} (h : a = b) : Ending.returned (.int .u32 a) = .returned (.int .u32 b) := by rw [h]
theorem ret_bb {a b : Bool} (h : a = b) : Ending.returned (.bool a) = .returned (.bool b) := by rw [h]
theorem pow_i (n : Nat) (h : n < 32) : (2 : Int) ^ n % 4294967296 = ((2 ^ n : Nat) : Int) := by
  have e : ((2 : Int) ^ n) = ((2 ^ n : Nat) : Int) := by rw [Int.natCast_pow]; rfl
  rw [e]
  have := pow_lt32 h
  refine Int.emod_eq_of_lt (Int.natCast_nonneg _) ?_
  generalize 2 ^ n = y at this
  omega
set_option maxHeartbeats 2000000 in
set_option maxRecDepth 100000 in
theorem with_any (x : Nat) (s : Int) (w : World) (hx : x < 4294967296) : Calls Tryd.prog 34 #[.int .u32 (x : Int), .int .i64 s] w fun e w' => e = .returned (.int .u32 (wth x s : Nat)) ∧ Below w.heap.size w w' := by
  cases hg : isg s with
  | false =>
    have hw : wth x s = x := by unfold wth; rw [hg]; rfl
    rw [hw]
    have HG := Aside0.mk hg
    clear hg hw
    go_enter Tryd.func34, Tryd.ntmps34
    go_wp2_with (go_at_call 48; (with_reducible refine (is_any s _).mono ?_); rintro e w1 ⟨rfl, hB⟩; rw [show (decide (0 < s) && decide (s < 32)) = false from HG.out]; have HB := Aside0.mk hB; clear hB)
    go_ret
    exact ⟨rfl, HB.out⟩
  | true =>
    have hi := isg_iff.1 hg
    obtain ⟨n, rfl⟩ : ∃ n : Nat, s = (n : Int) := ⟨s.toNat, by omega⟩
    have hw : wth x n = x ||| 2 ^ n := by unfold wth; rw [hg]; rfl
    have h0 : (0 : Int) ≤ (n : Int) := by omega
    have h1 : (n : Int) ≤ 32 := by omega
    have hn : n < 32 := by omega
    have HG := Aside0.mk hg
    have key := Aside0.mk (u32_or_nat x (2 ^ n) hx (pow_lt32 hn))
    have HW := Aside0.mk hw
    have HP := Aside0.mk (pow_i n hn)
    clear hg hw hi
    go_enter Tryd.func34, Tryd.ntmps34
    go_wp2_with (go_at_call 48; (with_reducible refine (is_any (n : Int) _).mono ?_); rintro e w1 ⟨rfl, hB⟩; rw [show (decide (0 < (n : Int)) && decide ((n : Int) < 32)) = true from HG.out]; have HB := Aside0.mk hB; clear hB)
    go_ret
    refine ⟨ret_u ?_, HB.out⟩
    rw [HW.out, ← key.out, ← HP.out]
set_option maxHeartbeats 2000000 in
set_option maxRecDepth 100000 in
theorem wto_any (x : Nat) (s : Int) (w : World) (hx : x < 4294967296) : Calls Tryd.prog 54 #[.int .u32 (x : Int), .int .i64 s] w fun e w' => e = .returned (.int .u32 (wto x s : Nat)) ∧ Below w.heap.size w w' := by
  cases hg : isg s with
  | false =>
    have hw : wto x s = x := by unfold wto; rw [hg]; rfl
    rw [hw]
    have HG := Aside0.mk hg
    clear hg hw
    go_enter Tryd.func54, Tryd.ntmps54
    go_wp2_with (go_at_call 48; (with_reducible refine (is_any s _).mono ?_); rintro e w1 ⟨rfl, hB⟩; rw [show (decide (0 < s) && decide (s < 32)) = false from HG.out]; have HB := Aside0.mk hB; clear hB)
    go_ret
    exact ⟨rfl, HB.out⟩
  | true =>
    have hi := isg_iff.1 hg
    obtain ⟨n, rfl⟩ : ∃ n : Nat, s = (n : Int) := ⟨s.toNat, by omega⟩
    have hw : wto x n = x &&& (4294967295 - 2 ^ n) := by unfold wto; rw [hg]; rfl
    have h0 : (0 : Int) ≤ (n : Int) := by omega
    have h1 : (n : Int) ≤ 32 := by omega
    have hn : n < 32 := by omega
    have HG := Aside0.mk hg
    have key := Aside0.mk (u32_andNot_nat x (2 ^ n) hx (pow_lt32 hn))
    have HW := Aside0.mk hw
    have HP := Aside0.mk (pow_i n hn)
    clear hg hw hi
    go_enter Tryd.func54, Tryd.ntmps54
    go_wp2_with (go_at_call 48; (with_reducible refine (is_any (n : Int) _).mono ?_); rintro e w1 ⟨rfl, hB⟩; rw [show (decide (0 < (n : Int)) && decide ((n : Int) < 32)) = true from HG.out]; have HB := Aside0.mk hB; clear hB)
    go_ret
    refine ⟨ret_u ?_, HB.out⟩
    rw [HW.out, ← key.out, ← HP.out]
theorem has_key (x n : Nat) (hx : x < 4294967296) : (bits .and .u32 (((x / 2 ^ n : Nat)) : Int) 1 == 1) = x.testBit n := by
  have h : x / 2 ^ n < 4294967296 := Nat.lt_of_le_of_lt (Nat.div_le_self _ _) hx
  have e := u32_and_nat (x / 2 ^ n) 1 h (by decide)
  have e1 : ((1 : Nat) : Int) = 1 := rfl
  rw [e1] at e
  rw [e, Nat.testBit_eq_decide_div_mod_eq, ← Nat.and_one_is_mod, Bool.eq_iff_iff, beq_iff_eq, decide_eq_true_eq]
  constructor
  · intro h; exact_mod_cast h
  · intro h; exact_mod_cast h
set_option maxHeartbeats 2000000 in
set_option maxRecDepth 100000 in
theorem has_any (x : Nat) (s : Int) (w : World) (hx : x < 4294967296) : Calls Tryd.prog 49 #[.int .u32 (x : Int), .int .i64 s] w fun e w' => e = .returned (.bool (hs x s)) ∧ Below w.heap.size w w' := by
  cases hg : isg s with
  | false =>
    have hw : hs x s = false := by unfold hs; rw [hg]; rfl
    rw [hw]
    have HG := Aside0.mk hg
    clear hg hw
    go_enter Tryd.func49, Tryd.ntmps49
    go_wp2_with (go_at_call 48; (with_reducible refine (is_any s _).mono ?_); rintro e w1 ⟨rfl, hB⟩; rw [show (decide (0 < s) && decide (s < 32)) = false from HG.out]; have HB := Aside0.mk hB; clear hB)
    go_ret
    exact ⟨rfl, HB.out⟩
  | true =>
    have hi := isg_iff.1 hg
    obtain ⟨n, rfl⟩ : ∃ n : Nat, s = (n : Int) := ⟨s.toNat, by omega⟩
    have hw : hs x n = x.testBit n := by unfold hs; rw [hg]; rfl
    have h0 : (0 : Int) ≤ (n : Int) := by omega
    have h1 : (n : Int) ≤ 32 := by omega
    have hn : n < 32 := by omega
    have HG := Aside0.mk hg
    have key := Aside0.mk (has_key x n hx)
    have HW := Aside0.mk hw
    clear hg hw hi
    go_enter Tryd.func49, Tryd.ntmps49
    go_wp2_with (go_at_call 48; (with_reducible refine (is_any (n : Int) _).mono ?_); rintro e w1 ⟨rfl, hB⟩; rw [show (decide (0 < (n : Int)) && decide ((n : Int) < 32)) = true from HG.out]; have HB := Aside0.mk hB; clear hB)
    go_ret
    refine ⟨ret_bb ?_, HB.out⟩
    rw [HW.out, ← key.out, show ((x / 2 ^ n : Nat) : Int) = (x : Int) / 2 ^ n by rw [Int.natCast_ediv, Int.natCast_pow]; rfl]
end Go.Proofs.YtbgodajbdbgdfaaDoor.Sig
/- A region that draws its order, walked in one order of the prover's choice: what may be taken first is told in a list of kinds, checked by one closed fact; the tail is an ordinary row of operations. -/
namespace Go.Proofs.YtbgodajbdbgdfaaDoor.Seq
open Go Go.RowKit Go.Proofs.YtbgodajbdbgdfaaDoorW.PrintLast

/-- pure: yields whatever the world; held: yields in every world that meets S; one: alone ready, S is shown behind it; last: alone ready, nothing is shown behind it. -/
inductive K where
  | pure | held | one | last

section
variable {P : Program} {ops : Array Oper} {Q : Exit → Act → World → Prop} {md : Region.Mode} {S : World → Prop} {ds : List Nat}

/-- i: the operation's number; N: its destination. -/
def wpSeq (P : Program) (ops : Array Oper) (Q : Exit → Act → World → Prop) (S : World → Prop) : List (Nat × Option Tmp × K) → Act → World → Prop
  | [], a, w => Q .normal a w
  | (i, N, .pure) :: r, a, w => ∃ o v, ops[i]? = some o ∧ (∀ c a w, Q (.panic c) (a.put N v) w → Q (.panic c) a w) ∧ Yields P ops o v a ∧ wpSeq P ops Q S r (a.put N v) w
  | (i, N, .held) :: r, a, w => ∃ o v, ops[i]? = some o ∧ (∀ c a w, Q (.panic c) (a.put N v) w → Q (.panic c) a w) ∧ YieldsIf P ops S o v a ∧ S w ∧ wpSeq P ops Q S r (a.put N v) w
  | (i, _, .one) :: r, a, w => wpOp P ops Q i (fun a' w' => (S w → S w') ∧ wpSeq P ops Q S r a' w') a w
  | (i, _, .last) :: r, a, w => wpOp P ops Q i (fun a' w' => wpSeq P ops Q S r a' w') a w

def dstB (ops : Array Oper) (i : Nat) (N : Option Tmp) : Bool := match ops[i]? with
  | some o => o.dst == N
  | none => false
theorem dst_of {i : Nat} {N : Option Tmp} {o : Oper} (h : dstB ops i N = true) (ho : ops[i]? = some o) : o.dst = N := by
  unfold dstB at h
  rw [ho] at h
  simpa using h
def checkB (md : Region.Mode) (ops : Array Oper) (ds : List Nat) : Array Bool → List (Nat × Option Tmp × K) → Bool
  | l, [] => Region.ready md ops l == []
  | l, (i, N, .pure) :: r => anyB md ops l (l.setIfInBounds i true) i && dstB ops i N && checkB md ops ds (l.setIfInBounds i true) r
  | l, (i, N, .held) :: r => takeB md ops ds l (l.setIfInBounds i true) i && dstB ops i N && checkB md ops ds (l.setIfInBounds i true) r
  | l, (i, N, .one) :: r => Region.ready md ops l == [i] && !ds.contains i && dstB ops i N && checkB md ops ds (l.setIfInBounds i true) r
  | l, (i, N, .last) :: r => Region.ready md ops l == [i] && ds.contains i && dstB ops i N && checkB md ops ds (l.setIfInBounds i true) r

theorem seq_sound : ∀ (ks : List (Nat × Option Tmp × K)) (l : Array Bool) (a : Act) (w : World), checkB md ops ds l ks = true → wpSeq P ops Q S ks a w → wpAnyLast P md ops Q S ds ks.length l a w
  | [], l, a, w, hc, h => wpAnyLast_done (by simpa [checkB] using hc) h 0
  | (i, N, .pure) :: r, l, a, w, hc, h => by
    simp only [checkB, Bool.and_eq_true] at hc
    obtain ⟨o, v, ho, hQ, hy, h⟩ := h
    have hN := dst_of hc.1.2 ho
    exact pure_ (l.setIfInBounds i true) ho hN hc.1.1 (by rw [hN]; exact hQ) hy rfl (seq_sound r _ _ _ hc.2 h)
  | (i, N, .held) :: r, l, a, w, hc, h => by
    simp only [checkB, Bool.and_eq_true] at hc
    obtain ⟨o, v, ho, hQ, hy, hS, h⟩ := h
    have hN := dst_of hc.1.2 ho
    exact take_ (l.setIfInBounds i true) ho hN hc.1.1 (by rw [hN]; exact hQ) hy hS rfl (seq_sound r _ _ _ hc.2 h)
  | (i, N, .one) :: r, l, a, w, hc, h => by
    simp only [checkB, Bool.and_eq_true, beq_iff_eq] at hc
    obtain ⟨⟨⟨h1, h2⟩, _⟩, h3⟩ := hc
    refine wpAnyLast_all h1 (by simp) fun j hj => ?_
    obtain rfl : j = i := by simpa using hj
    exact wpOp_mono (fun a' w' h' => ⟨fun _ => h'.1, seq_sound r _ _ _ h3 h'.2⟩) h
  | (i, N, .last) :: r, l, a, w, hc, h => by
    simp only [checkB, Bool.and_eq_true, beq_iff_eq] at hc
    obtain ⟨⟨⟨h1, h2⟩, _⟩, h3⟩ := hc
    refine wpAnyLast_all h1 (by simp) fun j hj => ?_
    obtain rfl : j = i := by simpa using hj
    exact wpOp_mono (fun a' w' h' => ⟨fun hn => absurd (by simpa using h2) hn, seq_sound r _ _ _ h3 h'⟩) h

/-- The region by a list of kinds. -/
theorem region_seq {id : Nat} {a : Act} {w : World} (S : World → Prop) (ds : List Nat) (ks : List (Nat × Option Tmp × K)) (hm : P.follows .mixedOrders = true)
    (hc : (ks.length == ops.size && checkB .any ops ds (Array.replicate ops.size false) ks) = true) (h : wpSeq P ops Q S ks a w.drew) : (Code.region id ops true).wp P Q a w := by
  rw [Bool.and_eq_true] at hc
  refine wp_region_last (S := S) (ds := ds) hm ?_
  have := seq_sound (P := P) (Q := Q) (S := S) ks _ _ _ hc.2 h
  rw [beq_iff_eq.1 hc.1] at this
  exact this

theorem s_pure {i : Nat} {N : Option Tmp} {r : List (Nat × Option Tmp × K)} {o : Oper} {v : Value} {a a' : Act} {w : World} (ho : ops[i]? = some o) (hQ : ∀ c a w, Q (.panic c) (a.put N v) w → Q (.panic c) a w)
    (hw : Region.wanted o (yielded ops a.tmps) = true) (hy : ∀ w, (execOp a.eval o).run P w = .ok (.value v) w) (ha : a.put N v = a') (h : wpSeq P ops Q S r a' w) : wpSeq P ops Q S ((i, N, .pure) :: r) a w := by
  subst ha; exact ⟨o, v, ho, hQ, .inl ⟨hw, hy⟩, h⟩
theorem s_held {i : Nat} {N : Option Tmp} {r : List (Nat × Option Tmp × K)} {o : Oper} {v : Value} {a a' : Act} {w : World} (hS : S w) (ho : ops[i]? = some o) (hQ : ∀ c a w, Q (.panic c) (a.put N v) w → Q (.panic c) a w)
    (hw : Region.wanted o (yielded ops a.tmps) = true) (hy : ∀ w, S w → (execOp a.eval o).run P w = .ok (.value v) w) (ha : a.put N v = a') (h : wpSeq P ops Q S r a' w) : wpSeq P ops Q S ((i, N, .held) :: r) a w := by
  subst ha; exact ⟨o, v, ho, hQ, .inl ⟨hw, hy⟩, hS, h⟩
/-- The guard is off. -/
theorem s_off {i : Nat} {N : Option Tmp} {r : List (Nat × Option Tmp × K)} {o : Oper} {a a' : Act} {w : World} (ho : ops[i]? = some o) (hQ : ∀ c a w, Q (.panic c) (a.put N undef) w → Q (.panic c) a w)
    (hw : Region.wanted o (yielded ops a.tmps) = false) (ha : a.put N undef = a') (h : wpSeq P ops Q S r a' w) : wpSeq P ops Q S ((i, N, .pure) :: r) a w := by
  subst ha; exact ⟨o, undef, ho, hQ, .inr ⟨hw, rfl⟩, h⟩
theorem s_offHeld {i : Nat} {N : Option Tmp} {r : List (Nat × Option Tmp × K)} {o : Oper} {a a' : Act} {w : World} (hS : S w) (ho : ops[i]? = some o) (hQ : ∀ c a w, Q (.panic c) (a.put N undef) w → Q (.panic c) a w)
    (hw : Region.wanted o (yielded ops a.tmps) = false) (ha : a.put N undef = a') (h : wpSeq P ops Q S r a' w) : wpSeq P ops Q S ((i, N, .held) :: r) a w := by
  subst ha; exact ⟨o, undef, ho, hQ, .inr ⟨hw, rfl⟩, hS, h⟩
theorem s_one {i : Nat} {N : Option Tmp} {r : List (Nat × Option Tmp × K)} {o : Oper} {a : Act} {w : World} (ho : ops[i]? = some o) (hw : Region.wanted o (yielded ops a.tmps) = true)
    (h : ∀ K : Act → World → Prop, Shut (∀ a' w', S w' → wpSeq P ops Q S r a' w' → K a' w') → o.wp P a w K Q) : wpSeq P ops Q S ((i, N, .one) :: r) a w := by
  unfold wpSeq wpOp
  simp only [ho, hw, if_true]
  exact .inl (h _ (fun a' w' hS hk => ⟨fun _ => hS, hk⟩))
theorem s_new {i : Nat} {N : Option Tmp} {r : List (Nat × Option Tmp × K)} {o : Oper} {v : Value} {a a' : Act} {w w1 : World} (ho : ops[i]? = some o) (hN : o.dst = N) (hw : Region.wanted o (yielded ops a.tmps) = true)
    (hrun : (execOp a.eval o).run P w = .ok (.value v) w1) (ha : a.put N v = a') (hS : S w1) (h : wpSeq P ops Q S r a' w1) : wpSeq P ops Q S ((i, N, .one) :: r) a w := by
  subst ha
  subst hN
  refine s_one ho hw fun K hK => ?_
  unfold Oper.wp
  rw [hrun]
  exact hK _ _ hS h
/-- The tail: an ordinary row. -/
def tailB (ops : Array Oper) : Nat → List (Nat × Option Tmp × K) → Bool
  | n, [] => decide (ops.size ≤ n)
  | n, (i, _, .last) :: r => i == n && n < ops.size && tailB ops (n + 1) r
  | _, _ => false
theorem s_tail : ∀ (n : Nat) (r : List (Nat × Option Tmp × K)) {a : Act} {w : World}, tailB ops n r = true → wpList P ops Q (ops.toList.drop n) a w → wpSeq P ops Q S r a w
  | n, [], a, w, ht, h => by
    simp only [tailB, decide_eq_true_eq] at ht
    rw [List.drop_of_length_le (by simpa using ht)] at h
    exact h
  | n, (i, _, .last) :: r, a, w, ht, h => by
    simp only [tailB, Bool.and_eq_true, beq_iff_eq, decide_eq_true_eq] at ht
    obtain ⟨⟨rfl, hlt⟩, ht⟩ := ht
    have ho : ops[i]? = some ops[i] := Array.getElem?_eq_getElem hlt
    have hd : ops.toList.drop i = ops[i] :: ops.toList.drop (i + 1) := by
      rw [List.drop_eq_getElem_cons (by simpa using hlt)]
      simp
    rw [hd] at h
    unfold wpSeq wpOp
    simp only [ho]
    unfold wpList at h
    split
    · rename_i hw
      simp only [hw, if_true] at h
      exact h.imp (Oper.wp_mono fun a w hk => s_tail (i + 1) r ht hk) id
    · rename_i hw
      simp only [hw] at h
      exact s_tail (i + 1) r ht h
  | n, (i, _, .pure) :: r, a, w, ht, h => by simp [tailB] at ht
  | n, (i, _, .held) :: r, a, w, ht, h => by simp [tailB] at ht
  | n, (i, _, .one) :: r, a, w, ht, h => by simp [tailB] at ht
end
end Go.Proofs.YtbgodajbdbgdfaaDoor.Seq
/- small laws on rows and worlds. -/
namespace Go.Proofs.YtbgodajbdbgdfaaDoor.Base
open Go.RowKit Go.Proofs.YtbgodajbdbgdfaaDoorW.PrintWords Go.Proofs.YtbgodajbdbgdfaaDoorW.PrintLast
set_option linter.unusedVariables false
abbrev ok0 : Nat → Prop := fun _ => True
theorem R_slice3 {α : Type} {d : Kd α} {e : Nat} {w : World} {base : Nat} {ok : Nat → Prop} {v : Value} {xs : List α} (h : d.R e w base ok v xs) : ∃ A n c, v = .slice A n c := by
  obtain ⟨A, c, h⟩ := Kd.R_slice h
  exact ⟨A, _, c, h⟩

theorem R_C {α : Type} {d : Kd α} {e : Nat} {w : World} {base : Nat} {ok : Nat → Prop} {A : Option Addr} {n c : Nat} {xs : List α} (h : d.R e w base ok (.slice A n c) xs) : d.C w A n xs := by
  obtain ⟨rfl, _, h⟩ := Kd.R_reads' h
  exact h
theorem str_ne_empty {s : ByteArray} (h : s.size ≠ 0) : s.toList ≠ [] ∧ (s.toList == []) = false ∧ s.toList.isEmpty = false := by
  have h1 : s.toList.length ≠ 0 := by
    rw [ByteArray.toList_eq, data_length]
    exact h
  cases hl : s.toList with
  | nil => rw [hl] at h1; exact absurd rfl h1
  | cons c l => exact ⟨by simp, rfl, rfl⟩
theorem str_app (l : List UInt8) (s : ByteArray) : (⟨l.toArray⟩ : ByteArray) ++ s = ⟨(l ++ s.data.toList).toArray⟩ := by
  apply ByteArray.ext
  rw [ByteArray.data_append]
  simp
theorem below_trans {B : Nat} {w w1 w2 : World} (h : Below B w w1) (k : Below B w1 w2) : Below B w w2 := h.trans k
theorem below_sub {B B' : Nat} {w w1 : World} (h : Below B w w1) (hB : B' ≤ B) : Below B' w w1 := ⟨h.os, h.tape, h.output, h.size, fun i hi => h.block i (Nat.lt_of_lt_of_le hi hB)⟩
theorem bt_nat (s : ByteArray) (k : Nat) : ∀ h : k < s.size, ((s[k]'h).toNat : Int) = bt s k := fun h => by simp [bt, h]
section
variable {P : Program} {ops : Array Oper} {rest : List Oper} {o : Oper} {a : Act} {Q : Exit → Act → World → Prop}
/-- append(bytes, text...): 'hd' picks the operation. -/
theorem R_append_str {w0 W : World} (base : Nat) {N : Tmp} (_hd : o.dst = some N) (hgd : o.guard = none) (s x : Operand) (t u e : TypeId)
    (ho : o.op = .call { callee := .builtin .append, args := #[s, x], argTypes := #[t, u] })
    (ht : P.underlying t = some (.slice e)) (hu : P.underlying u = some .string) (hinfo : (P.info? e).map (fun i => (i.zero, i.size, i.bytes)) = some (some (.int .u8 0), 1, 1))
    (v : Value) (xs : List Int) (y : ByteArray) (hs : a.eval s = v) (hx : a.eval x = .string y)
    (HO : (Kd.int .u8).R e W base ok0 v xs) (HB : Below base w0 W) (hbase : base ≤ W.heap.size) (hl : xs.length + y.size ≤ 140737488355328)
    (h : ∀ v1 w1, (Kd.int .u8).R e w1 base ok0 v1 (xs ++ bytesOf y) → Below base w0 w1 → W.grownBy w1 v.ownBlock → wpList P ops Q rest (a.put o.dst v1) w1) :
    wpList P ops Q (o :: rest) a W := by
  refine print_append_str base hgd s x t u e ho ht hu hinfo v xs y hs hx (Kd.own_of_R (enc := Value.int .u8) (h1 := fun _ => rfl) HO) HB hbase hl ?_
  intro v1 w1 hown hB hG
  exact h v1 w1 (Kd.R_of_own (enc := Value.int .u8) (h1 := fun _ => rfl) hown (fun _ _ => trivial)) hB hG
end
theorem below_at {w W : World} (h : Below w.heap.size w W) {i : Nat} (hi : i < w.heap.size) : W.heap[i]? = w.heap[i]? := h.block i hi
/-- api.Piece -/
structure Piece where
  text : ByteArray
  quoted : Bool
  cut : Bool
instance : Inhabited Piece := ⟨⟨⟨#[]⟩, false, false⟩⟩
def kPiece : Kd Piece := Kd.iso (Kd.pair Kd.string (Kd.pair Kd.bool Kd.bool)) (fun x : Piece => (x.text, x.quoted, x.cut))
theorem kPiece_open {w : World} {x : Piece} {cs : List Value} (h : kPiece.K w x cs) : cs = [.string x.text, .bool x.quoted, .bool x.cut] := by
  obtain ⟨_, _, rfl, rfl, ⟨_, _, rfl, rfl, rfl⟩⟩ := h
  exact rfl
theorem kPiece_mk (w : World) (x : Piece) : kPiece.K w x [.string x.text, .bool x.quoted, .bool x.cut] := ⟨[.string x.text], [.bool x.quoted, .bool x.cut], rfl, rfl, ⟨[.bool x.quoted], [.bool x.cut], rfl, rfl, rfl⟩⟩
theorem kPiece_mkM (w : World) (base : Nat) (ok : Nat → Prop) (x : Piece) : kPiece.M w base ok x [.string x.text, .bool x.quoted, .bool x.cut] := ⟨[.string x.text], [.bool x.quoted, .bool x.cut], rfl, rfl, ⟨[.bool x.quoted], [.bool x.cut], rfl, rfl, rfl⟩⟩
/-- An element of a row that is read, at a Nat. -/
theorem at_piece {w : World} {A : Option Addr} {n : Nat} {xs : List Piece} (h : Kd.C kPiece w A n xs) (i : Nat) (hi : i < xs.length) : ∃ ad, A = some ad ∧ w.cell? (ad.add (i * 3)) = some (.string xs[i].text) ∧ w.cell? ⟨(ad.add (i * 3)).block, (ad.add (i * 3)).off + 1, none⟩ = some (.bool xs[i].quoted) ∧ w.cell? ⟨(ad.add (i * 3)).block, (ad.add (i * 3)).off + 2, none⟩ = some (.bool xs[i].cut) := by
  obtain ⟨ad, c, e, _, hK, hc0⟩ := Kd.C_get h default (i : Int) (by omega) (by have := h.1; omega)
  rw [Int.toNat_natCast] at hK hc0
  have hc : ∀ j u, c[j]? = some u → w.cell? (ad.add (i * 3 + j)) = some u := hc0
  have hd : xs.getD i default = xs[i] := by simp [List.getD_eq_getElem?_getD, List.getElem?_eq_getElem hi]
  rw [hd] at hK
  obtain rfl := kPiece_open hK
  exact ⟨ad, e, hc 0 _ rfl, by rw [← add_field _ _ 1 (by omega)]; exact hc 1 _ rfl, by rw [← add_field _ _ 2 (by omega)]; exact hc 2 _ rfl⟩
theorem C_one {α : Type} {d : Kd α} {w : World} {g t : Nat} {cs : Array Value} {p : α} (hg : w.heap[g]? = some (.cells cs t (0, 0))) (hK : d.K w p cs.toList) : d.C w (some ⟨g, 0, none⟩) 1 [p] := by
  refine ⟨rfl, by omega, fun _ => ⟨_, rfl, fun j q hj => ?_⟩⟩
  have hj0 : j = 0 := by
    have := (List.getElem?_eq_some_iff.1 hj).1
    simp at this
    exact this
  subst hj0
  have hq : p = q := by simpa using hj
  subst hq
  refine ⟨cs.toList, d.K_len hK, hK, fun i u hu => ?_⟩
  rw [Nat.zero_mul, Nat.zero_add, add_plain, blk_cell hg]
  simpa using hu
theorem at_str {w : World} {A : Option Addr} {n : Nat} {xs : List ByteArray} (h : Kd.string.C w A n xs) (i : Nat) (hi : i < xs.length) : ∃ ad, A = some ad ∧ w.cell? (ad.add i) = some (.string xs[i]) := by
  obtain ⟨ad, e, hc⟩ := Kd.at_string h (i : Int) (by omega) (by have := h.1; omega)
  refine ⟨ad, e, ?_⟩
  rw [Int.toNat_natCast] at hc
  rw [hc]
  simp [rdOf, List.getD_eq_getElem?_getD, List.getElem?_eq_getElem hi]
/-- Elements without rows of their own: read is made. -/
def Flat {α : Type} (d : Kd α) : Prop := ∀ w W base ok x cs, d.K w x cs → d.M W base ok x cs
theorem flat_piece : Flat kPiece := fun w W base ok x cs h => by
  obtain rfl := kPiece_open h
  exact kPiece_mkM _ _ _ _
theorem flat_string : Flat Kd.string := fun _ _ _ _ _ _ h => h
theorem flat_int (k : IntKind) : Flat (Kd.int k) := fun _ _ _ _ _ _ h => h
theorem flat_bool : Flat Kd.bool := fun _ _ _ _ _ _ h => h
theorem R_empty {α : Type} {d : Kd α} {w : World} {base g e : Nat} (hg : w.heap[g]? = some (.cells #[] e (0, 0))) (hb : base ≤ g) : d.R e w base ok0 (.slice (some ⟨g, 0, none⟩) 0 0) [] :=
  ⟨fun _ _ => trivial, [], ⟨by simp, .inr ⟨g, 0, #[], rfl, hb, hg, Nat.le_refl _, by simp, by simp, by simp⟩⟩, Reps.none _ _⟩
section
variable {P : Program} {ops : Array Oper} {rest : List Oper} {o : Oper} {a : Act} {Q : Exit → Act → World → Prop}
/-- append(xs, ys...) of flat elements. -/
theorem R_app {α : Type} (d : Kd α) (hflat : Flat d) {w0 W : World} (base : Nat) {N : Tmp} (_hd : o.dst = some N) (hgd : o.guard = none) (s x : Operand) (t e : TypeId) (z : Value) (bytes : Nat)
    (ho : o.op = .call { callee := .builtin .append, args := #[s, x], argTypes := #[t, t] })
    (ht : P.underlying t = some (.slice e)) (hinfo : (P.info? e).map (fun i => (i.zero, i.size, i.bytes)) = some (some z, d.sz, bytes)) (hz : z.cells.size = d.sz) (hs0 : 0 < d.sz) (hb0 : 0 < bytes)
    (v : Value) (xs ys : List α) (A : Option Addr) (m c : Nat) (hs : a.eval s = v) (hx : a.eval x = .slice A m c)
    (HO : d.R e W base ok0 v xs) (HR : d.C W A m ys) (HB : Below base w0 W) (hbase : base ≤ W.heap.size) (hl : (xs.length + m) * bytes ≤ 140737488355328)
    (h : ∀ v1 w1, d.R e w1 base ok0 v1 (xs ++ ys) → Below base w0 w1 → W.grownBy w1 v.ownBlock → wpList P ops Q rest (a.put o.dst v1) w1) :
    wpList P ops Q (o :: rest) a W :=
  Kd.R_append_rows d base hgd s x t e z bytes ho ht hinfo hz hs0 hb0 v xs ys A m c ok0 (fun _ => False) hs hx HO HR (fun x cs hk => hflat W W base _ x cs hk) (fun _ h => h.elim) (fun _ _ => trivial) HB hbase hl (fun v1 w1 hR hB hG _ => h v1 w1 hR hB hG)
end
end Go.Proofs.YtbgodajbdbgdfaaDoor.Base
/- sig: Of, Least, List: their contracts. -/
namespace Go.Proofs.YtbgodajbdbgdfaaDoor.Sig
open Go.RowKit Go.Proofs.YtbgodajbdbgdfaaDoorW.PrintWords Go.Proofs.YtbgodajbdbgdfaaDoorW.PrintLast Go.Proofs.YtbgodajbdbgdfaaDoor.R Go.Proofs.YtbgodajbdbgdfaaDoor.Base
set_option linter.unusedVariables false
set_option linter.unusedSimpArgs false
theorem at_i64 {w : World} {A : Option Addr} {n : Nat} {xs : List Int} (h : Kd.C (Kd.int .i64) w A n xs) (i : Nat) (hi : i < xs.length) : ∃ ad, A = some ad ∧ w.cell? (ad.add i) = some (.int .i64 xs[i]) := by
  obtain ⟨ad, c, e, _, hK, hc0⟩ := Kd.C_get h 0 (i : Int) (by omega) (by have := h.1; omega)
  rw [Int.toNat_natCast] at hK hc0
  have hd : xs.getD i 0 = xs[i] := by simp [List.getD_eq_getElem?_getD, List.getElem?_eq_getElem hi]
  rw [hd] at hK
  obtain rfl : c = [.int .i64 xs[i]] := hK
  refine ⟨ad, e, ?_⟩
  have := hc0 0 _ rfl
  rw [show i * (Kd.int .i64).sz + 0 = i by show i * 1 + 0 = i; omega] at this
  exact this
theorem ofL_succ (l : List Int) (k : Nat) (h : k < l.length) : ofL 0 (l.take (k + 1)) = wth (ofL 0 (l.take k)) l[k] := by
  rw [List.take_succ_eq_append_getElem h, ofL_append]; rfl
/-- What bits' table holds. -/
def TabB (w : World) : Prop := TabAt 0 Lib.deBruijn32tab w
theorem tabB_below {w w' : World} (h : TabB w) (hb : Below w.heap.size w w') : TabB w' := fun j hj => pw_cell_below hb (h j hj)
theorem and_all (x : Nat) (hx : x < 4294967296) : bits .and .u32 (x : Int) 4294967294 = ((x &&& allN : Nat) : Int) := u32_and_nat x 4294967294 hx (by decide)
theorem all_lt {x : Nat} : x &&& allN < 4294967296 := Nat.lt_of_le_of_lt Nat.and_le_right (by decide)
theorem all_twice (x : Nat) : (x &&& allN) &&& allN = x &&& allN := by rw [Nat.and_assoc, Nat.and_self]
set_option maxHeartbeats 2000000 in
set_option maxRecDepth 100000 in
theorem tz_core (x k idx : Nat) (w : World) (hx0 : ((x : Int) == 0) = false)
    (key : bits BinOp.and IntKind.u32 (x : Int) (-(x : Int) % 4294967296) * 125613361 % 4294967296 / 134217728 = (idx : Int))
    (hi : idx < 32) (hk : k < 32) (hcell : w.cell? ⟨0, idx, none⟩ = some (.int .u8 k)) :
    Calls Tryd.prog 64 #[.int .u32 (x : Int)] w fun e w' => e = .returned (.int .i64 k) ∧ w' = w := by
  go_enter Tryd.func64, Tryd.ntmps64
  go_wp2_with (simp only [key])
  go_ret
  exact ⟨rfl, rfl⟩
theorem tz_any (x : Nat) (w : World) (hx : x < 4294967296) (hx0 : x ≠ 0) (hT : TabB w) : Calls Tryd.prog 64 #[.int .u32 (x : Int)] w fun e w' => e = .returned (.int .i64 (Lib.ctz 32 x : Nat)) ∧ w' = w := by
  obtain ⟨hlow, hk⟩ := Lib.lowest_bit 32 x hx0 hx
  obtain ⟨hi, htab⟩ := Lib.deBruijn32_at _ hk
  have hcell := hT _ hi
  rw [htab] at hcell
  exact tz_core x _ _ w (by simp; omega) (tz32_key x _ hx hx0 hlow) hi hk hcell
set_option maxHeartbeats 2000000 in
set_option maxRecDepth 100000 in
theorem least_any (x : Nat) (w : World) (hx : x < 4294967296) (h0 : x ≠ 0) (h1 : x &&& allN = x) (ht : TabB w) : Calls Tryd.prog 57 #[.int .u32 (x : Int)] w fun e w' => e = .returned (.int .i64 (Lib.ctz 32 x : Nat)) ∧ Below w.heap.size w w' := by
  have key := and_all x hx
  rw [h1] at key
  have hz : ((x : Int) == 0) = false := beq_eq_false_iff_ne.2 (by omega)
  have HT := Aside0.mk ht
  have HX := Aside0.mk hx
  have H0 := Aside0.mk h0
  have hw : IntKind.u32.wrap (x : Int) = (x : Int) := by rw [wrap_u32']; omega
  clear h1 ht
  go_enter Tryd.func57, Tryd.ntmps57
  go_wp2_with (first
    | (simp only [key])
    | (go_at_call 64; (with_reducible refine (tz_any x _ HX.out H0.out HT.out).mono ?_); rintro e w1 ⟨rfl, rfl⟩))
  go_ret
  exact ⟨rfl, Below.refl _ _⟩
end Go.Proofs.YtbgodajbdbgdfaaDoor.Sig
/- kern: processes, in plain words. -/
namespace Go.Proofs.YtbgodajbdbgdfaaDoor.Kern
open Go.Proofs.YtbgodajbdbgdfaaDoor.Sig
set_option linter.unusedVariables false
set_option linter.unusedSimpArgs false
def md (s : Int) : Bool := s == 17 || s == 18 || s == 23 || s == 28
def fx (s : Int) : Bool := s == 9 || s == 19
theorem ofL_bit : ∀ (l : List Int) (x i : Nat), (ofL x l).testBit i = (x.testBit i || l.any fun s => isg s && decide (s.toNat = i))
  | [], x, i => by
    show x.testBit i = (x.testBit i || false)
    rw [Bool.or_false]
  | s :: l, x, i => by
    show (ofL (wth x s) l).testBit i = _
    rw [ofL_bit l, wth_bit, List.any_cons, Bool.or_assoc]
/-- What is ignored from the beginning on. -/
def flt (x : Nat) : Nat := ofL 0 ((lst (x &&& allN)).filter fun s => !fx s)
theorem flt_lt (x : Nat) : flt x < 4294967296 := ofL_lt _ _ (by decide)
theorem any_filter (l : List Int) (i : Nat) : ((l.filter fun s => !fx s).any fun s => isg s && decide (s.toNat = i)) = ((l.any fun s => isg s && decide (s.toNat = i)) && !fx (i : Int)) := by
  induction l with
  | nil => rfl
  | cons s l ih =>
    rw [List.any_cons, Bool.and_or_distrib_right, ← ih]
    cases hf : fx s with
    | true =>
      rw [List.filter_cons_of_neg (by rw [hf]; decide)]
      cases hg : isg s && decide (s.toNat = i) with
      | false => rw [Bool.false_and, Bool.false_or]
      | true =>
        rw [Bool.and_eq_true, decide_eq_true_eq] at hg
        have := isg_iff.1 hg.1
        have e : s = (i : Int) := by omega
        rw [← e, hf]; rfl
    | false =>
      rw [List.filter_cons_of_pos (by rw [hf]; decide), List.any_cons]
      cases hg : isg s && decide (s.toNat = i) with
      | false => rw [Bool.false_and]
      | true =>
        rw [Bool.and_eq_true, decide_eq_true_eq] at hg
        have := isg_iff.1 hg.1
        have e : s = (i : Int) := by omega
        rw [← e, hf]; rfl
theorem and_all_bit (x i : Nat) (h1 : 1 ≤ i) (h2 : i < 32) : (x &&& allN).testBit i = x.testBit i := by
  rw [Nat.testBit_and]
  have key : ∀ i : Fin 31, allN.testBit (i.val + 1) = true := by decide +kernel
  have := key ⟨i - 1, by omega⟩
  rw [show i - 1 + 1 = i by omega] at this
  rw [this, Bool.and_true]
theorem flt_hs (x : Nat) (s : Int) : hs (flt x) s = (hs x s && !fx s) := by
  unfold hs
  cases hi : isg s with
  | false => rfl
  | true =>
    have hg := isg_iff.1 hi
    obtain ⟨n, rfl⟩ : ∃ n : Nat, s = (n : Int) := ⟨s.toNat, by omega⟩
    rw [Bool.true_and, Bool.true_and, Int.toNat_natCast]
    have hlt : x &&& allN < 4294967296 := Nat.lt_of_le_of_lt Nat.and_le_right (by decide)
    have h0 : (x &&& allN).testBit 0 = false := by rw [Nat.testBit_and]; exact Bool.and_false _
    have h := congrArg (fun y => y.testBit n) (lst_of (x &&& allN) 0 hlt h0)
    simp only [Nat.zero_or] at h
    rw [ofL_bit, Nat.zero_testBit, Bool.false_or, and_all_bit x n (by omega) (by omega)] at h
    unfold flt
    rw [ofL_bit, Nat.zero_testBit, Bool.false_or, any_filter, h]
/-- A process. -/
structure Pr where
  par : Int
  live : Bool
  status : Int
  ign : Nat
  ca : Nat
  pen : Nat
/-- All processes. -/
abbrev Tb := Int → Option Pr
def liv (f : Tb) (p : Int) : Bool := match f p with
  | some r => r.live
  | none => false
def upd (f : Tb) (p : Int) (r : Option Pr) : Tb := fun q => if q = p then r else f q
theorem upd_same (f : Tb) (p : Int) (r : Option Pr) : upd f p r p = r := if_pos rfl
theorem upd_other {f : Tb} {p q : Int} {r : Option Pr} (h : q ≠ p) : upd f p r q = f q := if_neg h
/-- One round of what an end does to the others. -/
def aft (pid : Int) (q : Int) (c : Pr) : Option Pr := if c.par = pid then (if c.live = true then some { c with par := 0 } else none) else some c
def endd (f : Tb) (pid status : Int) : Tb := match f pid with
  | some r => fun q => if q = pid then (if liv f r.par = true then some { r with live := false, status := status } else none) else (f q).bind (aft pid q)
  | none => f
def how (f : Tb) (pid s : Int) : Int := match f pid with
  | some r => if r.live = true then (if hs r.ign s = true then 1 else if hs r.ca s = true then 2 else 0) else 0
  | none => 0
def sendB (f : Tb) (pid s : Int) : Bool := liv f pid && isg s
def sendT (f : Tb) (pid s : Int) : Tb := match f pid with
  | some r => if (r.live && isg s) = true then (if hs r.ign s = true then f else if hs r.ca s = true then upd f pid (some { r with pen := wth r.pen s }) else if md s = true then f else endd f pid (128 + s)) else f
  | none => f
def putB (f : Tb) (pid s h : Int) : Bool := liv f pid && (isg s && (!fx s && (decide (0 ≤ h) && decide (h ≤ 2))))
def putR (r : Pr) (s h : Int) : Pr := if h = 1 then { r with ign := wth (wto r.ign s) s, ca := wto r.ca s, pen := wto r.pen s } else if h = 2 then { r with ign := wto r.ign s, ca := wth (wto r.ca s) s } else { r with ign := wto r.ign s, ca := wto r.ca s, pen := wto r.pen s }
def putT (f : Tb) (pid s h : Int) : Tb := if putB f pid s h = true then upd f pid ((f pid).map fun r => putR r s h) else f
def pend (f : Tb) (pid : Int) : Nat := match f pid with
  | some r => if r.live = true then r.pen else 0
  | none => 0
end Go.Proofs.YtbgodajbdbgdfaaDoor.Kern
/- kern: processes in memory; the contracts of what looks at them. -/
namespace Go.Proofs.YtbgodajbdbgdfaaDoor.Kern
open Go.RowKit Go.Proofs.YtbgodajbdbgdfaaDoorW.PrintWords Go.Proofs.YtbgodajbdbgdfaaDoorW.PrintLast Go.Proofs.YtbgodajbdbgdfaaDoor.Sig Go.Proofs.YtbgodajbdbgdfaaDoor.Base Go.Maps
set_option linter.unusedVariables false
set_option linter.unusedSimpArgs false
abbrev Dm := DataW Unit
/-- A process's pointer, read as its block's number. -/
def Rp (v : Value) : Option (Dm × List MemPlace) := match v with
  | .pointer none => some (.nil, [])
  | .pointer (some ⟨b, 0, none⟩) => some (.lit (.int .i64 (b : Int)), [])
  | _ => none
theorem Rp_inv {v : Value} {y : Dm × List MemPlace} (h : Rp v = some y) : (v = .pointer none ∧ y = (.nil, [])) ∨ ∃ b : Nat, v = .pointer (some ⟨b, 0, none⟩) ∧ y = (.lit (.int .i64 (b : Int)), []) := by
  unfold Rp at h
  split at h
  · exact .inl ⟨rfl, (Option.some.inj h).symm⟩
  · exact .inr ⟨_, rfl, (Option.some.inj h).symm⟩
  · cases h
theorem keyI : Keyed Tryd.prog 3 := int_keyed Tryd.underlying3
theorem zeroP (w : World) : (zeroValue 63).run Tryd.prog w = .ok (.pointer none) w := by kernel_rfl
theorem grown_of {w w' : World} (h : Below w.heap.size w w') : w.grownBy w' none := ⟨h.os, h.tape, h.output, h.size, fun i hi _ => h.block i hi⟩
theorem own_below {w w' : World} {m n : Nat} {D : Dm} (h : w.ownsMap Tryd.prog 3 Rp m n D) (hb : Below w.heap.size w w') : w'.ownsMap Tryd.prog 3 Rp m n D := h.kept (grown_of hb) (by simp)
abbrev pcell (r : Pr) : Array Value := #[.int .i64 r.par, .bool r.live, .int .i64 r.status, .int .u32 (r.ign : Int), .int .u32 (r.ca : Int), .int .u32 (r.pen : Int)]
def kEnd : Kd (Int × Int) := Kd.pair (Kd.int .i64) (Kd.int .i64)
/-- What is so of each process. -/
structure PV (w : World) (base : Nat) (D : Dm) (B : Int → Nat) (q : Int) (r : Pr) : Prop where
  key : ∀ z, D.atKey (.int .i64 q) z = .lit (.int .i64 (B q : Int))
  low : base ≤ B q
  blk : w.heap[B q]? = some (.cells (pcell r) 65 (0, 0))
  par : 0 ≤ r.par ∧ r.par < q
  ign : r.ign < 4294967296
  ca : r.ca < 4294967296
  pen : r.pen < 4294967296
/-- Blocks that are no part of it. -/
abbrev Gh := Nat → Array Value → Nat → Prop
abbrev X0 : Gh := fun _ _ _ => False
/-- A block that is no part of it. -/
def GhOk (w : World) (v : Value) (k : Nat) (cs : Array Value) (t : Nat) : Prop := w.heap[k]? = some (.cells cs t (0, 0)) ∧ t ≠ 65 ∧ t ≠ 70 ∧ v.ownBlock ≠ some k
/-- All processes, in memory. -/
structure TV (w : World) (base : Nat) (X : Gh) (g m n : Nat) (D : Dm) (B : Int → Nat) (v : Value) (f : Tb) (last : Int) (ends : List (Int × Int)) : Prop where
  hg : w.heap[g]? = some (.cells #[.map (some m), .int .i64 last, v] 70 (0, 0))
  bg : base ≤ g
  bm : base ≤ m
  own : w.ownsMap Tryd.prog 3 Rp m n D
  cnt : (n : Int) ≤ last
  lmt : last ≤ 1000000
  top : ∀ q, f q ≠ none → 1 ≤ q ∧ q ≤ last
  no : ∀ q, f q = none → Maps.has D (.int .i64 q) = false
  yes : ∀ q r, f q = some r → PV w base D B q r
  inj : ∀ q q', f q ≠ none → f q' ≠ none → B q = B q' → q = q'
  row : kEnd.R 73 w base ok0 v ends
  gh : ∀ k cs t, X k cs t → GhOk w v k cs t
theorem TV.lt {w : World} {base g m n : Nat} {X : Gh} {D : Dm} {B : Int → Nat} {v : Value} {f : Tb} {last : Int} {ends : List (Int × Int)} (h : TV w base X g m n D B v f last ends) : g < w.heap.size := blk_lt h.hg
theorem TV.below {w w' : World} {base g m n : Nat} {X : Gh} {D : Dm} {B : Int → Nat} {v : Value} {f : Tb} {last : Int} {ends : List (Int × Int)} (h : TV w base X g m n D B v f last ends) (hb : Below w.heap.size w w') : TV w' base X g m n D B v f last ends where
  hg := blk_below h.hg hb
  bg := h.bg
  bm := h.bm
  own := own_below h.own hb
  cnt := h.cnt
  lmt := h.lmt
  top := h.top
  no := h.no
  yes := fun q r hq => by
    have hp := h.yes q r hq
    exact ⟨hp.key, hp.low, blk_below hp.blk hb, hp.par, hp.ign, hp.ca, hp.pen⟩
  inj := h.inj
  row := Kd.R_below h.row hb
  gh := fun k cs t hx => ⟨blk_below (h.gh k cs t hx).1 hb, (h.gh k cs t hx).2⟩
theorem TV.reghost {w : World} {base g m n : Nat} {X : Gh} {D : Dm} {B : Int → Nat} {v : Value} {f : Tb} {last : Int} {ends : List (Int × Int)} (h : TV w base X g m n D B v f last ends) (X' : Gh) (hx : ∀ k cs t, X' k cs t → GhOk w v k cs t) : TV w base X' g m n D B v f last ends :=
  ⟨h.hg, h.bg, h.bm, h.own, h.cnt, h.lmt, h.top, h.no, h.yes, h.inj, h.row, hx⟩
abbrev ptr (B : Int → Nat) (pid : Int) (b : Bool) : Value := .pointer (if b = true then some ⟨B pid, 0, none⟩ else none)
theorem look {w : World} {base g m n : Nat} {X : Gh} {D : Dm} {B : Int → Nat} {v : Value} {f : Tb} {last : Int} {ends : List (Int × Int)} (h : TV w base X g m n D B v f last ends) (pid : Int) (hp : (Lit.int .i64 pid).wf = true) :
    (Instr.lookup 68 (.map (some m)) (.int .i64 pid) false).run Tryd.prog w = .ok (.pointer (if (f pid).isSome = true then some ⟨B pid, 0, none⟩ else none)) w := by
  obtain ⟨x, ps, hrun, hv⟩ := h.own.lookup keyI Tryd.underlying68 (zeroP w) (show Rp (.pointer none) = some (.nil, []) from rfl) (keyOf_int_mk Tryd.underlying3 hp)
  rw [hrun]
  cases hf : f pid with
  | none =>
    rw [atKey_of_not_has (h.no pid hf)] at hv
    rcases Rp_inv hv with ⟨rfl, _⟩ | ⟨b, rfl, e⟩
    · rfl
    · cases e
  | some r =>
    rw [(h.yes pid r hf).key] at hv
    rcases Rp_inv hv with ⟨rfl, e⟩ | ⟨b, rfl, e⟩
    · cases e
    · have : b = B pid := by
        simp only [Prod.mk.injEq, DataW.lit.injEq, Lit.int.injEq] at e
        omega
      rw [this]; rfl
set_option maxHeartbeats 1000000 in
set_option maxRecDepth 100000 in
theorem liv_ptr {w : World} {base g m n : Nat} {X : Gh} {D : Dm} {B : Int → Nat} {v : Value} {f : Tb} {last : Int} {ends : List (Int × Int)} (h : TV w base X g m n D B v f last ends) (pid : Int) (hp : (Lit.int .i64 pid).wf = true) :
    Calls Tryd.prog 35 #[.pointer (some ⟨g, 0, none⟩), .int .i64 pid] w fun e w' => e = .returned (ptr B pid (liv f pid)) ∧ w = w' := by
  have hrun := look h pid hp
  have c0 : w.cell? ⟨g, 0, none⟩ = some (.map (some m)) := (blk_cell h.hg 0).trans rfl
  unfold liv
  cases hf : f pid with
  | none =>
    rw [hf] at hrun
    simp only [Option.isSome_none, Bool.false_eq_true, if_false] at hrun
    clear h
    go_enter Tryd.func35, Tryd.ntmps35
    go_wp2
    go_ret
    exact ⟨rfl, rfl⟩
  | some r =>
    rw [hf] at hrun
    simp only [Option.isSome_some, if_true] at hrun
    have c1 : w.cell? ⟨B pid, 1, none⟩ = some (.bool r.live) := (blk_cell (h.yes pid r hf).blk 1).trans rfl
    clear h
    show Calls _ _ _ _ fun e w' => e = .returned (ptr B pid r.live) ∧ w = w'
    cases hl : r.live with
    | true =>
      rw [hl] at c1
      go_enter Tryd.func35, Tryd.ntmps35
      go_wp2
      go_ret
      exact ⟨rfl, rfl⟩
    | false =>
      rw [hl] at c1
      go_enter Tryd.func35, Tryd.ntmps35
      go_wp2
      go_ret
      exact ⟨rfl, rfl⟩
set_option maxHeartbeats 1000000 in
set_option maxRecDepth 100000 in
theorem liv_any {w : World} {base g m n : Nat} {X : Gh} {D : Dm} {B : Int → Nat} {v : Value} {f : Tb} {last : Int} {ends : List (Int × Int)} (h : TV w base X g m n D B v f last ends) (pid : Int) (hp : (Lit.int .i64 pid).wf = true) :
    Calls Tryd.prog 24 #[.pointer (some ⟨g, 0, none⟩), .int .i64 pid] w fun e w' => e = .returned (.bool (liv f pid)) ∧ w = w' := by
  have H := Aside0.mk h
  have HP := Aside0.mk hp
  clear h hp
  cases hl : liv f pid with
  | true =>
    go_enter Tryd.func24, Tryd.ntmps24
    go_wp2_with (go_at_call 35; (with_reducible refine (liv_ptr H.out pid HP.out).mono ?_); rintro e w1 ⟨rfl, rfl⟩; rw [hl]; simp only [ptr, if_true])
    go_ret
    exact ⟨rfl, rfl⟩
  | false =>
    go_enter Tryd.func24, Tryd.ntmps24
    go_wp2_with (go_at_call 35; (with_reducible refine (liv_ptr H.out pid HP.out).mono ?_); rintro e w1 ⟨rfl, rfl⟩; rw [hl]; simp only [ptr, Bool.false_eq_true, if_false])
    go_ret
    exact ⟨rfl, rfl⟩
end Go.Proofs.YtbgodajbdbgdfaaDoor.Kern
/- kern: what turns in memory. -/
namespace Go.Proofs.YtbgodajbdbgdfaaDoor.Kern
open Go.RowKit Go.Proofs.YtbgodajbdbgdfaaDoorW.PrintWords Go.Proofs.YtbgodajbdbgdfaaDoorW.PrintLast Go.Proofs.YtbgodajbdbgdfaaDoor.Sig Go.Proofs.YtbgodajbdbgdfaaDoor.Base Go.Maps
set_option linter.unusedVariables false
set_option linter.unusedSimpArgs false
section
variable {w : World} {base g m n : Nat} {X : Gh} {D : Dm} {B : Int → Nat} {v : Value} {f : Tb} {last : Int} {ends : List (Int × Int)}
theorem TV.neM (h : TV w base X g m n D B v f last ends) {k t : Nat} {cs : Array Value} (hk : w.heap[k]? = some (.cells cs t (0, 0))) : k ≠ m := by
  rintro rfl
  obtain ⟨es, clock, hb, _⟩ := h.own
  rw [hk] at hb
  cases hb
theorem TV.neT (h : TV w base X g m n D B v f last ends) {q : Int} {r : Pr} (hf : f q = some r) : g ≠ B q := blk_ne h.hg (h.yes q r hf).blk (by decide)
theorem TV.rowM (h : TV w base X g m n D B v f last ends) : some m ≠ v.ownBlock := by
  intro e
  obtain ⟨cells, hc⟩ := Kd.R_typed h.row m e.symm
  exact h.neM hc rfl
theorem TV.ltM (h : TV w base X g m n D B v f last ends) : m < w.heap.size := h.own.lt
theorem upd_ne {q q' : Int} {r r' : Pr} (hf : f q = some r) : upd f q (some r') q' ≠ none ↔ f q' ≠ none := by
  by_cases e : q' = q
  · subst e; rw [upd_same, hf]; simp
  · rw [upd_other e]
theorem kEnd_E {t : Nat} (h1 : 73 ≠ t) : ∀ q, q ∈ 73 :: kEnd.E → q ≠ t := by
  intro q hq
  have : q = 73 := by
    rcases List.mem_cons.1 hq with h | h
    · exact h
    · exact absurd h (by show ¬ q ∈ ([] : List Nat); exact List.not_mem_nil)
  rw [this]; exact h1
/-- A cell of a process. -/
theorem TV.put (h : TV w base X g m n D B v f last ends) {q : Int} {r r' : Pr} {j : Nat} {u : Value} (hf : f q = some r) (e : (pcell r).setIfInBounds j u = pcell r') (hp : 0 ≤ r'.par ∧ r'.par < q) (h1 : r'.ign < 4294967296) (h2 : r'.ca < 4294967296) (h3 : r'.pen < 4294967296) :
    TV (w.setCell ⟨B q, j, none⟩ u) base X g m n D B v (upd f q (some r')) last ends where
  hg := blk_far h.hg (show g ≠ (⟨B q, j, none⟩ : Addr).block from h.neT hf) u
  bg := h.bg
  bm := h.bm
  own := h.own.setCell (a := ⟨B q, j, none⟩) (h.neM (h.yes q r hf).blk).symm u
  cnt := h.cnt
  lmt := h.lmt
  top := fun q' hq' => h.top q' ((upd_ne hf).1 hq')
  no := fun q' hq' => by
    have e1 : q' ≠ q := by rintro rfl; rw [upd_same] at hq'; cases hq'
    rw [upd_other e1] at hq'
    exact h.no q' hq'
  yes := fun q' r'' hq' => by
    by_cases e2 : q' = q
    · subst e2
      rw [upd_same] at hq'
      cases hq'
      have p := h.yes q' r hf
      exact ⟨p.key, p.low, blk_put p.blk j u e, hp, h1, h2, h3⟩
    · rw [upd_other e2] at hq'
      have p := h.yes q' r'' hq'
      exact ⟨p.key, p.low, blk_far p.blk (show B q' ≠ B q from fun e3 => e2 (h.inj q' q (by rw [hq']; simp) (by rw [hf]; simp) e3)) u, p.par, p.ign, p.ca, p.pen⟩
  inj := fun q1 q2 h4 h5 => h.inj q1 q2 ((upd_ne hf).1 h4) ((upd_ne hf).1 h5)
  row := Kd.R_set h.row (h.yes q r hf).blk (kEnd_E (by decide)) j u
  gh := fun k cs t hx => by
    have p := h.gh k cs t hx
    exact ⟨blk_far p.1 (show k ≠ B q from blk_ne p.1 (h.yes q r hf).blk p.2.1) u, p.2⟩
/-- The greatest pid. -/
theorem TV.setLast (h : TV w base X g m n D B v f last ends) {l' : Int} (h1 : last ≤ l') (h2 : l' ≤ 1000000) : TV (w.setCell ⟨g, 1, none⟩ (.int .i64 l')) base X g m n D B v f l' ends where
  hg := blk_put h.hg 1 _ rfl
  bg := h.bg
  bm := h.bm
  own := h.own.setCell (a := ⟨g, 1, none⟩) (h.neM h.hg).symm _
  cnt := Int.le_trans h.cnt h1
  lmt := h2
  top := fun q hq => ⟨(h.top q hq).1, Int.le_trans (h.top q hq).2 h1⟩
  no := h.no
  yes := fun q r hq => by
    have p := h.yes q r hq
    exact ⟨p.key, p.low, blk_far p.blk (h.neT hq).symm _, p.par, p.ign, p.ca, p.pen⟩
  inj := h.inj
  row := Kd.R_set h.row h.hg (kEnd_E (by decide)) 1 _
  gh := fun k cs t hx => by
    have p := h.gh k cs t hx
    exact ⟨blk_far p.1 (show k ≠ g from blk_ne p.1 h.hg p.2.2.1) _, p.2⟩
/-- How processes ended. -/
theorem TV.setEnds (h : TV w base X g m n D B v f last ends) {v' : Value} {ends' : List (Int × Int)} (hr : kEnd.R 73 w base ok0 v' ends') (hv : v'.ownBlock = v.ownBlock) : TV (w.setCell ⟨g, 2, none⟩ v') base X g m n D B v' f last ends' where
  hg := blk_put h.hg 2 _ rfl
  bg := h.bg
  bm := h.bm
  own := h.own.setCell (a := ⟨g, 2, none⟩) (h.neM h.hg).symm _
  cnt := h.cnt
  lmt := h.lmt
  top := h.top
  no := h.no
  yes := fun q r hq => by
    have p := h.yes q r hq
    exact ⟨p.key, p.low, blk_far p.blk (h.neT hq).symm _, p.par, p.ign, p.ca, p.pen⟩
  inj := h.inj
  row := Kd.R_set hr h.hg (kEnd_E (by decide)) 2 _
  gh := fun k cs t hx => by
    have p := h.gh k cs t hx
    exact ⟨blk_far p.1 (show k ≠ g from blk_ne p.1 h.hg p.2.2.1) _, p.2.1, p.2.2.1, by rw [hv]; exact p.2.2.2⟩
/-- One more process. -/
theorem TV.new (h : TV w base X g m n D B v f last ends) {w' : World} {q0 : Int} {b0 : Nat} {r0 : Pr} (hq : f q0 = none) (hq1 : 1 ≤ q0) (hq2 : q0 ≤ last) (hn : (n : Int) + 1 ≤ last) (hb : w.heap[b0]? = some (.cells (pcell r0) 65 (0, 0))) (hb0 : base ≤ b0) (hbn : ∀ q, f q ≠ none → B q ≠ b0)
    (hp : 0 ≤ r0.par ∧ r0.par < q0) (h1 : r0.ign < 4294967296) (h2 : r0.ca < 4294967296) (h3 : r0.pen < 4294967296) (own1 : w'.ownsMap Tryd.prog 3 Rp m (n + 1) (D.put (.int .i64 q0) (.lit (.int .i64 (b0 : Int))))) (hgr : w.grownBy w' (some m)) :
    TV w' base X g m (n + 1) (D.put (.int .i64 q0) (.lit (.int .i64 (b0 : Int)))) (fun q => if q = q0 then b0 else B q) v (upd f q0 (some r0)) last ends where
  hg := blk_grown h.hg hgr (fun e => h.neM h.hg (Option.some.inj e))
  bg := h.bg
  bm := h.bm
  own := own1
  cnt := by omega
  lmt := h.lmt
  top := fun q hq' => by
    by_cases e : q = q0
    · subst e; exact ⟨hq1, hq2⟩
    · rw [upd_other e] at hq'; exact h.top q hq'
  no := fun q hq' => by
    have e1 : q ≠ q0 := by rintro rfl; rw [upd_same] at hq'; cases hq'
    rw [upd_other e1] at hq'
    rw [has_put_other (by simp only [ne_eq, Lit.int.injEq, not_and]; exact fun _ => e1)]
    exact h.no q hq'
  yes := fun q r hq' => by
    by_cases e : q = q0
    · subst e
      rw [upd_same] at hq'
      cases hq'
      refine ⟨fun z => ?_, by rw [if_pos rfl]; exact hb0, by rw [if_pos rfl]; exact blk_grown hb hgr (fun e => h.neM hb (Option.some.inj e)), hp, h1, h2, h3⟩
      rw [if_pos rfl]
      exact atKey_put_same (h.own.isMap) (by trivial) _ _
    · rw [upd_other e] at hq'
      have p := h.yes q r hq'
      refine ⟨fun z => ?_, by rw [if_neg e]; exact p.low, by rw [if_neg e]; exact blk_grown p.blk hgr (fun e => h.neM p.blk (Option.some.inj e)), p.par, p.ign, p.ca, p.pen⟩
      rw [if_neg e, atKey_put_other (by simp only [ne_eq, Lit.int.injEq, not_and]; exact fun _ => e)]
      exact p.key z
  inj := fun q1 q2 h4 h5 h6 => by
    by_cases e1 : q1 = q0
    · by_cases e2 : q2 = q0
      · rw [e1, e2]
      · rw [if_pos e1, if_neg e2] at h6
        rw [upd_other e2] at h5
        exact absurd h6.symm (hbn q2 h5)
    · by_cases e2 : q2 = q0
      · rw [if_neg e1, if_pos e2] at h6
        rw [upd_other e1] at h4
        exact absurd h6 (hbn q1 h4)
      · rw [if_neg e1, if_neg e2] at h6
        rw [upd_other e1] at h4
        rw [upd_other e2] at h5
        exact h.inj q1 q2 h4 h5 h6
  row := Kd.R_grown1 h.row rfl hgr h.rowM
  gh := fun k cs t hx => by
    have p := h.gh k cs t hx
    exact ⟨blk_grown p.1 hgr (fun e => h.neM p.1 (Option.some.inj e)), p.2⟩
/-- One less. -/
theorem TV.del (h : TV w base X g m n D B v f last ends) {w' : World} {q0 : Int} (own1 : w'.ownsMap Tryd.prog 3 Rp m n (D.del (.int .i64 q0))) (hgr : w.grownBy w' (some m)) :
    TV w' base X g m n (D.del (.int .i64 q0)) B v (upd f q0 none) last ends where
  hg := blk_grown h.hg hgr (fun e => h.neM h.hg (Option.some.inj e))
  bg := h.bg
  bm := h.bm
  own := own1
  cnt := h.cnt
  lmt := h.lmt
  top := fun q hq' => by
    by_cases e : q = q0
    · subst e; rw [upd_same] at hq'; exact absurd rfl hq'
    · rw [upd_other e] at hq'; exact h.top q hq'
  no := fun q hq' => by
    by_cases e : q = q0
    · subst e; exact has_del_same
    · rw [upd_other e] at hq'
      rw [has_del_other (by simp only [ne_eq, Lit.int.injEq, not_and]; exact fun _ => e)]
      exact h.no q hq'
  yes := fun q r hq' => by
    have e : q ≠ q0 := by rintro rfl; rw [upd_same] at hq'; cases hq'
    rw [upd_other e] at hq'
    have p := h.yes q r hq'
    exact ⟨fun z => by rw [atKey_del_other (by simp only [ne_eq, Lit.int.injEq, not_and]; exact fun _ => e)]; exact p.key z, p.low, blk_grown p.blk hgr (fun e => h.neM p.blk (Option.some.inj e)), p.par, p.ign, p.ca, p.pen⟩
  inj := fun q1 q2 h4 h5 h6 => by
    have e1 : q1 ≠ q0 := by rintro rfl; rw [upd_same] at h4; exact h4 rfl
    have e2 : q2 ≠ q0 := by rintro rfl; rw [upd_same] at h5; exact h5 rfl
    rw [upd_other e1] at h4
    rw [upd_other e2] at h5
    exact h.inj q1 q2 h4 h5 h6
  row := Kd.R_grown1 h.row rfl hgr h.rowM
  gh := fun k cs t hx => by
    have p := h.gh k cs t hx
    exact ⟨blk_grown p.1 hgr (fun e => h.neM p.1 (Option.some.inj e)), p.2⟩
/-- The keys are numbers. -/
theorem keys_int (h : TV w base X g m n D B v f last ends) : ∃ es, D = .map es ∧ es.Pairwise (fun p q => p.1 ≠ q.1) ∧ ∀ p ∈ es, ∃ x, p.1 = .int .i64 x := by
  obtain ⟨es, e, hap, _⟩ := h.own.entries keyI
  refine ⟨es, e, hap, fun p hp => ?_⟩
  obtain ⟨es', clock, hb, F, hs, hD⟩ := h.own
  rw [e] at hD
  have e2 : es = (es'.toList.map (WideElems.rg Tryd.prog 3 Rp)).foldr DataW.insert [] := DataW.map.inj hD
  rw [e2, mem_sorted] at hp
  obtain ⟨k, hk⟩ := fit_keys F p hp
  obtain ⟨x, _, e3, _⟩ := Maps.keyOf_int_inv Tryd.underlying3 hk
  exact ⟨x, e3⟩
def kint : Lit → Int
  | .int _ x => x
  | _ => 0
theorem size_of (h : TV w base X g m n D B v f last ends) (L : List Int) (hnd : L.Nodup) (hL : ∀ q, q ∈ L ↔ f q ≠ none) : Maps.size D = L.length := by
  obtain ⟨es, e, hap, hk⟩ := keys_int h
  have hmem : ∀ q, q ∈ es.map (fun p => kint p.1) ↔ f q ≠ none := by
    intro q
    have hhas : Maps.has D (.int .i64 q) = true ↔ f q ≠ none := by
      constructor
      · intro h1 h2
        rw [h.no q h2] at h1
        cases h1
      · intro h1
        cases hf : f q with
        | none => exact absurd hf h1
        | some r => exact has_true_of_atKey (h.yes q r hf).key
    rw [← hhas, e, has_eq, List.any_eq_true]
    constructor
    · intro hq
      obtain ⟨p, hp, e2⟩ := List.mem_map.1 hq
      obtain ⟨x, hx⟩ := hk p hp
      refine ⟨p, hp, ?_⟩
      rw [hx] at e2 ⊢
      rw [show x = q from e2]
      exact WideAt.sameKey_self (by trivial)
    · rintro ⟨p, hp, hs⟩
      refine List.mem_map.2 ⟨p, hp, ?_⟩
      rw [WideAt.sameKey_eq hs]
      rfl
  have hnd2 : (es.map fun p => kint p.1).Nodup := by
    rw [List.nodup_iff_pairwise_ne, List.pairwise_map]
    refine hap.imp_of_mem ?_
    intro a b ha hb hne e2
    obtain ⟨x, hx⟩ := hk a ha
    obtain ⟨y, hy⟩ := hk b hb
    apply hne
    rw [hx, hy] at e2 ⊢
    rw [show x = y from e2]
  have hp : (es.map fun p => kint p.1).Perm L := (List.perm_ext_iff_of_nodup hnd2 hnd).2 (fun q => by rw [hmem, hL])
  have := hp.length_eq
  rw [List.length_map] at this
  rw [e, size_eq, this]
end
end Go.Proofs.YtbgodajbdbgdfaaDoor.Kern
/- a drawn region's operations: a call that is ready alone; a row of last ones. -/
namespace Go.Proofs.YtbgodajbdbgdfaaDoor.Seq
open Go.RowKit Go.Proofs.YtbgodajbdbgdfaaDoorW.PrintWords Go.Proofs.YtbgodajbdbgdfaaDoorW.PrintLast Go.Proofs.YtbgodajbdbgdfaaDoor.Base
set_option linter.unusedVariables false
section
variable {P : Program} {ops : Array Oper} {Q : Exit → Act → World → Prop} {S : World → Prop}
def opsAt (ops : Array Oper) (r : List (Nat × Option Tmp × K)) : List Oper := r.filterMap fun x => ops[x.1]?
def lastsB (ops : Array Oper) : List (Nat × Option Tmp × K) → Bool
  | [] => true
  | (i, _, .last) :: r => decide (i < ops.size) && lastsB ops r
  | _ => false
theorem s_tailL : ∀ (r : List (Nat × Option Tmp × K)) {a : Act} {w : World}, lastsB ops r = true → wpList P ops Q (opsAt ops r) a w → wpSeq P ops Q S r a w
  | [], a, w, ht, h => h
  | (i, N, .last) :: r, a, w, ht, h => by
    simp only [lastsB, Bool.and_eq_true, decide_eq_true_eq] at ht
    obtain ⟨hlt, ht⟩ := ht
    have ho : ops[i]? = some ops[i] := Array.getElem?_eq_getElem hlt
    have hd : opsAt ops ((i, N, K.last) :: r) = ops[i] :: opsAt ops r := by
      unfold opsAt
      rw [List.filterMap_cons]
      simp only [ho]
    rw [hd] at h
    unfold wpSeq wpOp
    simp only [ho]
    unfold wpList at h
    split
    · rename_i hw
      simp only [hw, if_true] at h
      exact h.imp (Oper.wp_mono fun a w hk => s_tailL r ht hk) id
    · rename_i hw
      simp only [hw] at h
      exact s_tailL r ht h
  | (i, _, .pure) :: r, a, w, ht, h => by simp [lastsB] at ht
  | (i, _, .held) :: r, a, w, ht, h => by simp [lastsB] at ht
  | (i, _, .one) :: r, a, w, ht, h => by simp [lastsB] at ht
/-- An operation that is ready alone (a call): S is shown behind it. -/
theorem s_oneL {i : Nat} {N : Option Tmp} {r : List (Nat × Option Tmp × K)} {o : Oper} {a : Act} {w : World} (ho : ops[i]? = some o)
    (h : ∀ K : Act → World → Prop, Shut (∀ a' w', S w' → wpSeq P ops Q S r a' w' → K a' w') → wpList P ops (Exit.then K Q) [o] a w) (hw : Region.wanted o (yielded ops a.tmps) = true) : wpSeq P ops Q S ((i, N, .one) :: r) a w := by
  unfold wpSeq wpOp
  simp only [ho, hw, if_true]
  have hK : Shut (∀ a' w', S w' → wpSeq P ops Q S r a' w' → (fun a' w' => (S w → S w') ∧ wpSeq P ops Q S r a' w') a' w') := fun a' w' hS hk => ⟨fun _ => hS, hk⟩
  have h1 := h _ hK
  unfold wpList at h1
  simp only [hw, if_true] at h1
  exact h1
end
end Go.Proofs.YtbgodajbdbgdfaaDoor.Seq
/- kern: Pending, How, Len, Fork: their contracts. -/
namespace Go.Proofs.YtbgodajbdbgdfaaDoor.Kern
open Go.RowKit Go.Proofs.YtbgodajbdbgdfaaDoorW.PrintWords Go.Proofs.YtbgodajbdbgdfaaDoorW.PrintLast Go.Proofs.YtbgodajbdbgdfaaDoor.Sig Go.Proofs.YtbgodajbdbgdfaaDoor.Base Go.Proofs.YtbgodajbdbgdfaaDoor.Seq Go.Maps
set_option linter.unusedVariables false
set_option linter.unusedSimpArgs false
theorem liv_true {f : Tb} {pid : Int} (h : liv f pid = true) : ∃ r, f pid = some r ∧ r.live = true := by
  unfold liv at h
  cases hf : f pid with
  | none => rw [hf] at h; cases h
  | some r => rw [hf] at h; exact ⟨r, rfl, h⟩
theorem pend_off {f : Tb} {pid : Int} (h : liv f pid = false) : pend f pid = 0 := by
  unfold liv at h
  unfold pend
  cases hf : f pid with
  | none => rfl
  | some r => rw [hf] at h; simp only at h; simp [h]
theorem how_off {f : Tb} {pid s : Int} (h : liv f pid = false) : how f pid s = 0 := by
  unfold liv at h
  unfold how
  cases hf : f pid with
  | none => rfl
  | some r => rw [hf] at h; simp only at h; simp [h]
section
variable {w : World} {base g m n : Nat} {X : Gh} {D : Dm} {B : Int → Nat} {v : Value} {f : Tb} {last : Int} {ends : List (Int × Int)}
set_option maxHeartbeats 1000000 in
set_option maxRecDepth 100000 in
theorem pend_any (h : TV w base X g m n D B v f last ends) (pid : Int) (hp : (Lit.int .i64 pid).wf = true) :
    Calls Tryd.prog 30 #[.pointer (some ⟨g, 0, none⟩), .int .i64 pid] w fun e w' => e = .returned (.int .u32 (pend f pid : Nat)) ∧ w = w' := by
  have H := Aside0.mk h
  have HP := Aside0.mk hp
  cases hl : liv f pid with
  | true =>
    obtain ⟨r, hf, hlv⟩ := liv_true hl
    have c5 : w.cell? ⟨B pid, 5, none⟩ = some (.int .u32 (r.pen : Int)) := (blk_cell (h.yes pid r hf).blk 5).trans rfl
    have e : pend f pid = r.pen := by unfold pend; rw [hf]; exact if_pos hlv
    rw [e]
    clear h hp hf hlv e
    go_enter Tryd.func30, Tryd.ntmps30
    go_wp2_with (go_at_call 35; (with_reducible refine (liv_ptr H.out pid HP.out).mono ?_); rintro e w1 ⟨rfl, rfl⟩; rw [hl]; simp only [ptr, if_true])
    go_ret
    exact ⟨rfl, rfl⟩
  | false =>
    rw [pend_off hl]
    clear h hp
    go_enter Tryd.func30, Tryd.ntmps30
    go_wp2_with (go_at_call 35; (with_reducible refine (liv_ptr H.out pid HP.out).mono ?_); rintro e w1 ⟨rfl, rfl⟩; rw [hl]; simp only [ptr, Bool.false_eq_true, if_false])
    go_ret
    exact ⟨rfl, rfl⟩
set_option maxHeartbeats 1000000 in
set_option maxRecDepth 100000 in
theorem how_any (h : TV w base X g m n D B v f last ends) (pid s : Int) (hp : (Lit.int .i64 pid).wf = true) :
    Calls Tryd.prog 26 #[.pointer (some ⟨g, 0, none⟩), .int .i64 pid, .int .i64 s] w fun e w' => e = .returned (.int .i64 (how f pid s)) ∧ Below w.heap.size w w' := by
  have H := Aside0.mk h
  have HP := Aside0.mk hp
  have HB := Aside0.mk (Below.refl w.heap.size w)
  cases hl : liv f pid with
  | true =>
    obtain ⟨r, hf, hlv⟩ := liv_true hl
    have pv := h.yes pid r hf
    have HK := Aside0.mk pv.blk
    have HI := Aside0.mk pv.ign
    have HC := Aside0.mk pv.ca
    have c3 : w.cell? ⟨B pid, 3, none⟩ = some (.int .u32 (r.ign : Int)) := (blk_cell pv.blk 3).trans rfl
    have e : how f pid s = if hs r.ign s = true then 1 else if hs r.ca s = true then 2 else 0 := by unfold how; rw [hf]; exact if_pos hlv
    rw [e]
    clear h hp hf hlv e pv
    cases h1 : hs r.ign s with
    | true =>
      have H1 := Aside0.mk h1
      clear h1
      go_enter Tryd.func26, Tryd.ntmps26
      go_wp2_with (first
        | (go_at_call 35; (with_reducible refine (liv_ptr H.out pid HP.out).mono ?_); rintro e w1 ⟨rfl, rfl⟩; rw [hl]; simp only [ptr, if_true])
        | (go_at_call 49; (with_reducible refine (has_any r.ign s _ HI.out).mono ?_); rintro e w1 ⟨rfl, hB⟩; rw [H1.out]; have n1 := Aside0.mk (below_trans HB.out (below_sub hB HB.out.size)); clear hB HB; have HB := n1; clear n1))
      go_ret
      exact ⟨rfl, HB.out⟩
    | false =>
      have H1 := Aside0.mk h1
      clear h1
      cases h2 : hs r.ca s with
      | true =>
        have H2 := Aside0.mk h2
        clear h2
        go_enter Tryd.func26, Tryd.ntmps26
        go_wp2_with (first
          | (go_at_call 35; (with_reducible refine (liv_ptr H.out pid HP.out).mono ?_); rintro e w1 ⟨rfl, rfl⟩; rw [hl]; simp only [ptr, if_true])
          | (go_at_call 49; (with_reducible refine (has_any r.ign s _ HI.out).mono ?_); rintro e w1 ⟨rfl, hB⟩; rw [H1.out]; have n1 := Aside0.mk (below_trans HB.out (below_sub hB HB.out.size)); have c4 := (blk_cell (blk_below HK.out hB) 4).trans rfl; clear hB HB c3; have HB := n1; clear n1)
          | (go_at_call 49; (with_reducible refine (has_any r.ca s _ HC.out).mono ?_); rintro e w1 ⟨rfl, hB⟩; rw [H2.out]; have n1 := Aside0.mk (below_trans HB.out (below_sub hB HB.out.size)); clear hB HB; have HB := n1; clear n1))
        go_ret
        exact ⟨rfl, HB.out⟩
      | false =>
        have H2 := Aside0.mk h2
        clear h2
        go_enter Tryd.func26, Tryd.ntmps26
        go_wp2_with (first
          | (go_at_call 35; (with_reducible refine (liv_ptr H.out pid HP.out).mono ?_); rintro e w1 ⟨rfl, rfl⟩; rw [hl]; simp only [ptr, if_true])
          | (go_at_call 49; (with_reducible refine (has_any r.ign s _ HI.out).mono ?_); rintro e w1 ⟨rfl, hB⟩; rw [H1.out]; have n1 := Aside0.mk (below_trans HB.out (below_sub hB HB.out.size)); have c4 := (blk_cell (blk_below HK.out hB) 4).trans rfl; clear hB HB c3; have HB := n1; clear n1)
          | (go_at_call 49; (with_reducible refine (has_any r.ca s _ HC.out).mono ?_); rintro e w1 ⟨rfl, hB⟩; rw [H2.out]; have n1 := Aside0.mk (below_trans HB.out (below_sub hB HB.out.size)); clear hB HB; have HB := n1; clear n1))
        go_ret
        exact ⟨rfl, HB.out⟩
  | false =>
    rw [how_off hl]
    clear h hp
    go_enter Tryd.func26, Tryd.ntmps26
    go_wp2_with (go_at_call 35; (with_reducible refine (liv_ptr H.out pid HP.out).mono ?_); rintro e w1 ⟨rfl, rfl⟩; rw [hl]; simp only [ptr, Bool.false_eq_true, if_false])
    go_ret
    exact ⟨rfl, HB.out⟩
set_option maxHeartbeats 1000000 in
set_option maxRecDepth 100000 in
theorem len_any (h : TV w base X g m n D B v f last ends) :
    Calls Tryd.prog 8 #[.pointer (some ⟨g, 0, none⟩)] w fun e w' => e = .returned (.int .i64 (Maps.size D : Nat)) ∧ w = w' := by
  have c0 : w.cell? ⟨g, 0, none⟩ = some (.map (some m)) := (blk_cell h.hg 0).trans rfl
  have HO := Aside0.mk h.own
  clear h
  go_enter Tryd.func8, Tryd.ntmps8
  go_wp2_with (first
    | (at_len; refine wpList_len_own _ rfl _ 68 rfl 3 63 Tryd.underlying68 Rp m n D rfl HO.out ?_)
    | go_in)
  go_ret
  exact ⟨rfl, rfl⟩
end
end Go.Proofs.YtbgodajbdbgdfaaDoor.Kern
/- kern: Fork: its contract. -/
namespace Go.Proofs.YtbgodajbdbgdfaaDoor.Kern
open Go.RowKit Go.Proofs.YtbgodajbdbgdfaaDoorW.PrintWords Go.Proofs.YtbgodajbdbgdfaaDoorW.PrintLast Go.Proofs.YtbgodajbdbgdfaaDoor.Sig Go.Proofs.YtbgodajbdbgdfaaDoor.Base Go.Proofs.YtbgodajbdbgdfaaDoor.Seq Go.Maps
set_option linter.unusedVariables false
set_option linter.unusedSimpArgs false
/-- All processes, in some memory. -/
def TW (w : World) (base : Nat) (X : Gh) (g : Nat) (f : Tb) (last : Int) (ends : List (Int × Int)) : Prop := ∃ m n D B v, TV w base X g m n D B v f last ends
theorem TW_below {w w' : World} {base g : Nat} {X : Gh} {f : Tb} {last : Int} {ends : List (Int × Int)} (h : TW w base X g f last ends) (hb : Below w.heap.size w w') : TW w' base X g f last ends := by
  obtain ⟨m, n, D, B, v, h⟩ := h
  exact ⟨m, n, D, B, v, h.below hb⟩
theorem below_grown {w w' : World} {base m : Nat} (h : w.grownBy w' (some m)) (hm : base ≤ m) (hb : base ≤ w.heap.size) : Below base w w' := ⟨h.os, h.tape, h.output, h.size, fun i hi => h.block i (by omega) (fun e => by cases e; omega)⟩
theorem wf_i64 {x : Int} (h0 : -9223372036854775808 ≤ x) (h1 : x ≤ 9223372036854775807) : (Lit.int .i64 x).wf = true := by
  simp only [Lit.wf, Bool.and_eq_true, decide_eq_true_eq]
  exact ⟨h0, h1⟩
section
variable {w : World} {base g m n : Nat} {X : Gh} {D : Dm} {B : Int → Nat} {v : Value} {f : Tb} {last : Int} {ends : List (Int × Int)}
set_option maxHeartbeats 2000000 in
set_option maxRecDepth 100000 in
theorem fork_any (h : TV w base X g m n D B v f last ends) (pid : Int) (r : Pr) (hp : (Lit.int .i64 pid).wf = true) (hf : f pid = some r) (hlv : r.live = true) (hn : last < 1000000) (hsz : Maps.size D < 64) :
    Calls Tryd.prog 7 #[.pointer (some ⟨g, 0, none⟩), .int .i64 pid] w fun e w' => e = .returned (.tuple #[.int .i64 (last + 1), .int .i64 0]) ∧ TW w' base X g (upd f (last + 1) (some ⟨pid, true, 0, r.ign, 0, 0⟩)) (last + 1) ends ∧ Below base w w' := by
  have H := Aside0.mk h
  have HP := Aside0.mk hp
  have hl : liv f pid = true := by unfold liv; rw [hf]; exact hlv
  have pv := h.yes pid r hf
  have htop := h.top pid (by rw [hf]; simp)
  have c0 : w.cell? ⟨g, 0, none⟩ = some (.map (some m)) := (blk_cell h.hg 0).trans rfl
  have c1 : w.cell? ⟨g, 1, none⟩ = some (.int .i64 last) := (blk_cell h.hg 1).trans rfl
  have f1 := blk_frozen h.hg 1
  have hw : wrap64 (last + 1) = last + 1 := by unfold wrap64; omega
  have hge : decide ((64 : Int) ≤ (Maps.size D : Int)) = false := decide_eq_false (by omega)
  have HO := Aside0.mk h.own
  have H1 := Aside0.mk (h.setLast (l' := last + 1) (by omega) (by omega))
  have HB1 := Aside0.mk ((Below.refl base w).setCell (p := ⟨g, 1, none⟩) h.bg (.int .i64 (last + 1)))
  have hcn := h.cnt
  have hbs : base ≤ w.heap.size := Nat.le_trans h.bg (Nat.le_of_lt (blk_lt h.hg))
  have HBS := Aside0.mk hbs
  have HF0 := Aside0.mk (show f (last + 1) = none by
    cases e : f (last + 1) with
    | none => rfl
    | some r' => have := h.top (last + 1) (by rw [e]; simp); omega)
  clear h hp pv hbs
  go_enter Tryd.func7, Tryd.ntmps7
  go_upto_region 7 with (first
    | (go_at_call 35; (with_reducible refine (liv_ptr H.out pid HP.out).mono ?_); rintro e w1 ⟨rfl, rfl⟩; rw [hl]; simp only [ptr, if_true])
    | (at_len; refine wpList_len_own _ rfl _ 68 rfl 3 63 Tryd.underlying68 Rp m n D rfl HO.out ?_))
  have HW1 := Aside0.mk (show (w.setCell ⟨g, 1, none⟩ (.int .i64 (last + 1))).heap.size = w.heap.size from by simp [World.setCell])
  clear c0 c1 f1 H HO
  generalize w.setCell ⟨g, 1, none⟩ (.int .i64 (last + 1)) = w1 at *
  have c0 : w1.cell? ⟨g, 0, none⟩ = some (.map (some m)) := (blk_cell H1.out.hg 0).trans rfl
  have c1 : w1.cell? ⟨g, 1, none⟩ = some (.int .i64 (last + 1)) := (blk_cell H1.out.hg 1).trans rfl
  have pv := H1.out.yes pid r hf
  have c3 : w1.cell? ⟨B pid, 3, none⟩ = some (.int .u32 (r.ign : Int)) := (blk_cell pv.blk 3).trans rfl
  have HI := Aside0.mk pv.ign
  clear pv
  refine region_seq (fun w_ => Below w1.heap.size w1 w_) [15]
    [(0, some 27, .pure), (1, some 28, .pure), (2, some 29, .pure), (4, some 31, .pure), (5, some 32, .pure), (6, some 33, .pure), (8, some 35, .pure), (9, some 36, .pure), (10, some 37, .pure), (11, some 38, .pure), (3, some 30, .held), (7, some 34, .held), (12, some 39, .held), (13, some 40, .pure), (14, some 41, .one), (15, none, .last)] (by kernel_rfl) (by kernel_rfl) ?_
  have hS := below_drew (Below.refl w1.heap.size w1)
  repeat (first
    | (refine s_pure (v := ?_) (a' := ?_) rfl (fun _ _ _ h => h) rfl ?hy ?ha ?_; (case hy => (intro w_; go_simp; with_reducible rfl)); (case ha => (simp only [Act.put, List.setIfInBounds_toArray, List.set_cons_zero, List.set_cons_succ, i64_w, i32_w]; rfl)))
    | (refine s_held (v := ?_) (a' := ?_) hS rfl (fun _ _ _ h => h) rfl ?hy ?ha ?_; (case hy => (intro w_ hb_; have s0 := pw_cell_below hb_ c0; have s1 := pw_cell_below hb_ c1; have s2 := pw_cell_below hb_ c3; go_simp; with_reducible rfl)); (case ha => (simp only [Act.put, List.setIfInBounds_toArray, List.set_cons_zero, List.set_cons_succ, i64_w, i32_w]; rfl))))
  (refine s_new (v := ?_) (w1 := ?_) (a' := ?_) rfl rfl rfl ?hy ?ha ?hS ?_; (case hy => (go_simp; first | with_reducible rfl | (refine ⟨?_, ?_⟩ <;> with_reducible rfl))); (case ha => (simp only [Act.put, List.setIfInBounds_toArray, List.set_cons_zero, List.set_cons_succ, i64_w, i32_w]; rfl)); (case hS => (repeat (first | exact hS | exact Below.refl _ _ | refine below_drew ?_ | refine below_alloc ?_ _))))
  refine s_tail 15 _ (by kernel_rfl) ?_
  simp only [List.drop_succ_cons, List.drop_zero]
  have HN := Aside0.mk (blk_new w1.drew (.cells (pcell ⟨pid, true, 0, r.ign, 0, 0⟩) 65))
  have HB2 := Aside0.mk (below_alloc (below_drew (Below.refl w1.heap.size w1)) (.cells (pcell ⟨pid, true, 0, r.ign, 0, 0⟩) 65))
  have H2 := Aside0.mk (H1.out.below HB2.out)
  clear c0 c1 c3 hS
  go_wp2_with (first
    | (at_mapUpdate
       go_loud (refine wpList_mapUpdate_own _ rfl _ _ _ 68 rfl 3 63 keyI Tryd.underlying68 Rp m n D rfl H2.out.own (by unfold maxLen; omega) _ _ (.int .i64 (last + 1)) rfl rfl (keyOf_int_mk Tryd.underlying3 (wf_i64 (by omega) (by omega))) (.lit (.int .i64 (w1.heap.size : Int))) [] rfl ?_)
       intro w3 own3 hgr3
       have H3 := Aside0.mk (H2.out.new HF0.out (by omega) (Int.le_refl _) (by omega) HN.out (show base ≤ w1.drew.heap.size by show base ≤ w1.heap.size; rw [HW1.out]; exact HBS.out)
         (fun q hq => by
           obtain ⟨r', hr'⟩ := Option.ne_none_iff_exists'.1 hq
           have := blk_lt (H1.out.yes q r' hr').blk
           show B q ≠ w1.heap.size
           omega) ⟨by show 0 ≤ pid; omega, by show pid < last + 1; omega⟩ HI.out (by show (0 : Nat) < 4294967296; decide) (by show (0 : Nat) < 4294967296; decide) own3 hgr3)
       have HB3 := Aside0.mk (below_grown hgr3 H1.out.bm (show base ≤ (w1.drew.alloc (.cells (pcell ⟨pid, true, 0, r.ign, 0, 0⟩) 65)).heap.size from Nat.le_trans (by rw [HW1.out]; exact HBS.out) HB2.out.size))
       have c1 : w3.cell? ⟨g, 1, none⟩ = some (.int .i64 (last + 1)) := (blk_cell H3.out.hg 1).trans rfl
       clear own3 hgr3))
  go_ret2
  exact ⟨rfl, ⟨_, _, _, _, _, H3.out⟩, (HB1.out.trans (below_sub HB2.out (by rw [HW1.out]; exact HBS.out))).trans HB3.out⟩
end
end Go.Proofs.YtbgodajbdbgdfaaDoor.Kern
/- kern: Put: its contract. -/
namespace Go.Proofs.YtbgodajbdbgdfaaDoor.Kern
open Go.RowKit Go.Proofs.YtbgodajbdbgdfaaDoorW.PrintWords Go.Proofs.YtbgodajbdbgdfaaDoorW.PrintLast Go.Proofs.YtbgodajbdbgdfaaDoor.Sig Go.Proofs.YtbgodajbdbgdfaaDoor.Base Go.Proofs.YtbgodajbdbgdfaaDoor.Seq Go.Maps
set_option linter.unusedVariables false
set_option linter.unusedSimpArgs false
theorem is_sg (v : Int) (w : World) : Calls Tryd.prog 48 #[.int .i64 v] w fun e w' => e = .returned (.bool (isg v)) ∧ Below w.heap.size w w' := is_any v w
theorem upd_upd (f : Tb) (p : Int) (a b : Option Pr) : upd (upd f p a) p b = upd f p b := by
  funext q
  unfold upd
  split <;> rfl
section
variable {w : World} {base g m n : Nat} {X : Gh} {D : Dm} {B : Int → Nat} {v : Value} {f : Tb} {last : Int} {ends : List (Int × Int)}
set_option maxHeartbeats 4000000 in
set_option maxRecDepth 100000 in
theorem put0_any (h : TV w base X g m n D B v f last ends) (pid s : Int) (r : Pr) (hp : (Lit.int .i64 pid).wf = true) (hf : f pid = some r) (hlv : r.live = true) (hs1 : isg s = true) (hfx : fx s = false) :
    Calls Tryd.prog 20 #[.pointer (some ⟨g, 0, none⟩), .int .i64 pid, .int .i64 s, .int .i64 0] w fun e w' => e = .returned (.bool true) ∧ TW w' base X g (upd f pid (some (putR r s 0))) last ends ∧ Below base w w' := by
  have H := Aside0.mk h
  have HP := Aside0.mk hp
  have HB := Aside0.mk (Below.refl w.heap.size w)
  have hl : liv f pid = true := by unfold liv; rw [hf]; exact hlv
  have HS := Aside0.mk hs1
  have HFX := Aside0.mk (show fixed s = false from hfx)
  have hbs : base ≤ w.heap.size := Nat.le_trans h.bg (Nat.le_of_lt (blk_lt h.hg))
  have HBS := Aside0.mk hbs
  have HF := Aside0.mk hf
  clear h hp hs1 hfx hbs
  go_enter Tryd.func20, Tryd.ntmps20
  go_upto_region 4 with (first
    | (go_at_call 35; (with_reducible refine (liv_ptr H.out pid HP.out).mono ?_); rintro e w1 ⟨rfl, rfl⟩; rw [hl]; simp only [ptr, if_true])
    | (go_at_call 48; (with_reducible refine (is_sg s _).mono ?_); rintro e w2 ⟨rfl, hB⟩; rw [HS.out]; have n1 := Aside0.mk (below_trans HB.out (below_sub hB HB.out.size)); clear hB HB; have HB := n1; clear n1)
    | (go_at_call 33; (with_reducible refine (sfixed_any s _).mono ?_); rintro e w3 ⟨rfl, hB⟩; rw [HFX.out]; have n1 := Aside0.mk (below_trans HB.out (below_sub hB HB.out.size)); clear hB HB; have HB := n1; clear n1))
  have H3 := Aside0.mk (H.out.below HB.out)
  have pv := H3.out.yes pid r HF.out
  have HI := Aside0.mk pv.ign
  have HC := Aside0.mk pv.ca
  have HPN := Aside0.mk pv.pen
  have c3 : w3.cell? ⟨B pid, 3, none⟩ = some (.int .u32 (r.ign : Int)) := (blk_cell pv.blk 3).trans rfl
  have c4 : w3.cell? ⟨B pid, 4, none⟩ = some (.int .u32 (r.ca : Int)) := (blk_cell pv.blk 4).trans rfl
  clear pv
  refine region_seq (fun w_ => Below w3.heap.size w3 w_) [16, 17, 18, 19]
    [(0, some 32, .pure), (1, some 33, .pure), (2, some 34, .pure), (3, some 35, .pure), (4, some 36, .pure), (6, some 38, .pure), (8, some 40, .pure), (9, some 41, .pure), (10, some 42, .pure), (12, some 44, .pure), (5, some 37, .held), (11, some 43, .held), (7, some 39, .one), (13, some 45, .one), (14, some 46, .pure), (15, some 47, .pure), (16, none, .last), (17, some 48, .last), (18, some 49, .last), (19, none, .last)] (by kernel_rfl) (by kernel_rfl) ?_
  have hS := below_drew (Below.refl w3.heap.size w3)
  repeat (first
    | (refine s_pure (v := ?_) (a' := ?_) rfl (fun _ _ _ h => h) rfl ?hy ?ha ?_; (case hy => (intro w_; go_simp; with_reducible rfl)); (case ha => (simp only [Act.put, List.setIfInBounds_toArray, List.set_cons_zero, List.set_cons_succ, i64_w, i32_w]; rfl)))
    | (refine s_held (v := ?_) (a' := ?_) hS rfl (fun _ _ _ h => h) rfl ?hy ?ha ?_; (case hy => (intro w_ hb_; have s0 := pw_cell_below hb_ c3; have s1 := pw_cell_below hb_ c4; go_simp; with_reducible rfl)); (case ha => (simp only [Act.put, List.setIfInBounds_toArray, List.set_cons_zero, List.set_cons_succ, i64_w, i32_w]; rfl))))
  refine s_oneL rfl (fun K hK => ?_) rfl
  go_wp2_with (go_at_call 54; (with_reducible refine (wto_any r.ign s _ HI.out).mono ?_); rintro e w4 ⟨rfl, hB⟩)
  have hS2 : Below w3.heap.size w3 w4 := hS.trans (below_sub hB hS.size)
  clear hB hS
  refine hK _ _ hS2 ?_
  clear hK
  repeat (first
    | (refine s_pure (v := ?_) (a' := ?_) rfl (fun _ _ _ h => h) rfl ?hy ?ha ?_; (case hy => (intro w_; go_simp; with_reducible rfl)); (case ha => (simp only [Act.put, List.setIfInBounds_toArray, List.set_cons_zero, List.set_cons_succ, i64_w, i32_w]; rfl)))
    | (refine s_held (v := ?_) (a' := ?_) hS rfl (fun _ _ _ h => h) rfl ?hy ?ha ?_; (case hy => (intro w_ hb_; go_simp; with_reducible rfl)); (case ha => (simp only [Act.put, List.setIfInBounds_toArray, List.set_cons_zero, List.set_cons_succ, i64_w, i32_w]; rfl))))
  refine s_oneL rfl (fun K hK => ?_) rfl
  go_wp2_with (go_at_call 54; (with_reducible refine (wto_any r.ca s _ HC.out).mono ?_); rintro e w5 ⟨rfl, hB⟩)
  have hS3 : Below w3.heap.size w3 w5 := hS2.trans (below_sub hB hS2.size)
  clear hB hS2
  refine hK _ _ hS3 ?_
  clear hK
  repeat (first
    | (refine s_pure (v := ?_) (a' := ?_) rfl (fun _ _ _ h => h) rfl ?hy ?ha ?_; (case hy => (intro w_; go_simp; with_reducible rfl)); (case ha => (simp only [Act.put, List.setIfInBounds_toArray, List.set_cons_zero, List.set_cons_succ, i64_w, i32_w]; rfl)))
    | (refine s_held (v := ?_) (a' := ?_) hS rfl (fun _ _ _ h => h) rfl ?hy ?ha ?_; (case hy => (intro w_ hb_; go_simp; with_reducible rfl)); (case ha => (simp only [Act.put, List.setIfInBounds_toArray, List.set_cons_zero, List.set_cons_succ, i64_w, i32_w]; rfl))))
  refine s_tail 16 _ (by kernel_rfl) ?_
  simp only [List.drop_succ_cons, List.drop_zero]
  have H5 := Aside0.mk (H3.out.below hS3)
  have HB5 := Aside0.mk (HB.out.trans (below_sub hS3 HB.out.size))
  clear c3 c4 hS3 H3 HB H
  have pv := H5.out.yes pid r HF.out
  have c3 : w5.cell? ⟨B pid, 3, none⟩ = some (.int .u32 (r.ign : Int)) := (blk_cell pv.blk 3).trans rfl
  have c4 : w5.cell? ⟨B pid, 4, none⟩ = some (.int .u32 (r.ca : Int)) := (blk_cell pv.blk 4).trans rfl
  have f3 := blk_frozen pv.blk 3
  have f4 := blk_frozen pv.blk 4
  have HLW := Aside0.mk pv.low
  have HPR := Aside0.mk pv.par
  clear pv
  have HI1 := Aside0.mk (wto_lt s HI.out)
  have HC1 := Aside0.mk (wto_lt s HC.out)
  have H6 := Aside0.mk (H5.out.put (r' := { r with ign := wto r.ign s }) (j := 3) (u := .int .u32 ((wto r.ign s : Nat) : Int)) HF.out rfl HPR.out HI1.out HC.out HPN.out)
  have H7 := Aside0.mk (H6.out.put (q := pid) (r' := { r with ign := wto r.ign s, ca := wto r.ca s }) (j := 4) (u := .int .u32 ((wto r.ca s : Nat) : Int)) (upd_same _ _ _) rfl HPR.out HI1.out HC1.out HPN.out)
  have HB7 := Aside0.mk (((below_sub HB5.out HBS.out).setCell (p := ⟨B pid, 3, none⟩) HLW.out (.int .u32 ((wto r.ign s : Nat) : Int))).setCell (p := ⟨B pid, 4, none⟩) HLW.out (.int .u32 ((wto r.ca s : Nat) : Int)))
  clear H5 HB5 H6
  go_upto_region 5 with (fail)
  generalize (w5.setCell ⟨B pid, 3, none⟩ (.int .u32 ((wto r.ign s : Nat) : Int))).setCell ⟨B pid, 4, none⟩ (.int .u32 ((wto r.ca s : Nat) : Int)) = w7 at *
  clear c3 c4 f3 f4
  rw [upd_upd] at H7
  have HF7 := Aside0.mk (upd_same f pid (some { r with ign := wto r.ign s, ca := wto r.ca s }))
  generalize hr1 : ({ r with ign := wto r.ign s, ca := wto r.ca s } : Pr) = r1 at *
  have pv := H7.out.yes pid r1 HF7.out
  have b3 : w7.cell? ⟨B pid, 3, none⟩ = some (.int .u32 (r1.ign : Int)) := (blk_cell pv.blk 3).trans rfl
  have b4 : w7.cell? ⟨B pid, 4, none⟩ = some (.int .u32 (r1.ca : Int)) := (blk_cell pv.blk 4).trans rfl
  have b5 : w7.cell? ⟨B pid, 5, none⟩ = some (.int .u32 (r1.pen : Int)) := (blk_cell pv.blk 5).trans rfl
  have HK7 := Aside0.mk pv.blk
  have HI7 := Aside0.mk pv.ign
  have HC7 := Aside0.mk pv.ca
  have HN7 := Aside0.mk pv.pen
  have HP7 := Aside0.mk pv.par
  have HL7 := Aside0.mk pv.low
  have HR1 := Aside0.mk hr1
  clear pv hr1
  go_wp2_with (go_at_call 54; (with_reducible refine (wto_any r1.pen s _ HN7.out).mono ?_); rintro e w8 ⟨rfl, hB⟩; have H8 := Aside0.mk (H7.out.below hB); have c5 := (blk_cell (blk_below HK7.out hB) 5).trans rfl; have f5 := blk_frozen (blk_below HK7.out hB) 5; have HB8 := Aside0.mk (HB7.out.trans (below_sub hB (Nat.le_trans HBS.out HB7.out.size))); clear hB b3 b4 b5)
  go_ret
  have e : ({ r1 with pen := wto r1.pen s } : Pr) = putR r s 0 := by unfold putR; rw [if_neg (by decide), if_neg (by decide), ← HR1.out]
  have T := H8.out.put (q := pid) (r' := { r1 with pen := wto r1.pen s }) (j := 5) (u := .int .u32 ((wto r1.pen s : Nat) : Int)) HF7.out rfl HP7.out HI7.out HC7.out (wto_lt s HN7.out)
  rw [upd_upd, e] at T
  exact ⟨rfl, ⟨_, _, _, _, _, T⟩, HB8.out.setCell (p := ⟨B pid, 5, none⟩) HL7.out _⟩
set_option maxHeartbeats 4000000 in
set_option maxRecDepth 100000 in
theorem put2_any (h : TV w base X g m n D B v f last ends) (pid s : Int) (r : Pr) (hp : (Lit.int .i64 pid).wf = true) (hf : f pid = some r) (hlv : r.live = true) (hs1 : isg s = true) (hfx : fx s = false) :
    Calls Tryd.prog 20 #[.pointer (some ⟨g, 0, none⟩), .int .i64 pid, .int .i64 s, .int .i64 2] w fun e w' => e = .returned (.bool true) ∧ TW w' base X g (upd f pid (some (putR r s 2))) last ends ∧ Below base w w' := by
  have H := Aside0.mk h
  have HP := Aside0.mk hp
  have HB := Aside0.mk (Below.refl w.heap.size w)
  have hl : liv f pid = true := by unfold liv; rw [hf]; exact hlv
  have HS := Aside0.mk hs1
  have HFX := Aside0.mk (show fixed s = false from hfx)
  have hbs : base ≤ w.heap.size := Nat.le_trans h.bg (Nat.le_of_lt (blk_lt h.hg))
  have HBS := Aside0.mk hbs
  have HF := Aside0.mk hf
  clear h hp hs1 hfx hbs
  go_enter Tryd.func20, Tryd.ntmps20
  go_upto_region 4 with (first
    | (go_at_call 35; (with_reducible refine (liv_ptr H.out pid HP.out).mono ?_); rintro e w1 ⟨rfl, rfl⟩; rw [hl]; simp only [ptr, if_true])
    | (go_at_call 48; (with_reducible refine (is_sg s _).mono ?_); rintro e w2 ⟨rfl, hB⟩; rw [HS.out]; have n1 := Aside0.mk (below_trans HB.out (below_sub hB HB.out.size)); clear hB HB; have HB := n1; clear n1)
    | (go_at_call 33; (with_reducible refine (sfixed_any s _).mono ?_); rintro e w3 ⟨rfl, hB⟩; rw [HFX.out]; have n1 := Aside0.mk (below_trans HB.out (below_sub hB HB.out.size)); clear hB HB; have HB := n1; clear n1))
  have H3 := Aside0.mk (H.out.below HB.out)
  have pv := H3.out.yes pid r HF.out
  have HI := Aside0.mk pv.ign
  have HC := Aside0.mk pv.ca
  have HPN := Aside0.mk pv.pen
  have c3 : w3.cell? ⟨B pid, 3, none⟩ = some (.int .u32 (r.ign : Int)) := (blk_cell pv.blk 3).trans rfl
  have c4 : w3.cell? ⟨B pid, 4, none⟩ = some (.int .u32 (r.ca : Int)) := (blk_cell pv.blk 4).trans rfl
  clear pv
  refine region_seq (fun w_ => Below w3.heap.size w3 w_) [16, 17, 18, 19]
    [(0, some 32, .pure), (1, some 33, .pure), (2, some 34, .pure), (3, some 35, .pure), (4, some 36, .pure), (6, some 38, .pure), (8, some 40, .pure), (9, some 41, .pure), (10, some 42, .pure), (12, some 44, .pure), (5, some 37, .held), (11, some 43, .held), (7, some 39, .one), (13, some 45, .one), (14, some 46, .pure), (15, some 47, .pure), (16, none, .last), (17, some 48, .last), (18, some 49, .last), (19, none, .last)] (by kernel_rfl) (by kernel_rfl) ?_
  have hS := below_drew (Below.refl w3.heap.size w3)
  repeat (first
    | (refine s_pure (v := ?_) (a' := ?_) rfl (fun _ _ _ h => h) rfl ?hy ?ha ?_; (case hy => (intro w_; go_simp; with_reducible rfl)); (case ha => (simp only [Act.put, List.setIfInBounds_toArray, List.set_cons_zero, List.set_cons_succ, i64_w, i32_w]; rfl)))
    | (refine s_held (v := ?_) (a' := ?_) hS rfl (fun _ _ _ h => h) rfl ?hy ?ha ?_; (case hy => (intro w_ hb_; have s0 := pw_cell_below hb_ c3; have s1 := pw_cell_below hb_ c4; go_simp; with_reducible rfl)); (case ha => (simp only [Act.put, List.setIfInBounds_toArray, List.set_cons_zero, List.set_cons_succ, i64_w, i32_w]; rfl))))
  refine s_oneL rfl (fun K hK => ?_) rfl
  go_wp2_with (go_at_call 54; (with_reducible refine (wto_any r.ign s _ HI.out).mono ?_); rintro e w4 ⟨rfl, hB⟩)
  have hS2 : Below w3.heap.size w3 w4 := hS.trans (below_sub hB hS.size)
  clear hB hS
  refine hK _ _ hS2 ?_
  clear hK
  repeat (first
    | (refine s_pure (v := ?_) (a' := ?_) rfl (fun _ _ _ h => h) rfl ?hy ?ha ?_; (case hy => (intro w_; go_simp; with_reducible rfl)); (case ha => (simp only [Act.put, List.setIfInBounds_toArray, List.set_cons_zero, List.set_cons_succ, i64_w, i32_w]; rfl)))
    | (refine s_held (v := ?_) (a' := ?_) hS rfl (fun _ _ _ h => h) rfl ?hy ?ha ?_; (case hy => (intro w_ hb_; go_simp; with_reducible rfl)); (case ha => (simp only [Act.put, List.setIfInBounds_toArray, List.set_cons_zero, List.set_cons_succ, i64_w, i32_w]; rfl))))
  refine s_oneL rfl (fun K hK => ?_) rfl
  go_wp2_with (go_at_call 54; (with_reducible refine (wto_any r.ca s _ HC.out).mono ?_); rintro e w5 ⟨rfl, hB⟩)
  have hS3 : Below w3.heap.size w3 w5 := hS2.trans (below_sub hB hS2.size)
  clear hB hS2
  refine hK _ _ hS3 ?_
  clear hK
  repeat (first
    | (refine s_pure (v := ?_) (a' := ?_) rfl (fun _ _ _ h => h) rfl ?hy ?ha ?_; (case hy => (intro w_; go_simp; with_reducible rfl)); (case ha => (simp only [Act.put, List.setIfInBounds_toArray, List.set_cons_zero, List.set_cons_succ, i64_w, i32_w]; rfl)))
    | (refine s_held (v := ?_) (a' := ?_) hS rfl (fun _ _ _ h => h) rfl ?hy ?ha ?_; (case hy => (intro w_ hb_; go_simp; with_reducible rfl)); (case ha => (simp only [Act.put, List.setIfInBounds_toArray, List.set_cons_zero, List.set_cons_succ, i64_w, i32_w]; rfl))))
  refine s_tail 16 _ (by kernel_rfl) ?_
  simp only [List.drop_succ_cons, List.drop_zero]
  have H5 := Aside0.mk (H3.out.below hS3)
  have HB5 := Aside0.mk (HB.out.trans (below_sub hS3 HB.out.size))
  clear c3 c4 hS3 H3 HB H
  have pv := H5.out.yes pid r HF.out
  have c3 : w5.cell? ⟨B pid, 3, none⟩ = some (.int .u32 (r.ign : Int)) := (blk_cell pv.blk 3).trans rfl
  have c4 : w5.cell? ⟨B pid, 4, none⟩ = some (.int .u32 (r.ca : Int)) := (blk_cell pv.blk 4).trans rfl
  have f3 := blk_frozen pv.blk 3
  have f4 := blk_frozen pv.blk 4
  have HLW := Aside0.mk pv.low
  have HPR := Aside0.mk pv.par
  clear pv
  have HI1 := Aside0.mk (wto_lt s HI.out)
  have HC1 := Aside0.mk (wto_lt s HC.out)
  have H6 := Aside0.mk (H5.out.put (r' := { r with ign := wto r.ign s }) (j := 3) (u := .int .u32 ((wto r.ign s : Nat) : Int)) HF.out rfl HPR.out HI1.out HC.out HPN.out)
  have H7 := Aside0.mk (H6.out.put (q := pid) (r' := { r with ign := wto r.ign s, ca := wto r.ca s }) (j := 4) (u := .int .u32 ((wto r.ca s : Nat) : Int)) (upd_same _ _ _) rfl HPR.out HI1.out HC1.out HPN.out)
  have HB7 := Aside0.mk (((below_sub HB5.out HBS.out).setCell (p := ⟨B pid, 3, none⟩) HLW.out (.int .u32 ((wto r.ign s : Nat) : Int))).setCell (p := ⟨B pid, 4, none⟩) HLW.out (.int .u32 ((wto r.ca s : Nat) : Int)))
  clear H5 HB5 H6
  go_upto_region 5 with (fail)
  generalize (w5.setCell ⟨B pid, 3, none⟩ (.int .u32 ((wto r.ign s : Nat) : Int))).setCell ⟨B pid, 4, none⟩ (.int .u32 ((wto r.ca s : Nat) : Int)) = w7 at *
  clear c3 c4 f3 f4
  rw [upd_upd] at H7
  have HF7 := Aside0.mk (upd_same f pid (some { r with ign := wto r.ign s, ca := wto r.ca s }))
  generalize hr1 : ({ r with ign := wto r.ign s, ca := wto r.ca s } : Pr) = r1 at *
  have pv := H7.out.yes pid r1 HF7.out
  have b3 : w7.cell? ⟨B pid, 3, none⟩ = some (.int .u32 (r1.ign : Int)) := (blk_cell pv.blk 3).trans rfl
  have b4 : w7.cell? ⟨B pid, 4, none⟩ = some (.int .u32 (r1.ca : Int)) := (blk_cell pv.blk 4).trans rfl
  have b5 : w7.cell? ⟨B pid, 5, none⟩ = some (.int .u32 (r1.pen : Int)) := (blk_cell pv.blk 5).trans rfl
  have HK7 := Aside0.mk pv.blk
  have HI7 := Aside0.mk pv.ign
  have HC7 := Aside0.mk pv.ca
  have HN7 := Aside0.mk pv.pen
  have HP7 := Aside0.mk pv.par
  have HL7 := Aside0.mk pv.low
  have HR1 := Aside0.mk hr1
  clear pv hr1
  go_wp2_with (go_at_call 34; (with_reducible refine (with_any r1.ca s _ HC7.out).mono ?_); rintro e w8 ⟨rfl, hB⟩; have H8 := Aside0.mk (H7.out.below hB); have c4 := (blk_cell (blk_below HK7.out hB) 4).trans rfl; have f4 := blk_frozen (blk_below HK7.out hB) 4; have HB8 := Aside0.mk (HB7.out.trans (below_sub hB (Nat.le_trans HBS.out HB7.out.size))); clear hB b3 b4 b5)
  go_ret
  have e : ({ r1 with ca := wth r1.ca s } : Pr) = putR r s 2 := by unfold putR; rw [if_neg (by decide), if_pos rfl, ← HR1.out]
  have T := H8.out.put (q := pid) (r' := { r1 with ca := wth r1.ca s }) (j := 4) (u := .int .u32 ((wth r1.ca s : Nat) : Int)) HF7.out rfl HP7.out HI7.out (wth_lt s HC7.out) HN7.out
  rw [upd_upd, e] at T
  exact ⟨rfl, ⟨_, _, _, _, _, T⟩, HB8.out.setCell (p := ⟨B pid, 4, none⟩) HL7.out _⟩
/-- Nothing is put. -/
theorem put_off {f : Tb} {pid s h : Int} (hb : putB f pid s h = false) : putT f pid s h = f := by
  unfold putT
  rw [hb]; rfl
set_option maxHeartbeats 4000000 in
set_option maxRecDepth 100000 in
theorem putno_any (h : TV w base X g m n D B v f last ends) (pid s k : Int) (hp : (Lit.int .i64 pid).wf = true) (hl : liv f pid = true) (hs1 : isg s = true) (hfx : fx s = true) :
    Calls Tryd.prog 20 #[.pointer (some ⟨g, 0, none⟩), .int .i64 pid, .int .i64 s, .int .i64 k] w fun e w' => e = .returned (.bool false) ∧ Below w.heap.size w w' := by
  have H := Aside0.mk h
  have HP := Aside0.mk hp
  have HB := Aside0.mk (Below.refl w.heap.size w)
  have HS := Aside0.mk hs1
  have HFX := Aside0.mk (show fixed s = true from hfx)
  clear h hp hs1 hfx
  go_enter Tryd.func20, Tryd.ntmps20
  go_wp2_with (first
    | (go_at_call 35; (with_reducible refine (liv_ptr H.out pid HP.out).mono ?_); rintro e w1 ⟨rfl, rfl⟩; rw [hl]; simp only [ptr, if_true])
    | (go_at_call 48; (with_reducible refine (is_sg s _).mono ?_); rintro e w2 ⟨rfl, hB⟩; rw [HS.out]; have n1 := Aside0.mk (below_trans HB.out (below_sub hB HB.out.size)); clear hB HB; have HB := n1; clear n1)
    | (go_at_call 33; (with_reducible refine (sfixed_any s _).mono ?_); rintro e w3 ⟨rfl, hB⟩; rw [HFX.out]; have n1 := Aside0.mk (below_trans HB.out (below_sub hB HB.out.size)); clear hB HB; have HB := n1; clear n1))
  go_ret
  exact ⟨rfl, HB.out⟩
end
end Go.Proofs.YtbgodajbdbgdfaaDoor.Kern
/- kern: Exit: its contract. -/
namespace Go.Proofs.YtbgodajbdbgdfaaDoor.Kern
open Go.RowKit Go.Proofs.YtbgodajbdbgdfaaDoorW.PrintWords Go.Proofs.YtbgodajbdbgdfaaDoorW.PrintLast Go.Proofs.YtbgodajbdbgdfaaDoor.Sig Go.Proofs.YtbgodajbdbgdfaaDoor.Base Go.Proofs.YtbgodajbdbgdfaaDoor.Seq Go.Maps
set_option linter.unusedVariables false
set_option linter.unusedSimpArgs false
/-- A row's block: the old one, or a new one. -/
def OwnAt (w : World) (v v' : Value) : Prop := v'.ownBlock = v.ownBlock ∨ ∃ b, v'.ownBlock = some b ∧ w.heap.size ≤ b
section
variable {ops : Array Oper} {rest : List Oper} {o : Oper} {a : Act} {Q : Exit → Act → World → Prop}
/-- The step of a loop over the processes. -/
theorem next_procs (w : World) (hg : o.guard = none) (it : Operand) (hop : o.op = Op.next it false) (b r n : Nat) (D : Dm) (left : Lit → Bool) (cnt : Nat)
    (hD : ∀ x, Maps.has D (.int .i64 x) = true → ∃ bb : Nat, ∀ zd, D.atKey (.int .i64 x) zd = .lit (.int .i64 (bb : Int)))
    (hit : a.eval it = .pointer (some ⟨r, 0, none⟩)) (h : w.ranges Tryd.prog 3 Rp b r n D left cnt)
    (hDone : cnt = 0 → (∀ kl, left kl = false) → wpList Tryd.prog ops Q rest (a.put o.dst (.tuple #[.bool false])) w)
    (hMore : ∀ (x : Int) (bb : Nat) (w' : World) (cnt' : Nat), (Lit.int .i64 x).wf = true → left (.int .i64 x) = true → (∀ zd, D.atKey (.int .i64 x) zd = .lit (.int .i64 (bb : Int))) → w'.ranges Tryd.prog 3 Rp b r n D (fun z => left z && !z.sameKey (.int .i64 x)) cnt' → cnt' < cnt →
      w.grownBy w' (some r) → w'.heap.size = w.heap.size → (Instr.entry (.pointer (some ⟨r, 0, none⟩))).run Tryd.prog w' = .ok (.tuple #[.int .i64 x, .pointer (some ⟨bb, 0, none⟩)]) w' → wpList Tryd.prog ops Q rest (a.put o.dst (.tuple #[.bool true, .int .i64 x, .pointer (some ⟨bb, 0, none⟩)])) w') :
    wpList Tryd.prog ops Q (o :: rest) a w :=
  wpList_next_ranges (β := Option Nat) w hg it hop 3 keyI Rp (Value.int .i64) (fun c => .pointer (c.map fun b => ⟨b, 0, none⟩)) (fun key kl hkey => by obtain ⟨x, rfl, _⟩ := Maps.keyOf_int_inv Tryd.underlying3 hkey; exact ⟨x, rfl⟩)
    (fun v y hv => by
      rcases Rp_inv hv with ⟨rfl, _⟩ | ⟨b, rfl, _⟩
      · exact ⟨none, rfl⟩
      · exact ⟨some b, rfl⟩)
    b r n D left cnt hit h hDone (fun x c kl y w' cnt' hkey hlk hv hat hrg hlt hgr hsz hen => by
      obtain ⟨x', ex, rfl, hwx⟩ := Maps.keyOf_int_inv Tryd.underlying3 hkey
      cases ex
      obtain ⟨bb, hbb⟩ := hD x (has_true_of_atKey hat)
      have e : y.1 = .lit (.int .i64 (bb : Int)) := (hat .nil).symm.trans (hbb .nil)
      cases c with
      | none =>
        have : y = (.nil, []) := (Option.some.inj hv).symm
        rw [this] at e
        cases e
      | some b' =>
        have h1 : y = (.lit (.int .i64 (b' : Int)), []) := (Option.some.inj hv).symm
        rw [h1] at e
        have h2 : b' = bb := by
          simp only [DataW.lit.injEq, Lit.int.injEq] at e
          omega
        subst h2
        exact hMore x b' w' cnt' hwx hlk hbb hrg hlt hgr hsz hen)
theorem app_end {w0 W : World} (base : Nat) (hgd : o.guard = none) (s x : Operand) (ho : o.op = .call { callee := .builtin .append, args := #[s, x], argTypes := #[34, 34] })
    (v : Value) (xs : List (Int × Int)) (p q : Int) (hs : a.eval s = v) (hx : a.eval x = .slice (some ⟨W.heap.size, 0, none⟩) 1 1)
    (HO : kEnd.R 73 W base ok0 v xs) (HB : Below base w0 W) (hbase : base ≤ W.heap.size) (hl : xs.length + 1 ≤ 1000000000000)
    (h : ∀ A n c w1, kEnd.R 73 w1 base ok0 (.slice A n c) (xs ++ [(p, q)]) → Below base w0 w1 → W.grownBy w1 v.ownBlock → OwnAt W v (.slice A n c) → wpList Tryd.prog ops Q rest (a.put o.dst (.slice A n c)) w1) :
    wpList Tryd.prog ops Q (o :: rest) a (W.alloc (.cells #[.int .i64 p, .int .i64 q] 73)) := by
  refine Kd.R_append kEnd (w0 := w0) base hgd s x 34 73 (.agg #[.int .i64 0, .int .i64 0]) 16 ho Tryd.underlying34 (by kernel_rfl) rfl (by decide) (by decide) v xs (p, q) [.int .i64 p, .int .i64 q] ok0 (fun _ => False) hs hx ⟨[.int .i64 p], [.int .i64 q], rfl, rfl, rfl⟩ (fun _ h => h.elim) (fun _ _ => trivial) HO HB hbase (by omega) ?_
  intro v1 w1 hR hB hG hat
  obtain ⟨A, n, c, rfl⟩ := R_slice3 hR
  exact h A n c w1 hR hB hG hat
end
/-- What the loop has done, as what is left says. -/
def fl (f0 : Tb) (pid : Int) (left : Lit → Bool) : Tb := fun q => if left (.int .i64 q) = true then f0 q else (f0 q).bind (aft pid q)
theorem fl_start {f0 : Tb} {pid : Int} {D : Dm} (h : ∀ q, f0 q ≠ none → Maps.has D (.int .i64 q) = true) : fl f0 pid (Maps.has D) = f0 := by
  funext q
  unfold fl
  cases hf : f0 q with
  | none => split <;> rfl
  | some r => rw [if_pos (h q (by rw [hf]; simp))]
theorem fl_end {f0 : Tb} {pid : Int} {left : Lit → Bool} (h : ∀ kl, left kl = false) : fl f0 pid left = fun q => (f0 q).bind (aft pid q) := by
  funext q
  unfold fl
  rw [h, if_neg (by decide)]
theorem fl_step {f0 : Tb} {pid x : Int} {left : Lit → Bool} (hl : left (.int .i64 x) = true) : fl f0 pid (fun z => left z && !z.sameKey (.int .i64 x)) = upd (fl f0 pid left) x ((f0 x).bind (aft pid x)) := by
  funext q
  unfold upd
  by_cases e : q = x
  · subst e
    rw [if_pos rfl]
    show (if (left (.int .i64 q) && !(Lit.int .i64 q).sameKey (.int .i64 q)) = true then f0 q else (f0 q).bind (aft pid q)) = _
    rw [WideAt.sameKey_self (a := .int .i64 q) (by trivial), Bool.not_true, Bool.and_false, if_neg (by decide)]
  · rw [if_neg e]
    show (if (left (.int .i64 q) && !(Lit.int .i64 q).sameKey (.int .i64 x)) = true then f0 q else (f0 q).bind (aft pid q)) = if left (.int .i64 q) = true then f0 q else (f0 q).bind (aft pid q)
    rw [sameKey_ne (show Lit.int .i64 q ≠ .int .i64 x by simp only [ne_eq, Lit.int.injEq, not_and]; exact fun _ => e), Bool.not_false, Bool.and_true]
theorem upd_self {f : Tb} {p : Int} {r : Option Pr} (h : f p = r) : upd f p r = f := by
  funext q
  unfold upd
  split
  · rename_i e; rw [e, h]
  · rfl
theorem grown_set (w : World) (p : Addr) (u : Value) : w.grownBy (w.setCell p u) (some p.block) :=
  ⟨rfl, rfl, rfl, by simp [World.setCell], fun i hi hne => Below.heap_setCell w p u i (fun e => hne (by rw [e]))⟩
section
variable {w : World} {base g m n : Nat} {X : Gh} {D : Dm} {B : Int → Nat} {v : Value} {f : Tb} {last : Int} {ends : List (Int × Int)}
/-- How processes ended: one more. -/
theorem TV.more (h : TV w base X g m n D B v f last ends) {w' : World} {v' : Value} {ends' : List (Int × Int)} (hgr : w.grownBy w' v.ownBlock) (hr : kEnd.R 73 w' base ok0 v' ends') (hat : OwnAt w v v') : TV (w'.setCell ⟨g, 2, none⟩ v') base X g m n D B v' f last ends' := by
  have hg' : w'.heap[g]? = some (.cells #[.map (some m), .int .i64 last, v] 70 (0, 0)) := blk_grown h.hg hgr (Kd.R_ne h.row h.hg (by decide))
  have own' : w'.ownsMap Tryd.prog 3 Rp m n D := h.own.kept hgr h.rowM
  have neM' : ∀ {k t : Nat} {cs : Array Value}, w'.heap[k]? = some (.cells cs t (0, 0)) → k ≠ m := by
    intro k t cs hk
    rintro rfl
    obtain ⟨es, clock, hb, _⟩ := own'
    rw [hk] at hb
    cases hb
  exact {
    hg := blk_put hg' 2 _ rfl
    bg := h.bg
    bm := h.bm
    own := own'.setCell (a := ⟨g, 2, none⟩) (neM' hg').symm _
    cnt := h.cnt
    lmt := h.lmt
    top := h.top
    no := h.no
    yes := fun q r hq => by
      have p := h.yes q r hq
      exact ⟨p.key, p.low, blk_far (blk_grown p.blk hgr (Kd.R_ne h.row p.blk (by decide))) (h.neT hq).symm _, p.par, p.ign, p.ca, p.pen⟩
    inj := h.inj
    row := Kd.R_set hr hg' (kEnd_E (by decide)) 2 _
    gh := fun k cs t hx => by
      have p := h.gh k cs t hx
      have hk := blk_lt p.1
      refine ⟨blk_far (blk_grown p.1 hgr (fun e => p.2.2.2 e.symm)) (show k ≠ g from blk_ne p.1 h.hg p.2.2.1) _, p.2.1, p.2.2.1, ?_⟩
      rcases hat with e | ⟨b, e, hb⟩
      · rw [e]; exact p.2.2.2
      · rw [e]; intro e2; injection e2 with e2; omega }
/-- The loop's own block has turned. -/
theorem TV.iter (h : TV w base X g m n D B v f last ends) {w' : World} {k : Nat} (hgr : w.grownBy w' (some k)) (hk : ∀ t cs, w.heap[k]? ≠ some (.cells cs t (0, 0))) (own' : w'.ownsMap Tryd.prog 3 Rp m n D) : TV w' base X g m n D B v f last ends where
  hg := blk_grown h.hg hgr (fun e => hk _ _ (by cases e; exact h.hg))
  bg := h.bg
  bm := h.bm
  own := own'
  cnt := h.cnt
  lmt := h.lmt
  top := h.top
  no := h.no
  yes := fun q r hq => by
    have p := h.yes q r hq
    exact ⟨p.key, p.low, blk_grown p.blk hgr (fun e => hk _ _ (by cases e; exact p.blk)), p.par, p.ign, p.ca, p.pen⟩
  inj := h.inj
  row := Kd.R_grown1 h.row rfl hgr (fun e => by
    obtain ⟨cells, hc⟩ := Kd.R_typed h.row k e.symm
    exact hk _ _ hc)
  gh := fun k2 cs t hx => by
    have p := h.gh k2 cs t hx
    exact ⟨blk_grown p.1 hgr (fun e => hk _ _ (by cases e; exact p.1)), p.2⟩
theorem ranges_iter {b r n : Nat} {D : Dm} {left : Lit → Bool} {cnt : Nat} (h : w.ranges Tryd.prog 3 Rp b r n D left cnt) : ∀ t cs, w.heap[r]? ≠ some (.cells cs t (0, 0)) := by
  obtain ⟨es, clock, since, seen, c0, _, _, _, _, hr, _⟩ := h
  intro t cs e
  rw [e] at hr
  cases hr
theorem TV.hasD (h : TV w base X g m n D B v f last ends) (x : Int) (hx : Maps.has D (.int .i64 x) = true) : ∃ r, f x = some r := by
  cases hf : f x with
  | none => rw [h.no x hf] at hx; cases hx
  | some r => exact ⟨r, rfl⟩
/-- What is left of all behind the loop. -/
theorem after_self {f : Tb} {pid : Int} {r r1 : Pr} (hr1 : r1.par = r.par) (hp : r.par < pid) : (upd f pid (some r1) pid).bind (aft pid pid) = some r1 := by
  rw [upd_same]
  show aft pid pid r1 = some r1
  unfold aft
  rw [if_neg (by omega)]
theorem liv_after {f : Tb} {pid : Int} {r r1 : Pr} (hpar : ∀ q c, f q = some c → c.par < q) (hp : r.par < pid) : liv (fun q => (upd f pid (some r1) q).bind (aft pid q)) r.par = liv f r.par := by
  unfold liv
  show (match (upd f pid (some r1) r.par).bind (aft pid r.par) with | some r => r.live | none => false) = _
  rw [upd_other (show r.par ≠ pid by omega)]
  cases hf : f r.par with
  | none => rfl
  | some c =>
    have := hpar _ _ hf
    show (match aft pid r.par c with | some r => r.live | none => false) = c.live
    unfold aft
    rw [if_neg (by omega)]
theorem endd_live {f : Tb} {pid S : Int} {r : Pr} (hf : f pid = some r) (hp : r.par < pid) (hl : liv f r.par = true) : (fun q => (upd f pid (some { r with live := false, status := S }) q).bind (aft pid q)) = endd f pid S := by
  funext q
  unfold endd
  rw [hf]
  show _ = if q = pid then (if liv f r.par = true then some { r with live := false, status := S } else none) else (f q).bind (aft pid q)
  by_cases e : q = pid
  · subst e
    rw [if_pos rfl, if_pos hl]
    exact after_self rfl hp
  · rw [if_neg e, upd_other e]
theorem endd_dead {f : Tb} {pid S : Int} {r : Pr} (hf : f pid = some r) (hl : liv f r.par = false) : upd (fun q => (upd f pid (some { r with live := false, status := S }) q).bind (aft pid q)) pid none = endd f pid S := by
  funext q
  unfold endd
  rw [hf]
  show _ = if q = pid then (if liv f r.par = true then some { r with live := false, status := S } else none) else (f q).bind (aft pid q)
  by_cases e : q = pid
  · subst e
    rw [if_pos rfl, if_neg (by rw [hl]; decide), upd_same]
  · rw [if_neg e, upd_other e]
    show (upd f pid _ q).bind (aft pid q) = _
    rw [upd_other e]
end
end Go.Proofs.YtbgodajbdbgdfaaDoor.Kern
/- kern: Exit: the walk. -/
namespace Go.Proofs.YtbgodajbdbgdfaaDoor.Kern
open Go.RowKit Go.Proofs.YtbgodajbdbgdfaaDoorW.PrintWords Go.Proofs.YtbgodajbdbgdfaaDoorW.PrintLast Go.Proofs.YtbgodajbdbgdfaaDoor.Sig Go.Proofs.YtbgodajbdbgdfaaDoor.Base Go.Proofs.YtbgodajbdbgdfaaDoor.Seq Go.Maps
set_option linter.unusedVariables false
set_option linter.unusedSimpArgs false
/-- The loop's state. -/
structure XL (wr : World) (base : Nat) (X : Gh) (g m n rI : Nat) (B : Int → Nat) (v : Value) (f0 : Tb) (pid last : Int) (ends : List (Int × Int)) (w : World) (left : Lit → Bool) (cnt : Nat) (D : Dm) : Prop where
  tv : TV wr base X g m n D B v (fl f0 pid left) last ends
  rg : wr.ranges Tryd.prog 3 Rp m rI n D left cnt
  bl : Below base w wr
section
variable {w : World} {base g m n : Nat} {X : Gh} {D : Dm} {B : Int → Nat} {v : Value} {f : Tb} {last : Int} {ends : List (Int × Int)}
set_option maxHeartbeats 4000000 in
set_option maxRecDepth 100000 in
theorem exit_any (h : TV w base X g m n D B v f last ends) (pid st : Int) (r : Pr) (hp : (Lit.int .i64 pid).wf = true) (hf : f pid = some r) (hlv : r.live = true) (hen : ends.length ≤ 1000000) :
    Calls Tryd.prog 9 #[.pointer (some ⟨g, 0, none⟩), .int .i64 pid, .int .i64 st] w fun e w' => e = .returned (.bool true) ∧ TW w' base X g (endd f pid (bits .and .i64 st 255)) last (ends ++ [(pid, bits .and .i64 st 255)]) ∧ Below base w w' := by
  have H := Aside0.mk h
  have HP := Aside0.mk hp
  have hl : liv f pid = true := by unfold liv; rw [hf]; exact hlv
  have pv := h.yes pid r hf
  have HTP := Aside0.mk (h.top pid (by rw [hf]; simp))
  have HPAR := Aside0.mk (show ∀ q c, f q = some c → c.par < q from fun q c hq => (h.yes q c hq).par.2)
  have f1 := blk_frozen pv.blk 1
  have f2 := blk_frozen pv.blk 2
  have k1 : w.cell? ⟨B pid, 1, none⟩ = some (.bool r.live) := (blk_cell pv.blk 1).trans rfl
  have k2 : w.cell? ⟨B pid, 2, none⟩ = some (.int .i64 r.status) := (blk_cell pv.blk 2).trans rfl
  have HBS := Aside0.mk (show base ≤ w.heap.size from Nat.le_trans h.bg (Nat.le_of_lt (blk_lt h.hg)))
  have HF := Aside0.mk hf
  have HPV := Aside0.mk pv.par
  obtain ⟨S, hS⟩ : ∃ S, S = bits .and .i64 st 255 := ⟨_, rfl⟩
  obtain ⟨r1, hr1⟩ : ∃ r1 : Pr, r1 = { r with live := false, status := S } := ⟨_, rfl⟩
  have H1 := Aside0.mk (h.put (r' := { r with live := false }) (j := 1) (u := .bool false) hf rfl pv.par pv.ign pv.ca pv.pen)
  have H2 := Aside0.mk (H1.out.put (q := pid) (r' := r1) (j := 2) (u := .int .i64 S) (upd_same _ _ _) (by rw [hr1]; rfl) (by rw [hr1]; exact pv.par) (by rw [hr1]; exact pv.ign) (by rw [hr1]; exact pv.ca) (by rw [hr1]; exact pv.pen))
  rw [upd_upd] at H2
  have HB2 := Aside0.mk (((Below.refl base w).setCell (p := ⟨B pid, 1, none⟩) pv.low (.bool false)).setCell (p := ⟨B pid, 2, none⟩) pv.low (.int .i64 S))
  have HR1 := Aside0.mk hr1
  rw [← hS]
  clear h hp pv H1 hr1
  go_enter Tryd.func9, Tryd.ntmps9
  go_upto_region 5 with (first
    | (go_at_call 35; (with_reducible refine (liv_ptr H.out pid HP.out).mono ?_); rintro e w1 ⟨rfl, rfl⟩; rw [hl]; simp only [ptr, if_true])
    | (simp only [← hS]))
  clear k1 k2 f1 f2 H
  generalize (w.setCell ⟨B pid, 1, none⟩ (.bool false)).setCell ⟨B pid, 2, none⟩ (.int .i64 S) = w2 at *
  have es : r1.status = S := by rw [HR1.out]
  have pv := H2.out.yes pid r1 (upd_same _ _ _)
  have b2 : w2.cell? ⟨B pid, 2, none⟩ = some (.int .i64 S) := by rw [← es]; exact (blk_cell pv.blk 2).trans rfl
  have c2 : w2.cell? ⟨g, 2, none⟩ = some v := (blk_cell H2.out.hg 2).trans rfl
  clear pv hS es
  refine region_seq (fun w_ => Below w2.heap.size w2 w_) [12, 13, 14, 15]
    [(0, some 23, .pure), (1, some 24, .pure), (2, some 25, .pure), (3, some 26, .pure), (5, some 28, .pure), (6, some 29, .pure), (7, some 30, .pure), (8, some 31, .pure), (4, some 27, .held), (9, some 32, .held), (10, some 33, .pure), (11, some 34, .one), (12, some 35, .last), (13, some 36, .last), (14, some 37, .last), (15, none, .last)] (by kernel_rfl) (by kernel_rfl) ?_
  have hS := below_drew (Below.refl w2.heap.size w2)
  repeat (first
    | (refine s_pure (v := ?_) (a' := ?_) rfl (fun _ _ _ h => h) rfl ?hy ?ha ?_; (case hy => (intro w_; go_simp; with_reducible rfl)); (case ha => (simp only [Act.put, List.setIfInBounds_toArray, List.set_cons_zero, List.set_cons_succ, i64_w, i32_w]; rfl)))
    | (refine s_held (v := ?_) (a' := ?_) hS rfl (fun _ _ _ h => h) rfl ?hy ?ha ?_; (case hy => (intro w_ hb_; have s0 := pw_cell_below hb_ c2; have s1 := pw_cell_below hb_ b2; go_simp; with_reducible rfl)); (case ha => (simp only [Act.put, List.setIfInBounds_toArray, List.set_cons_zero, List.set_cons_succ, i64_w, i32_w]; rfl))))
  (refine s_new (v := ?_) (w1 := ?_) (a' := ?_) rfl rfl rfl ?hy ?ha ?hS ?_; (case hy => (go_simp; first | with_reducible rfl | (refine ⟨?_, ?_⟩ <;> with_reducible rfl))); (case ha => (simp only [Act.put, List.setIfInBounds_toArray, List.set_cons_zero, List.set_cons_succ, i64_w, i32_w]; rfl)); (case hS => (repeat (first | exact hS | exact Below.refl _ _ | refine below_drew ?_ | refine below_alloc ?_ _))))
  refine s_tail 12 _ (by kernel_rfl) ?_
  simp only [List.drop_succ_cons, List.drop_zero]
  have H2d := Aside0.mk (H2.out.below (below_drew (Below.refl w2.heap.size w2)))
  have HB2d := Aside0.mk (HB2.out.trans (below_drew (Below.refl base w2)))
  have HEN := Aside0.mk hen
  clear c2 b2 hS hen
  go_upto_region 6 with (first | (
    (with_reducible refine gate_dst (N := 35) rfl ?_)
    go_loud (refine app_end base (w0 := w) (W := w2.drew) rfl (.tmp 27) (.tmp 34) rfl v ends pid S rfl rfl H2d.out.row HB2d.out (Nat.le_trans HBS.out HB2d.out.size) (by have := HEN.out; omega) ?_)
    intro A5 n5 c5 w3 hR hB hG hat
    have H4 := Aside0.mk (H2d.out.more hG hR hat)
    have hg3 := blk_grown H2d.out.hg hG (Kd.R_ne H2d.out.row H2d.out.hg (by decide))
    have c2 := (blk_cell hg3 2).trans rfl
    have f2 := blk_frozen hg3 2
    have HB4 := Aside0.mk (hB.setCell (p := ⟨g, 2, none⟩) H2d.out.bg (.slice A5 n5 c5))
    clear hR hB hG hg3 hat))
  clear c2 f2 H2 H2d HB2 HB2d
  generalize w3.setCell ⟨g, 2, none⟩ (.slice A5 n5 c5) = w4 at *
  have c0 : w4.cell? ⟨g, 0, none⟩ = some (.map (some m)) := (blk_cell H4.out.hg 0).trans rfl
  go_wp2_with (first
    | (at_range; refine wpList_range_own _ rfl _ 68 rfl 3 63 keyI Tryd.underlying68 Rp m n D rfl H4.out.own ?_; intro w5 hrg0 hg0 hs0)
    | go_in)
  go_frame
  have HXL := Aside0.mk (show XL w5 base X g m n w4.heap.size B (.slice A5 n5 c5) (upd f pid (some r1)) pid last (ends ++ [(pid, S)]) w (Maps.has D) (Maps.size D) D from
    ⟨by rw [fl_start (fun q hq => by obtain ⟨r', hr'⟩ := Option.ne_none_iff_exists'.1 hq; exact has_true_of_atKey (H4.out.yes q r' hr').key)]; exact H4.out.below ⟨hg0.os, hg0.tape, hg0.output, hg0.size, fun i hi => hg0.block i hi (by simp)⟩, hrg0,
      HB4.out.trans ⟨hg0.os, hg0.tape, hg0.output, hg0.size, fun i hi => hg0.block i (by have := HBS.out; have := HB4.out.size; omega) (by simp)⟩⟩)
  clear hrg0 hg0 hs0 c0
  go_loopw [8] (fun _ wr => ∃ (left : Lit → Bool) (cnt : Nat) (D' : Dm), Aside0 (XL wr base X g m n w4.heap.size B (.slice A5 n5 c5) (upd f pid (some r1)) pid last (ends ++ [(pid, S)]) w left cnt D')) (fun _ wr => wr.rangeLeft m w4.heap.size)
  case atStart => exact ⟨_, _, _, HXL⟩
  case round =>
    clear HXL
    obtain ⟨left, cnt, D', HX⟩ := hrel
    have HD := Aside0.mk (show ∀ x, Maps.has D' (.int .i64 x) = true → ∃ bb : Nat, ∀ zd, D'.atKey (.int .i64 x) zd = .lit (.int .i64 (bb : Int)) from fun x hx => by obtain ⟨c, hc⟩ := HX.out.tv.hasD x hx; exact ⟨B x, (HX.out.tv.yes x c hc).key⟩)
    go_wp2_with (first
      | (at_next; refine next_procs _ rfl _ rfl m w4.heap.size n D' left cnt HD.out rfl HX.out.rg ?_ ?_)
      | go_in)
    · intro _ hl0
      have H5 := Aside0.mk HX.out.tv
      rw [fl_end hl0] at H5
      have HB5 := Aside0.mk HX.out.bl
      have epar : r1.par = r.par := by rw [HR1.out]
      have HSELF := Aside0.mk (after_self (f := f) epar HPV.out.2)
      have HLIV := Aside0.mk (liv_after (r1 := r1) HPAR.out HPV.out.2)
      have pv := H5.out.yes pid r1 HSELF.out
      have k0 : wr.cell? ⟨B pid, 0, none⟩ = some (.int .i64 r.par) := by rw [← epar]; exact (blk_cell pv.blk 0).trans rfl
      have c0 : wr.cell? ⟨g, 0, none⟩ = some (.map (some m)) := (blk_cell H5.out.hg 0).trans rfl
      have HWP := Aside0.mk (wf_i64 (x := r.par) (by have := HPV.out.1; omega) (by have h1 := HPV.out.2; have h2 := HTP.out.2; have h3 := H5.out.lmt; omega))
      clear pv epar HX HD hl0
      cases hlp : liv f r.par with
      | true =>
        have HE := Aside0.mk (endd_live (S := S) HF.out HPV.out.2 hlp)
        rw [← HR1.out] at HE
        go_wp2_with (go_at_call 24; (with_reducible refine (liv_any H5.out r.par HWP.out).mono ?_); rintro e w7 ⟨rfl, rfl⟩; rw [HLIV.out, hlp])
        go_ret
        exact ⟨rfl, by rw [← HE.out]; exact ⟨_, _, _, _, _, H5.out⟩, HB5.out⟩
      | false =>
        have HE := Aside0.mk (endd_dead (S := S) HF.out hlp)
        rw [← HR1.out] at HE
        go_wp2_with (first
          | (go_at_call 24; (with_reducible refine (liv_any H5.out r.par HWP.out).mono ?_); rintro e w7 ⟨rfl, rfl⟩; rw [HLIV.out, hlp])
          | (at_delete; refine wpList_delete_own _ rfl _ _ 68 3 rfl 63 keyI Tryd.underlying68 Rp m n D' rfl H5.out.own _ (.int .i64 pid) rfl (keyOf_int_mk Tryd.underlying3 HP.out) ?_; intro w8 own8 hturn; have H8 := Aside0.mk (H5.out.del own8 hturn.grown); have HB8 := Aside0.mk (HB5.out.trans (below_grown hturn.grown H5.out.bm (Nat.le_trans HBS.out HB5.out.size))); clear own8 hturn))
        go_ret
        exact ⟨rfl, by rw [← HE.out]; exact ⟨_, _, _, _, _, H8.out⟩, HB8.out⟩
    · intro x bb w6 cnt1 hwx hlx hat hrg1 hlt hg1 hs1 hent
      obtain ⟨c, hc⟩ := HX.out.tv.hasD x (has_true_of_atKey hat)
      have hfx : upd f pid (some r1) x = some c := by
        have := hc
        unfold fl at this
        rw [if_pos hlx] at this
        exact this
      obtain rfl : bb = B x := by
        have := (hat .nil).symm.trans ((HX.out.tv.yes x c hc).key .nil)
        simp only [DataW.lit.injEq, Lit.int.injEq] at this
        omega
      have HT1 := Aside0.mk (HX.out.tv.iter hg1 (ranges_iter HX.out.rg) hrg1.owns)
      have HB6 := Aside0.mk (HX.out.bl.trans (below_grown hg1 (show base ≤ w4.heap.size from Nat.le_trans HBS.out HB4.out.size) (Nat.le_trans HBS.out HX.out.bl.size)))
      have pv := HT1.out.yes x c hc
      have HPB := Aside0.mk pv
      have k0 : w6.cell? ⟨B x, 0, none⟩ = some (.int .i64 c.par) := (blk_cell pv.blk 0).trans rfl
      have k1 : w6.cell? ⟨B x, 1, none⟩ = some (.bool c.live) := (blk_cell pv.blk 1).trans rfl
      have f0 := blk_frozen pv.blk 0
      have c0 : w6.cell? ⟨g, 0, none⟩ = some (.map (some m)) := (blk_cell HT1.out.hg 0).trans rfl
      have HSTEP := Aside0.mk (fl_step (f0 := upd f pid (some r1)) (pid := pid) hlx)
      rw [hfx] at HSTEP
      have HLX := Aside0.mk hlx
      have HRG := Aside0.mk hrg1
      have HC := Aside0.mk hc
      have HLT := Aside0.mk hlt
      have HOLD := Aside0.mk HX.out.rg.left_eq
      have HX1 := Aside0.mk (HT1.out.top x (by rw [hc]; simp)).1
      clear pv hat hlx hrg1 hg1 hs1 hlt hc hfx HX
      by_cases hpp : c.par = pid
      · have e0 : (c.par != pid) = false := by rw [hpp]; exact bne_self_eq_false pid
        cases hlc : c.live with
        | true =>
          rw [hlc] at k1
          have ha : aft pid x c = some { c with par := 0 } := by unfold aft; rw [if_pos hpp, if_pos hlc]
          have HA := Aside0.mk ha
          have HHL := Aside0.mk hlc
          clear hpp ha hlc
          go_wp2
          go_roundw
          case rel =>
            refine ⟨_, cnt1, D', ⟨⟨?_, HRG.out.kept (grown_set w6 ⟨B x, 0, none⟩ _) (fun e => HT1.out.neM HPB.out.blk (Option.some.inj e).symm) (fun e => ranges_iter HRG.out _ _ (by rw [Option.some.inj e]; exact HPB.out.blk)), HB6.out.setCell (p := ⟨B x, 0, none⟩) HPB.out.low _⟩⟩⟩
            rw [HSTEP.out, show (some c).bind (aft pid x) = some { c with par := 0 } from HA.out]
            exact HT1.out.put (r' := { c with par := 0 }) (j := 0) HC.out rfl ⟨Int.le_refl 0, by have := HX1.out; show (0 : Int) < x; omega⟩ HPB.out.ign HPB.out.ca HPB.out.pen
          case measure => rw [(HRG.out.kept (grown_set w6 ⟨B x, 0, none⟩ (.int .i64 0)) (fun e => HT1.out.neM HPB.out.blk (Option.some.inj e).symm) (fun e => ranges_iter HRG.out _ _ (by rw [Option.some.inj e]; exact HPB.out.blk))).left_eq, HOLD.out]; exact HLT.out
        | false =>
          rw [hlc] at k1
          have ha : aft pid x c = none := by unfold aft; rw [if_pos hpp, if_neg (by rw [hlc]; decide)]
          have HA := Aside0.mk ha
          have HHL := Aside0.mk hlc
          clear hpp ha hlc
          go_wp2_with (first
            | (at_delete; refine wpList_delete_ranges _ rfl _ _ 68 3 rfl 63 keyI Tryd.underlying68 Rp m w4.heap.size n D' _ cnt1 rfl HRG.out _ (.int .i64 x) rfl (keyOf_int_mk Tryd.underlying3 hwx) ?_; intro w8 cnt2 hrg2 hle hturn; rw [Maps.strike_twice] at hrg2; go_frame; have HR2 := Aside0.mk hrg2; have HLE := Aside0.mk hle; have HTU := Aside0.mk hturn.grown; clear hrg2 hle hturn))
          go_roundw
          case rel =>
            refine ⟨_, cnt2, _, ⟨⟨?_, HR2.out, HB6.out.trans (below_grown HTU.out HT1.out.bm (Nat.le_trans HBS.out HB6.out.size))⟩⟩⟩
            rw [HSTEP.out, show (some c).bind (aft pid x) = none from HA.out]
            exact HT1.out.del HR2.out.owns HTU.out
          case measure => rw [HR2.out.left_eq, HOLD.out]; have := HLE.out; have := HLT.out; omega
      · have e0 : (c.par != pid) = true := by rw [bne_iff_ne]; exact hpp
        have ha : aft pid x c = some c := by unfold aft; rw [if_neg hpp]
        have HA := Aside0.mk ha
        clear hpp ha
        go_wp2
        go_roundw
        case rel =>
          refine ⟨_, cnt1, D', ⟨⟨?_, HRG.out, HB6.out⟩⟩⟩
          rw [HSTEP.out, show (some c).bind (aft pid x) = some c from HA.out, upd_self HC.out]
          exact HT1.out
        case measure => rw [HRG.out.left_eq, HOLD.out]; exact HLT.out
end
end Go.Proofs.YtbgodajbdbgdfaaDoor.Kern
/- kern: Send, Exit of nobody: their contracts. -/
namespace Go.Proofs.YtbgodajbdbgdfaaDoor.Kern
open Go.RowKit Go.Proofs.YtbgodajbdbgdfaaDoorW.PrintWords Go.Proofs.YtbgodajbdbgdfaaDoorW.PrintLast Go.Proofs.YtbgodajbdbgdfaaDoor.Sig Go.Proofs.YtbgodajbdbgdfaaDoor.Base Go.Proofs.YtbgodajbdbgdfaaDoor.Seq Go.Maps
set_option linter.unusedVariables false
set_option linter.unusedSimpArgs false
theorem and_255 (s : Int) (h : isg s = true) : bits .and .i64 (128 + s) 255 = 128 + s := by
  have hi := isg_iff.1 h
  have key : ∀ i : Fin 32, bits .and .i64 (128 + (i.val : Int)) 255 = 128 + (i.val : Int) := by decide +kernel
  have := key ⟨s.toNat, by omega⟩
  rw [show ((s.toNat : Nat) : Int) = s by omega] at this
  exact this
section
variable {w : World} {base g m n : Nat} {X : Gh} {D : Dm} {B : Int → Nat} {v : Value} {f : Tb} {last : Int} {ends : List (Int × Int)}
set_option maxHeartbeats 4000000 in
set_option maxRecDepth 100000 in
theorem exitno_any (h : TV w base X g m n D B v f last ends) (pid st : Int) (hp : (Lit.int .i64 pid).wf = true) (hl : liv f pid = false) :
    Calls Tryd.prog 9 #[.pointer (some ⟨g, 0, none⟩), .int .i64 pid, .int .i64 st] w fun e w' => e = .returned (.bool false) ∧ w = w' := by
  have HT := Aside0.mk h
  have HP := Aside0.mk hp
  clear h hp
  go_enter Tryd.func9, Tryd.ntmps9
  go_wp2_with (go_at_call 35; (with_reducible refine (liv_ptr HT.out pid HP.out).mono ?_); rintro e w1 ⟨rfl, rfl⟩; rw [hl]; simp only [ptr, Bool.false_eq_true, if_false])
  go_ret
  exact ⟨rfl, rfl⟩
set_option maxHeartbeats 4000000 in
set_option maxRecDepth 100000 in
theorem sendno_any (h : TV w base X g m n D B v f last ends) (pid s : Int) (hp : (Lit.int .i64 pid).wf = true) (hl : liv f pid = false) :
    Calls Tryd.prog 16 #[.pointer (some ⟨g, 0, none⟩), .int .i64 pid, .int .i64 s] w fun e w' => e = .returned (.bool false) ∧ w = w' := by
  have HT := Aside0.mk h
  have HP := Aside0.mk hp
  clear h hp
  go_enter Tryd.func16, Tryd.ntmps16
  go_wp2_with (go_at_call 35; (with_reducible refine (liv_ptr HT.out pid HP.out).mono ?_); rintro e w1 ⟨rfl, rfl⟩; rw [hl]; simp only [ptr, Bool.false_eq_true, if_false])
  go_ret
  exact ⟨rfl, rfl⟩
set_option maxHeartbeats 4000000 in
set_option maxRecDepth 100000 in
theorem send_ign (h : TV w base X g m n D B v f last ends) (pid s : Int) (r : Pr) (hp : (Lit.int .i64 pid).wf = true) (hf : f pid = some r) (hlv : r.live = true) (hs1 : isg s = true) (h1 : hs r.ign s = true) :
    Calls Tryd.prog 16 #[.pointer (some ⟨g, 0, none⟩), .int .i64 pid, .int .i64 s] w fun e w' => e = .returned (.bool true) ∧ Below w.heap.size w w' := by
  have HT := Aside0.mk h
  have HP := Aside0.mk hp
  have HB := Aside0.mk (Below.refl w.heap.size w)
  have hl : liv f pid = true := by unfold liv; rw [hf]; exact hlv
  have HS := Aside0.mk hs1
  have HBS := Aside0.mk (show base ≤ w.heap.size from Nat.le_trans h.bg (Nat.le_of_lt (blk_lt h.hg)))
  have pv := h.yes pid r hf
  have HI := Aside0.mk pv.ign
  have HC := Aside0.mk pv.ca
  have HN := Aside0.mk pv.pen
  have HF := Aside0.mk hf
  have c3 : w.cell? ⟨B pid, 3, none⟩ = some (.int .u32 (r.ign : Int)) := (blk_cell pv.blk 3).trans rfl
  have c4 : w.cell? ⟨B pid, 4, none⟩ = some (.int .u32 (r.ca : Int)) := (blk_cell pv.blk 4).trans rfl
  have c5 : w.cell? ⟨B pid, 5, none⟩ = some (.int .u32 (r.pen : Int)) := (blk_cell pv.blk 5).trans rfl
  have f5 := blk_frozen pv.blk 5
  have H1 := Aside0.mk h1
  clear h1
  clear h hp pv hs1 hf
  go_enter Tryd.func16, Tryd.ntmps16
  go_wp2_with (first
    | (go_at_call 35; (with_reducible refine (liv_ptr HT.out pid HP.out).mono ?_); rintro e w1 ⟨rfl, rfl⟩; rw [hl]; simp only [ptr, if_true])
    | (go_at_call 48; (with_reducible refine (is_sg s _).mono ?_); rintro e w2 ⟨rfl, hB⟩; rw [HS.out]; have n0 := Aside0.mk (HT.out.below hB); have n1 := Aside0.mk (below_trans HB.out (below_sub hB HB.out.size)); clear hB HB HT; have HT := n0; have HB := n1; clear n0 n1; clear c3 c4 c5 f5; have c3 := (blk_cell (HT.out.yes pid r HF.out).blk 3).trans rfl; have c4 := (blk_cell (HT.out.yes pid r HF.out).blk 4).trans rfl; have c5 := (blk_cell (HT.out.yes pid r HF.out).blk 5).trans rfl; have f5 := blk_frozen (HT.out.yes pid r HF.out).blk 5)
    | (go_at_call 49; (with_reducible refine (has_any r.ign s _ HI.out).mono ?_); rintro e w3 ⟨rfl, hB⟩; rw [H1.out]; have n0 := Aside0.mk (HT.out.below hB); have n1 := Aside0.mk (below_trans HB.out (below_sub hB HB.out.size)); clear hB HB HT; have HT := n0; have HB := n1; clear n0 n1; clear c3 c4 c5 f5; have c3 := (blk_cell (HT.out.yes pid r HF.out).blk 3).trans rfl; have c4 := (blk_cell (HT.out.yes pid r HF.out).blk 4).trans rfl; have c5 := (blk_cell (HT.out.yes pid r HF.out).blk 5).trans rfl; have f5 := blk_frozen (HT.out.yes pid r HF.out).blk 5))
  go_ret
  exact ⟨rfl, HB.out⟩
set_option maxHeartbeats 4000000 in
set_option maxRecDepth 100000 in
theorem send_ca (h : TV w base X g m n D B v f last ends) (pid s : Int) (r : Pr) (hp : (Lit.int .i64 pid).wf = true) (hf : f pid = some r) (hlv : r.live = true) (hs1 : isg s = true) (h1 : hs r.ign s = false) (h2 : hs r.ca s = true) :
    Calls Tryd.prog 16 #[.pointer (some ⟨g, 0, none⟩), .int .i64 pid, .int .i64 s] w fun e w' => e = .returned (.bool true) ∧ TW w' base X g (upd f pid (some { r with pen := wth r.pen s })) last ends ∧ Below base w w' := by
  have HT := Aside0.mk h
  have HP := Aside0.mk hp
  have HB := Aside0.mk (Below.refl w.heap.size w)
  have hl : liv f pid = true := by unfold liv; rw [hf]; exact hlv
  have HS := Aside0.mk hs1
  have HBS := Aside0.mk (show base ≤ w.heap.size from Nat.le_trans h.bg (Nat.le_of_lt (blk_lt h.hg)))
  have pv := h.yes pid r hf
  have HI := Aside0.mk pv.ign
  have HC := Aside0.mk pv.ca
  have HN := Aside0.mk pv.pen
  have HF := Aside0.mk hf
  have c3 : w.cell? ⟨B pid, 3, none⟩ = some (.int .u32 (r.ign : Int)) := (blk_cell pv.blk 3).trans rfl
  have c4 : w.cell? ⟨B pid, 4, none⟩ = some (.int .u32 (r.ca : Int)) := (blk_cell pv.blk 4).trans rfl
  have c5 : w.cell? ⟨B pid, 5, none⟩ = some (.int .u32 (r.pen : Int)) := (blk_cell pv.blk 5).trans rfl
  have f5 := blk_frozen pv.blk 5
  have H1 := Aside0.mk h1
  have H2 := Aside0.mk h2
  clear h1 h2
  clear h hp pv hs1 hf
  go_enter Tryd.func16, Tryd.ntmps16
  go_wp2_with (first
    | (go_at_call 35; (with_reducible refine (liv_ptr HT.out pid HP.out).mono ?_); rintro e w1 ⟨rfl, rfl⟩; rw [hl]; simp only [ptr, if_true])
    | (go_at_call 48; (with_reducible refine (is_sg s _).mono ?_); rintro e w2 ⟨rfl, hB⟩; rw [HS.out]; have n0 := Aside0.mk (HT.out.below hB); have n1 := Aside0.mk (below_trans HB.out (below_sub hB HB.out.size)); clear hB HB HT; have HT := n0; have HB := n1; clear n0 n1; clear c3 c4 c5 f5; have c3 := (blk_cell (HT.out.yes pid r HF.out).blk 3).trans rfl; have c4 := (blk_cell (HT.out.yes pid r HF.out).blk 4).trans rfl; have c5 := (blk_cell (HT.out.yes pid r HF.out).blk 5).trans rfl; have f5 := blk_frozen (HT.out.yes pid r HF.out).blk 5)
    | (go_at_call 49; (with_reducible refine (has_any r.ign s _ HI.out).mono ?_); rintro e w3 ⟨rfl, hB⟩; rw [H1.out]; have n0 := Aside0.mk (HT.out.below hB); have n1 := Aside0.mk (below_trans HB.out (below_sub hB HB.out.size)); clear hB HB HT; have HT := n0; have HB := n1; clear n0 n1; clear c3 c4 c5 f5; have c3 := (blk_cell (HT.out.yes pid r HF.out).blk 3).trans rfl; have c4 := (blk_cell (HT.out.yes pid r HF.out).blk 4).trans rfl; have c5 := (blk_cell (HT.out.yes pid r HF.out).blk 5).trans rfl; have f5 := blk_frozen (HT.out.yes pid r HF.out).blk 5)
    | (go_at_call 49; (with_reducible refine (has_any r.ca s _ HC.out).mono ?_); rintro e w4 ⟨rfl, hB⟩; rw [H2.out]; have n0 := Aside0.mk (HT.out.below hB); have n1 := Aside0.mk (below_trans HB.out (below_sub hB HB.out.size)); clear hB HB HT; have HT := n0; have HB := n1; clear n0 n1; clear c3 c4 c5 f5; have c3 := (blk_cell (HT.out.yes pid r HF.out).blk 3).trans rfl; have c4 := (blk_cell (HT.out.yes pid r HF.out).blk 4).trans rfl; have c5 := (blk_cell (HT.out.yes pid r HF.out).blk 5).trans rfl; have f5 := blk_frozen (HT.out.yes pid r HF.out).blk 5)
    | (go_at_call 34; (with_reducible refine (with_any r.pen s _ HN.out).mono ?_); rintro e w5 ⟨rfl, hB⟩; have n0 := Aside0.mk (HT.out.below hB); have n1 := Aside0.mk (below_trans HB.out (below_sub hB HB.out.size)); clear hB HB HT; have HT := n0; have HB := n1; clear n0 n1; clear c3 c4 c5 f5; have c3 := (blk_cell (HT.out.yes pid r HF.out).blk 3).trans rfl; have c4 := (blk_cell (HT.out.yes pid r HF.out).blk 4).trans rfl; have c5 := (blk_cell (HT.out.yes pid r HF.out).blk 5).trans rfl; have f5 := blk_frozen (HT.out.yes pid r HF.out).blk 5))
  go_ret
  have pv := HT.out.yes pid r HF.out
  exact ⟨rfl, ⟨_, _, _, _, _, HT.out.put (r' := { r with pen := wth r.pen s }) (j := 5) (u := .int .u32 ((wth r.pen s : Nat) : Int)) HF.out rfl pv.par pv.ign pv.ca (wth_lt s pv.pen)⟩, (below_sub HB.out HBS.out).setCell (p := ⟨B pid, 5, none⟩) pv.low _⟩
set_option maxHeartbeats 4000000 in
set_option maxRecDepth 100000 in
theorem send_mild (h : TV w base X g m n D B v f last ends) (pid s : Int) (r : Pr) (hp : (Lit.int .i64 pid).wf = true) (hf : f pid = some r) (hlv : r.live = true) (hs1 : isg s = true) (h1 : hs r.ign s = false) (h2 : hs r.ca s = false) (h3 : md s = true) :
    Calls Tryd.prog 16 #[.pointer (some ⟨g, 0, none⟩), .int .i64 pid, .int .i64 s] w fun e w' => e = .returned (.bool true) ∧ Below w.heap.size w w' := by
  have HT := Aside0.mk h
  have HP := Aside0.mk hp
  have HB := Aside0.mk (Below.refl w.heap.size w)
  have hl : liv f pid = true := by unfold liv; rw [hf]; exact hlv
  have HS := Aside0.mk hs1
  have HBS := Aside0.mk (show base ≤ w.heap.size from Nat.le_trans h.bg (Nat.le_of_lt (blk_lt h.hg)))
  have pv := h.yes pid r hf
  have HI := Aside0.mk pv.ign
  have HC := Aside0.mk pv.ca
  have HN := Aside0.mk pv.pen
  have HF := Aside0.mk hf
  have c3 : w.cell? ⟨B pid, 3, none⟩ = some (.int .u32 (r.ign : Int)) := (blk_cell pv.blk 3).trans rfl
  have c4 : w.cell? ⟨B pid, 4, none⟩ = some (.int .u32 (r.ca : Int)) := (blk_cell pv.blk 4).trans rfl
  have c5 : w.cell? ⟨B pid, 5, none⟩ = some (.int .u32 (r.pen : Int)) := (blk_cell pv.blk 5).trans rfl
  have f5 := blk_frozen pv.blk 5
  have H1 := Aside0.mk h1
  have H2 := Aside0.mk h2
  have HM := Aside0.mk (show mild s = true from h3)
  clear h1 h2 h3
  clear h hp pv hs1 hf
  go_enter Tryd.func16, Tryd.ntmps16
  go_wp2_with (first
    | (go_at_call 35; (with_reducible refine (liv_ptr HT.out pid HP.out).mono ?_); rintro e w1 ⟨rfl, rfl⟩; rw [hl]; simp only [ptr, if_true])
    | (go_at_call 48; (with_reducible refine (is_sg s _).mono ?_); rintro e w2 ⟨rfl, hB⟩; rw [HS.out]; have n0 := Aside0.mk (HT.out.below hB); have n1 := Aside0.mk (below_trans HB.out (below_sub hB HB.out.size)); clear hB HB HT; have HT := n0; have HB := n1; clear n0 n1; clear c3 c4 c5 f5; have c3 := (blk_cell (HT.out.yes pid r HF.out).blk 3).trans rfl; have c4 := (blk_cell (HT.out.yes pid r HF.out).blk 4).trans rfl; have c5 := (blk_cell (HT.out.yes pid r HF.out).blk 5).trans rfl; have f5 := blk_frozen (HT.out.yes pid r HF.out).blk 5)
    | (go_at_call 49; (with_reducible refine (has_any r.ign s _ HI.out).mono ?_); rintro e w3 ⟨rfl, hB⟩; rw [H1.out]; have n0 := Aside0.mk (HT.out.below hB); have n1 := Aside0.mk (below_trans HB.out (below_sub hB HB.out.size)); clear hB HB HT; have HT := n0; have HB := n1; clear n0 n1; clear c3 c4 c5 f5; have c3 := (blk_cell (HT.out.yes pid r HF.out).blk 3).trans rfl; have c4 := (blk_cell (HT.out.yes pid r HF.out).blk 4).trans rfl; have c5 := (blk_cell (HT.out.yes pid r HF.out).blk 5).trans rfl; have f5 := blk_frozen (HT.out.yes pid r HF.out).blk 5)
    | (go_at_call 49; (with_reducible refine (has_any r.ca s _ HC.out).mono ?_); rintro e w4 ⟨rfl, hB⟩; rw [H2.out]; have n0 := Aside0.mk (HT.out.below hB); have n1 := Aside0.mk (below_trans HB.out (below_sub hB HB.out.size)); clear hB HB HT; have HT := n0; have HB := n1; clear n0 n1; clear c3 c4 c5 f5; have c3 := (blk_cell (HT.out.yes pid r HF.out).blk 3).trans rfl; have c4 := (blk_cell (HT.out.yes pid r HF.out).blk 4).trans rfl; have c5 := (blk_cell (HT.out.yes pid r HF.out).blk 5).trans rfl; have f5 := blk_frozen (HT.out.yes pid r HF.out).blk 5)
    | (go_at_call 50; (with_reducible refine (smild_any s _).mono ?_); rintro e w5 ⟨rfl, hB⟩; rw [HM.out]; have n0 := Aside0.mk (HT.out.below hB); have n1 := Aside0.mk (below_trans HB.out (below_sub hB HB.out.size)); clear hB HB HT; have HT := n0; have HB := n1; clear n0 n1; clear c3 c4 c5 f5; have c3 := (blk_cell (HT.out.yes pid r HF.out).blk 3).trans rfl; have c4 := (blk_cell (HT.out.yes pid r HF.out).blk 4).trans rfl; have c5 := (blk_cell (HT.out.yes pid r HF.out).blk 5).trans rfl; have f5 := blk_frozen (HT.out.yes pid r HF.out).blk 5))
  go_ret
  exact ⟨rfl, HB.out⟩
set_option maxHeartbeats 4000000 in
set_option maxRecDepth 100000 in
theorem send_end (h : TV w base X g m n D B v f last ends) (pid s : Int) (r : Pr) (hp : (Lit.int .i64 pid).wf = true) (hf : f pid = some r) (hlv : r.live = true) (hs1 : isg s = true) (h1 : hs r.ign s = false) (h2 : hs r.ca s = false) (h3 : md s = false) (hen : ends.length ≤ 1000000) :
    Calls Tryd.prog 16 #[.pointer (some ⟨g, 0, none⟩), .int .i64 pid, .int .i64 s] w fun e w' => e = .returned (.bool true) ∧ TW w' base X g (endd f pid (128 + s)) last (ends ++ [(pid, 128 + s)]) ∧ Below base w w' := by
  have HT := Aside0.mk h
  have HP := Aside0.mk hp
  have HB := Aside0.mk (Below.refl w.heap.size w)
  have hl : liv f pid = true := by unfold liv; rw [hf]; exact hlv
  have HS := Aside0.mk hs1
  have HBS := Aside0.mk (show base ≤ w.heap.size from Nat.le_trans h.bg (Nat.le_of_lt (blk_lt h.hg)))
  have pv := h.yes pid r hf
  have HI := Aside0.mk pv.ign
  have HC := Aside0.mk pv.ca
  have HN := Aside0.mk pv.pen
  have HF := Aside0.mk hf
  have c3 : w.cell? ⟨B pid, 3, none⟩ = some (.int .u32 (r.ign : Int)) := (blk_cell pv.blk 3).trans rfl
  have c4 : w.cell? ⟨B pid, 4, none⟩ = some (.int .u32 (r.ca : Int)) := (blk_cell pv.blk 4).trans rfl
  have c5 : w.cell? ⟨B pid, 5, none⟩ = some (.int .u32 (r.pen : Int)) := (blk_cell pv.blk 5).trans rfl
  have f5 := blk_frozen pv.blk 5
  have H1 := Aside0.mk h1
  have H2 := Aside0.mk h2
  have HM := Aside0.mk (show mild s = false from h3)
  have HEN := Aside0.mk hen
  have H255 := Aside0.mk (and_255 s hs1)
  have hw : wrap64 (128 + s) = 128 + s := by have := isg_iff.1 hs1; unfold wrap64; omega
  clear h1 h2 h3 hen
  clear h hp pv hs1 hf
  go_enter Tryd.func16, Tryd.ntmps16
  go_wp2_with (first
    | (go_at_call 35; (with_reducible refine (liv_ptr HT.out pid HP.out).mono ?_); rintro e w1 ⟨rfl, rfl⟩; rw [hl]; simp only [ptr, if_true])
    | (go_at_call 48; (with_reducible refine (is_sg s _).mono ?_); rintro e w2 ⟨rfl, hB⟩; rw [HS.out]; have n0 := Aside0.mk (HT.out.below hB); have n1 := Aside0.mk (below_trans HB.out (below_sub hB HB.out.size)); clear hB HB HT; have HT := n0; have HB := n1; clear n0 n1; clear c3 c4 c5 f5; have c3 := (blk_cell (HT.out.yes pid r HF.out).blk 3).trans rfl; have c4 := (blk_cell (HT.out.yes pid r HF.out).blk 4).trans rfl; have c5 := (blk_cell (HT.out.yes pid r HF.out).blk 5).trans rfl; have f5 := blk_frozen (HT.out.yes pid r HF.out).blk 5)
    | (go_at_call 49; (with_reducible refine (has_any r.ign s _ HI.out).mono ?_); rintro e w3 ⟨rfl, hB⟩; rw [H1.out]; have n0 := Aside0.mk (HT.out.below hB); have n1 := Aside0.mk (below_trans HB.out (below_sub hB HB.out.size)); clear hB HB HT; have HT := n0; have HB := n1; clear n0 n1; clear c3 c4 c5 f5; have c3 := (blk_cell (HT.out.yes pid r HF.out).blk 3).trans rfl; have c4 := (blk_cell (HT.out.yes pid r HF.out).blk 4).trans rfl; have c5 := (blk_cell (HT.out.yes pid r HF.out).blk 5).trans rfl; have f5 := blk_frozen (HT.out.yes pid r HF.out).blk 5)
    | (go_at_call 49; (with_reducible refine (has_any r.ca s _ HC.out).mono ?_); rintro e w4 ⟨rfl, hB⟩; rw [H2.out]; have n0 := Aside0.mk (HT.out.below hB); have n1 := Aside0.mk (below_trans HB.out (below_sub hB HB.out.size)); clear hB HB HT; have HT := n0; have HB := n1; clear n0 n1; clear c3 c4 c5 f5; have c3 := (blk_cell (HT.out.yes pid r HF.out).blk 3).trans rfl; have c4 := (blk_cell (HT.out.yes pid r HF.out).blk 4).trans rfl; have c5 := (blk_cell (HT.out.yes pid r HF.out).blk 5).trans rfl; have f5 := blk_frozen (HT.out.yes pid r HF.out).blk 5)
    | (go_at_call 50; (with_reducible refine (smild_any s _).mono ?_); rintro e w5 ⟨rfl, hB⟩; rw [HM.out]; have n0 := Aside0.mk (HT.out.below hB); have n1 := Aside0.mk (below_trans HB.out (below_sub hB HB.out.size)); clear hB HB HT; have HT := n0; have HB := n1; clear n0 n1; clear c3 c4 c5 f5; have c3 := (blk_cell (HT.out.yes pid r HF.out).blk 3).trans rfl; have c4 := (blk_cell (HT.out.yes pid r HF.out).blk 4).trans rfl; have c5 := (blk_cell (HT.out.yes pid r HF.out).blk 5).trans rfl; have f5 := blk_frozen (HT.out.yes pid r HF.out).blk 5)
    | (go_at_call 9; (with_reducible refine (exit_any HT.out pid (128 + s) r HP.out HF.out hlv HEN.out).mono ?_); rintro e w6 ⟨rfl, hT, hB⟩; have HTT := Aside0.mk hT; have HBB := Aside0.mk ((below_sub HB.out HBS.out).trans hB); clear hT hB))
  go_ret
  have T := HTT.out
  rw [H255.out] at T
  exact ⟨rfl, T, HBB.out⟩
end
end Go.Proofs.YtbgodajbdbgdfaaDoor.Kern
/- sig: List: its contract. -/
namespace Go.Proofs.YtbgodajbdbgdfaaDoor.Sig
open Go.RowKit Go.Proofs.YtbgodajbdbgdfaaDoorW.PrintWords Go.Proofs.YtbgodajbdbgdfaaDoorW.PrintLast Go.Proofs.YtbgodajbdbgdfaaDoor.R Go.Proofs.YtbgodajbdbgdfaaDoor.Base
set_option linter.unusedVariables false
set_option linter.unusedSimpArgs false
section
variable {ops : Array Oper} {rest : List Oper} {o : Oper} {a : Act} {Q : Exit → Act → World → Prop}
theorem app_int {w0 W : World} (base : Nat) (hgd : o.guard = none) (s x : Operand) (ho : o.op = .call { callee := .builtin .append, args := #[s, x], argTypes := #[36, 36] })
    (v : Value) (xs : List Int) (p : Int) (hs : a.eval s = v) (hx : a.eval x = .slice (some ⟨W.heap.size, 0, none⟩) 1 1)
    (HO : (Kd.int .i64).R 3 W base ok0 v xs) (HB : Below base w0 W) (hbase : base ≤ W.heap.size) (hl : xs.length + 1 ≤ 1000000000000)
    (h : ∀ A n c w1, (Kd.int .i64).R 3 w1 base ok0 (.slice A n c) (xs ++ [p]) → Below base w0 w1 → W.grownBy w1 v.ownBlock → wpList Tryd.prog ops Q rest (a.put o.dst (.slice A n c)) w1) :
    wpList Tryd.prog ops Q (o :: rest) a (W.alloc (.cells #[.int .i64 p] 3)) := by
  refine Kd.R_append (Kd.int .i64) (w0 := w0) base hgd s x 36 3 (.int .i64 0) 8 ho Tryd.underlying36 (by kernel_rfl) rfl (by decide) (by decide) v xs p [.int .i64 p] ok0 (fun _ => False) hs hx rfl (fun _ h => h.elim) (fun _ _ => trivial) HO HB hbase (by omega) ?_
  intro v1 w1 hR hB hG _
  obtain ⟨A, n, c, rfl⟩ := R_slice3 hR
  exact h A n c w1 hR hB hG
end
theorem pred_key (y : Nat) (h0 : y ≠ 0) (h : y < 4294967296) : bits .and .u32 (y : Int) ((y : Int) - 1) = ((y &&& (y - 1) : Nat) : Int) := by
  have e : (y : Int) - 1 = ((y - 1 : Nat) : Int) := by omega
  rw [e]
  exact u32_and_nat y (y - 1) h (by omega)
theorem pred_all {y : Nat} (h : y &&& allN = y) : (y &&& (y - 1)) &&& allN = y &&& (y - 1) := by
  rw [Nat.and_assoc, Nat.and_comm (y - 1), ← Nat.and_assoc, h]
set_option maxHeartbeats 2000000 in
set_option maxRecDepth 100000 in
theorem list_any (x : Nat) (w : World) (hx : x < 4294967296) (ht : TabB w) : Calls Tryd.prog 32 #[.int .u32 (x : Int)] w fun e w' => ∃ A n c, e = .returned (.slice A n c) ∧ (Kd.int .i64).R 3 w' w.heap.size ok0 (.slice A n c) (lst (x &&& allN)) ∧ Below w.heap.size w w' := by
  have key := and_all x hx
  have HT := Aside0.mk ht
  have HLT := Aside0.mk (all_lt (x := x))
  have HAA := Aside0.mk (all_twice x)
  clear ht
  go_enter Tryd.func32, Tryd.ntmps32
  go_wp2_with (simp only [key])
  clear key
  generalize hz : x &&& allN = z at *
  have HZ := Aside0.mk hz
  clear hz
  go_loopw [0, 3] (fun v0 v3 w' => ∃ (y : Nat) (A : Option Addr) (n c : Nat) (out : List Int), v0 = .int .u32 (y : Int) ∧ v3 = .slice A n c ∧ y < 4294967296 ∧ Aside0 (y &&& allN = y) ∧ out.length + y ≤ 8589934592 ∧ Aside0 (out ++ lst y = lst z) ∧ Aside0 ((Kd.int .i64).R 3 w' w.heap.size ok0 (.slice A n c) out) ∧ Aside0 (Below w.heap.size w w')) (fun v0 _ _ => (intOf v0).toNat)
  case atStart => exact ⟨z, none, 0, 0, [], rfl, rfl, HLT.out, HAA, by have := HLT.out; simp; omega, ⟨rfl⟩, ⟨Kd.R_nil _ _ _ _ _⟩, ⟨Below.refl _ _⟩⟩
  case round =>
    obtain ⟨y, A, n, c, out, rfl, rfl, hy, HA, hol, HL, HR, HB⟩ := hrel
    by_cases h0 : y = 0
    · subst h0
      have e0 : (((0 : Nat) : Int) != 0) = false := rfl
      go_wp2
      go_ret
      refine ⟨A, n, c, rfl, ?_, HB.out⟩
      have := HL.out
      rw [lst_zero, List.append_nil] at this
      rw [HZ.out, ← this]
      exact HR.out
    · have e0 : ((y : Int) != 0) = true := by simp; omega
      have HY := Aside0.mk hy
      have H0 := Aside0.mk h0
      have hb := HB.out.size
      have hlt := Aside0.mk (pred_lt h0)
      have hkey := Aside0.mk (pred_key y h0 hy)
      have HL1 := Aside0.mk (show (out ++ [(Lib.ctz 32 y : Int)]) ++ lst (y &&& (y - 1)) = lst z by rw [List.append_assoc, ← HL.out, lst_pos h0]; rfl)
      have HA1 := Aside0.mk (pred_all HA.out)
      clear HL
      go_wp2_with (first
        | (go_at_call 57; (with_reducible refine (least_any y _ HY.out H0.out HA.out (tabB_below HT.out (below_sub HB.out (Nat.le_refl _)))).mono ?_); rintro e w1 ⟨rfl, hB⟩; have n0 := Aside0.mk (below_trans HB.out (below_sub hB HB.out.size)); have n1 := Aside0.mk (Kd.R_below HR.out hB); clear hB HB HR; have HB := n0; have HR := n1; clear n0 n1)
        | (simp only [hkey.out])
        | ((with_reducible refine gate_dst (N := 16) rfl ?_)
           go_loud (refine app_int w.heap.size (w0 := w) rfl (.tmp 12) (.tmp 15) rfl (.slice A n c) out (Lib.ctz 32 y : Int) rfl rfl HR.out HB.out HB.out.size (by omega) ?_)
           intro A5 n5 c5 w5 hR hB hG
           have HR5 := Aside0.mk hR; have HB5 := Aside0.mk hB; clear hR hB hG))
      go_roundw
      case measure => simp [intOf]; have := hlt.out; omega
      case rel => exact ⟨y &&& (y - 1), A5, n5, c5, _, rfl, rfl, Nat.lt_trans hlt.out HY.out, HA1, by have := hlt.out; rw [List.length_append, List.length_singleton]; omega, HL1, HR5, HB5⟩
end Go.Proofs.YtbgodajbdbgdfaaDoor.Sig
/- kern: New, Child, Reap: their contracts. -/
namespace Go.Proofs.YtbgodajbdbgdfaaDoor.Kern
open Go.RowKit Go.Proofs.YtbgodajbdbgdfaaDoorW.PrintWords Go.Proofs.YtbgodajbdbgdfaaDoorW.PrintLast Go.Proofs.YtbgodajbdbgdfaaDoor.Sig Go.Proofs.YtbgodajbdbgdfaaDoor.Base Go.Proofs.YtbgodajbdbgdfaaDoor.Seq Go.Maps
set_option linter.unusedVariables false
set_option linter.unusedSimpArgs false
section
variable {ops : Array Oper} {rest : List Oper} {o : Oper} {a : Act} {Q : Exit → Act → World → Prop}
theorem gate_ins {W : World} (m x : Nat) (k : Value) (ho : o.op = .insert 68 (.tmp m) (.const k) (.tmp x)) (h : wpList Tryd.prog ops Q (o :: rest) a W) : wpList Tryd.prog ops Q (o :: rest) a W := h
/-- An entry of a literal. -/
theorem insert_own (w : World) (hg : o.guard = none) (m x v : Operand) (t : TypeId) (hop : o.op = Op.insert t m x v)
    (k e : TypeId) (K : Keyed Tryd.prog k) (ht : (Tryd.prog).underlying t = some (.map k e)) (R : Value → Option (Dm × List MemPlace)) (b n : Nat) (D : Dm)
    (hm : a.eval m = .map (some b)) (hown : w.ownsMap Tryd.prog k R b n D) (hn : n < maxLen) (key val : Value) (kl : Lit) (hx : a.eval x = key) (hv : a.eval v = val) (hkey : keyOf Tryd.prog k key = some kl)
    (d : Dm) (ps : List MemPlace) (hval : R val = some (d, ps))
    (hK : ∀ w', w'.ownsMap Tryd.prog k R b (n + 1) (D.put kl d) → w.grownBy w' (some b) → wpList Tryd.prog ops Q rest (a.put o.dst undef) w') :
    wpList Tryd.prog ops Q (o :: rest) a w := by
  refine wpList_plain hg fun K' hK' => ?_
  obtain ⟨w', hrun, r1, r2⟩ := hown.update K ht hn hkey hval
  unfold Oper.wp
  simp [execOp, hop, hm, hx, hv, hrun, Result.andThen]
  exact hK' _ _ (hK w' r1 r2)
end
def nf (s : Int) : Bool := !fx s
theorem flt_succ (L : List Int) (k : Nat) (h : k < L.length) : ofL 0 ((L.take (k + 1)).filter nf) = if fx L[k] = true then ofL 0 ((L.take k).filter nf) else wth (ofL 0 ((L.take k).filter nf)) L[k] := by
  rw [List.take_succ_eq_append_getElem h, List.filter_append, ofL_append]
  unfold nf
  cases hf : fx L[k] with
  | true => rw [List.filter_cons_of_neg (by rw [hf]; decide), if_pos rfl]; rfl
  | false => rw [List.filter_cons_of_pos (by rw [hf]; decide), if_neg (by decide)]; rfl
abbrev p0 (y : Nat) : Pr := ⟨0, true, 0, y, 0, 0⟩
def one (y : Nat) : Tb := fun q => if q = 1 then some (p0 y) else none
theorem tv_one {w : World} {base g m p : Nat} {y : Nat} (hy : y < 4294967296) (hg : w.heap[g]? = some (.cells #[.map (some m), .int .i64 1, .slice none 0 0] 70 (0, 0))) (hb : base ≤ g) (hm : base ≤ m) (hp : base ≤ p) (hown : w.ownsMap Tryd.prog 3 Rp m 1 ((DataW.map []).put (.int .i64 1) (.lit (.int .i64 (p : Int))))) (hpb : w.heap[p]? = some (.cells (pcell (p0 y)) 65 (0, 0))) :
    TV w base X0 g m 1 ((DataW.map []).put (.int .i64 1) (.lit (.int .i64 (p : Int)))) (fun _ => p) (.slice none 0 0) (one y) 1 [] where
  hg := hg
  bg := hb
  bm := hm
  own := hown
  cnt := by decide
  lmt := by decide
  top := fun q hq => by
    unfold one at hq
    by_cases e : q = 1
    · subst e; exact ⟨by decide, by decide⟩
    · rw [if_neg e] at hq; exact absurd rfl hq
  no := fun q hq => by
    unfold one at hq
    have e : q ≠ 1 := by rintro rfl; rw [if_pos rfl] at hq; cases hq
    rw [has_put_other (by simp only [ne_eq, Lit.int.injEq, not_and]; exact fun _ => e)]
    rfl
  yes := fun q r hq => by
    unfold one at hq
    by_cases e : q = 1
    · subst e
      rw [if_pos rfl] at hq
      cases hq
      exact ⟨fun z => atKey_put_same isMap_empty (by trivial) _ _, hp, hpb, ⟨Int.le_refl 0, by show (0 : Int) < 1; decide⟩, hy, by show (0 : Nat) < 4294967296; decide, by show (0 : Nat) < 4294967296; decide⟩
    · rw [if_neg e] at hq; cases hq
  inj := fun q q' hq hq' _ => by
    unfold one at hq hq'
    have e : q = 1 := by
      by_cases e : q = 1
      · exact e
      · rw [if_neg e] at hq; exact absurd rfl hq
    have e' : q' = 1 := by
      by_cases e : q' = 1
      · exact e
      · rw [if_neg e] at hq'; exact absurd rfl hq'
    rw [e, e']
  row := Kd.R_nil _ _ _ _ _
  gh := fun _ _ _ hx => hx.elim
set_option maxHeartbeats 4000000 in
set_option maxRecDepth 100000 in
theorem new_any (x : Nat) (w : World) (hx : x < 4294967296) (ht : TabB w) :
    Calls Tryd.prog 6 #[.int .u32 (x : Int)] w fun e w' => ∃ g, e = .returned (.pointer (some ⟨g, 0, none⟩)) ∧ TW w' w.heap.size X0 g (one (flt x)) 1 [] ∧ Below w.heap.size w w' := by
  have hmm := @run_makeMap Tryd.prog
  have HX := Aside0.mk hx
  have HP1 := Aside0.mk (blk_new w (.cells (pcell (p0 0)) 65))
  have HB1 := Aside0.mk (below_alloc (Below.refl w.heap.size w) (.cells (pcell (p0 0)) 65))
  have HT1 := Aside0.mk (tabB_below ht HB1.out)
  clear ht hx
  go_enter Tryd.func6, Tryd.ntmps6
  go_upto_region 2 with (fail)
  generalize w.alloc (.cells (pcell (p0 0)) 65) = w1 at *
  go_wp2_with (go_at_call 32; (with_reducible refine (list_any x _ HX.out HT1.out).mono ?_); rintro e w2 ⟨A5, n5, c5, rfl, hR, hB⟩; have HR := Aside0.mk hR; have HP2 := Aside0.mk (blk_below HP1.out hB); have HB2 := Aside0.mk (HB1.out.trans (below_sub hB HB1.out.size)); clear hR hB)
  have HFL := Aside0.mk (show flt x = ofL 0 ((lst (x &&& allN)).filter nf) from rfl)
  have HLL := Aside0.mk (show (lst (x &&& allN)).length ≤ 4294967296 by have h1 := lst_len (x &&& allN); have h2 := all_lt (x := x); omega)
  generalize lst (x &&& allN) = L at *
  obtain ⟨rfl, _, _⟩ := Kd.R_reads' HR.out
  clear HP1 HB1 HT1
  go_loopw [11] (fun v11 wr => ∃ k : Nat, k ≤ L.length ∧ v11 = .int .i64 (k : Int) ∧ Aside0 ((Kd.int .i64).R 3 wr w1.heap.size ok0 (.slice A5 L.length c5) L) ∧ Aside0 (wr.heap[w.heap.size]? = some (.cells (pcell (p0 (ofL 0 ((L.take k).filter nf)))) 65 (0, 0))) ∧ Aside0 (Below w.heap.size w wr)) (fun v11 _ => L.length - (intOf v11).toNat)
  case atStart => exact ⟨0, Nat.zero_le _, rfl, HR, HP2, HB2⟩
  case round =>
    clear HR HP2 HB2
    obtain ⟨k, hk, rfl, HR, HP, HB⟩ := hrel
    have hll := HLL.out
    by_cases hlt : k < L.length
    · obtain ⟨ad, rfl, hc⟩ := at_i64 (R_C HR.out) k hlt
      have HS := Aside0.mk (flt_succ L k hlt)
      have HY := Aside0.mk (ofL_lt ((L.take k).filter nf) 0 (by decide))
      generalize ofL 0 ((L.take k).filter nf) = y at *
      generalize L[k] = s at *
      have hi0 : (0 : Int) ≤ (k : Int) := by omega
      have hi1 : (k : Int) < (L.length : Int) := by omega
      cases hf : fx s with
      | true =>
        have HFX := Aside0.mk (show fixed s = true from hf)
        rw [hf, if_pos rfl] at HS
        clear hf
        go_wp2_with (go_at_call 33; (with_reducible refine (sfixed_any s _).mono ?_); rintro e w3 ⟨rfl, hB⟩; rw [HFX.out]; have n0 := Aside0.mk (Kd.R_below HR.out hB); have n1 := Aside0.mk (below_trans HB.out (below_sub hB HB.out.size)); have n2 := Aside0.mk (blk_below HP.out hB); clear hB HB HR HP; have HR := n0; have HB := n1; have HP := n2; clear n0 n1 n2)
        go_roundw
        case measure => simp [intOf]; omega
        case rel => exact ⟨k + 1, by omega, by go_num, HR, by rw [HS.out]; exact HP, HB⟩
      | false =>
        have HFX := Aside0.mk (show fixed s = false from hf)
        rw [hf, if_neg (by decide)] at HS
        have b3 : wr.cell? ⟨w.heap.size, 3, none⟩ = some (.int .u32 (y : Int)) := (blk_cell HP.out 3).trans rfl
        have f3 := blk_frozen HP.out 3
        clear hf
        go_wp2_with (first
          | (go_at_call 33; (with_reducible refine (sfixed_any s _).mono ?_); rintro e w3 ⟨rfl, hB⟩; rw [HFX.out]; have n0 := Aside0.mk (Kd.R_below HR.out hB); have n1 := Aside0.mk (below_trans HB.out (below_sub hB HB.out.size)); have n2 := Aside0.mk (blk_below HP.out hB); clear hB HB HR HP b3 f3; have HR := n0; have HB := n1; have HP := n2; clear n0 n1 n2; have b3 := (blk_cell HP.out 3).trans rfl; have f3 := blk_frozen HP.out 3)
          | (go_at_call 34; (with_reducible refine (with_any y s _ HY.out).mono ?_); rintro e w4 ⟨rfl, hB⟩; have n0 := Aside0.mk (Kd.R_below HR.out hB); have n1 := Aside0.mk (below_trans HB.out (below_sub hB HB.out.size)); have n2 := Aside0.mk (blk_below HP.out hB); clear hB HB HR HP b3 f3; have HR := n0; have HB := n1; have HP := n2; clear n0 n1 n2; have b3 := (blk_cell HP.out 3).trans rfl; have f3 := blk_frozen HP.out 3))
        go_roundw
        case measure => simp [intOf]; omega
        case rel =>
          refine ⟨k + 1, by omega, by go_num, ⟨Kd.R_set HR.out HP.out (by decide) 3 _⟩, ⟨?_⟩, ⟨HB.out.setCell (p := ⟨w.heap.size, 3, none⟩) (Nat.le_refl _) _⟩⟩
          rw [HS.out]
          exact blk_put HP.out 3 _ rfl
    · have hge : decide ((k : Int) < (L.length : Int)) = false := decide_eq_false (by omega)
      have hkl : k = L.length := by omega
      subst hkl
      rw [List.take_length, ← HFL.out] at HP
      have HM := Aside0.mk (World.ownsMap_made (H := Unit) wr Tryd.prog 3 Rp)
      have HPM := Aside0.mk (blk_below HP.out (below_alloc (Below.refl wr.heap.size wr) (.map #[] 0)))
      have HBM := Aside0.mk (below_alloc HB.out (.map #[] 0))
      have HBS := Aside0.mk HB.out.size
      go_wp2_with (first
        | ((with_reducible refine gate_ins 28 29 _ rfl ?_)
           go_loud (refine insert_own _ rfl _ _ _ 68 rfl 3 63 keyI Tryd.underlying68 Rp wr.heap.size 0 (.map []) rfl HM.out (by decide) _ _ (.int .i64 1) rfl rfl (keyOf_int_mk Tryd.underlying3 (wf_i64 (by decide) (by decide))) (.lit (.int .i64 (w.heap.size : Int))) [] rfl ?_)
           intro w5 own5 hgr5
           have HP5 := Aside0.mk (blk_grown HPM.out hgr5 (fun e => by have := Option.some.inj e; obtain ⟨es, cl, hb, _⟩ := HM.out; rw [← this] at hb; rw [HPM.out] at hb; cases hb))
           have HB5 := Aside0.mk (HBM.out.trans (below_grown hgr5 HBS.out HBM.out.size))
           have HO5 := Aside0.mk own5
           clear own5 hgr5))
      have HG6 := Aside0.mk (blk_new w5 (.cells #[.map (some wr.heap.size), .int .i64 1, .slice none 0 0] 70))
      have HB6 := Aside0.mk (below_alloc (Below.refl w5.heap.size w5) (.cells #[.map (some wr.heap.size), .int .i64 1, .slice none 0 0] 70))
      go_ret
      refine ⟨w5.heap.size, rfl, ⟨_, _, _, _, _, tv_one (flt_lt x) HG6.out HB5.out.size HBS.out (Nat.le_refl _) (own_below HO5.out HB6.out) (blk_below HP5.out HB6.out)⟩, below_alloc HB5.out _⟩
def chB (f : Tb) (parent pid : Int) : Bool := match f pid with
  | some c => c.par == parent && liv f parent
  | none => false
section
variable {w : World} {base g m n : Nat} {X : Gh} {D : Dm} {B : Int → Nat} {v : Value} {f : Tb} {last : Int} {ends : List (Int × Int)}
set_option maxHeartbeats 4000000 in
set_option maxRecDepth 100000 in
theorem child_any (h : TV w base X g m n D B v f last ends) (parent pid : Int) (hp : (Lit.int .i64 pid).wf = true) (hq : (Lit.int .i64 parent).wf = true) :
    Calls Tryd.prog 28 #[.pointer (some ⟨g, 0, none⟩), .int .i64 parent, .int .i64 pid] w fun e w' => e = .returned (.bool (chB f parent pid)) ∧ w = w' := by
  have HT := Aside0.mk h
  have HQ := Aside0.mk hq
  have hrun := look h pid hp
  have c0 : w.cell? ⟨g, 0, none⟩ = some (.map (some m)) := (blk_cell h.hg 0).trans rfl
  unfold chB
  cases hf : f pid with
  | none =>
    rw [hf] at hrun
    simp only [Option.isSome_none, Bool.false_eq_true, if_false] at hrun
    clear h hp hq
    go_enter Tryd.func28, Tryd.ntmps28
    go_wp2
    go_ret
    exact ⟨rfl, rfl⟩
  | some c =>
    rw [hf] at hrun
    simp only [Option.isSome_some, if_true] at hrun
    have b0 : w.cell? ⟨B pid, 0, none⟩ = some (.int .i64 c.par) := (blk_cell (h.yes pid c hf).blk 0).trans rfl
    clear h hp hq
    show Calls _ _ _ _ fun e w' => e = .returned (.bool (c.par == parent && liv f parent)) ∧ w = w'
    cases he : c.par == parent with
    | false =>
      go_enter Tryd.func28, Tryd.ntmps28
      go_wp2
      go_ret
      exact ⟨rfl, rfl⟩
    | true =>
      go_enter Tryd.func28, Tryd.ntmps28
      go_wp2_with (go_at_call 24; (with_reducible refine (liv_any HT.out parent HQ.out).mono ?_); rintro e w1 ⟨rfl, rfl⟩)
      go_ret
      exact ⟨rfl, rfl⟩
set_option maxHeartbeats 4000000 in
set_option maxRecDepth 100000 in
theorem reap_any (h : TV w base X g m n D B v f last ends) (parent pid : Int) (r : Pr) (hp : (Lit.int .i64 pid).wf = true) (hq : (Lit.int .i64 parent).wf = true) (hf : f pid = some r) (hd : r.live = false) (hc : chB f parent pid = true) :
    Calls Tryd.prog 10 #[.pointer (some ⟨g, 0, none⟩), .int .i64 parent, .int .i64 pid] w fun e w' => e = .returned (.tuple #[.int .i64 r.status, .bool true]) ∧ TW w' base X g (upd f pid none) last ends ∧ Below base w w' := by
  have HT := Aside0.mk h
  have HQ := Aside0.mk hq
  have HP := Aside0.mk hp
  have HC := Aside0.mk hc
  have HBS := Aside0.mk (show base ≤ w.heap.size from Nat.le_trans h.bg (Nat.le_of_lt (blk_lt h.hg)))
  have hrun := look h pid hp
  rw [hf] at hrun
  simp only [Option.isSome_some, if_true] at hrun
  have c0 : w.cell? ⟨g, 0, none⟩ = some (.map (some m)) := (blk_cell h.hg 0).trans rfl
  have b1 : w.cell? ⟨B pid, 1, none⟩ = some (.bool false) := by rw [← hd]; exact (blk_cell (h.yes pid r hf).blk 1).trans rfl
  have b2 : w.cell? ⟨B pid, 2, none⟩ = some (.int .i64 r.status) := (blk_cell (h.yes pid r hf).blk 2).trans rfl
  clear h hp hq hc hd
  go_enter Tryd.func10, Tryd.ntmps10
  go_wp2_with (first
    | (go_at_call 28; (with_reducible refine (child_any HT.out parent pid HP.out HQ.out).mono ?_); rintro e w1 ⟨rfl, rfl⟩; rw [HC.out])
    | (at_delete; refine wpList_delete_own _ rfl _ _ 68 3 rfl 63 keyI Tryd.underlying68 Rp m n D rfl HT.out.own _ (.int .i64 pid) rfl (keyOf_int_mk Tryd.underlying3 HP.out) ?_; intro w8 own8 hturn; have H8 := Aside0.mk (HT.out.del own8 hturn.grown); have HB8 := Aside0.mk (below_grown hturn.grown HT.out.bm HBS.out); clear own8 hturn))
  go_ret2
  exact ⟨rfl, ⟨_, _, _, _, _, H8.out⟩, HB8.out⟩
end
end Go.Proofs.YtbgodajbdbgdfaaDoor.Kern
/- kern: kernAlive, and the plain part of KernSafe. -/
namespace Go.Proofs.YtbgodajbdbgdfaaDoor.Kern
open Go.RowKit Go.Proofs.YtbgodajbdbgdfaaDoorW.PrintWords Go.Proofs.YtbgodajbdbgdfaaDoorW.PrintLast Go.Proofs.YtbgodajbdbgdfaaDoor.Sig Go.Proofs.YtbgodajbdbgdfaaDoor.Base Go.Proofs.YtbgodajbdbgdfaaDoor.Seq Go.Maps
set_option linter.unusedVariables false
set_option linter.unusedSimpArgs false
theorem flt_zero : flt 0 = 0 := by
  unfold flt
  rw [Nat.zero_and, lst_zero]; rfl
theorem endd_at {f : Tb} {pid st : Int} {r : Pr} (hf : f pid = some r) (hl : liv f r.par = true) : endd f pid st pid = some { r with live := false, status := st } := by
  unfold endd
  rw [hf]
  show (if pid = pid then (if liv f r.par = true then some { r with live := false, status := st } else none) else (f pid).bind (aft pid pid)) = _
  rw [if_pos rfl, if_pos hl]
theorem endd_dead_at {f : Tb} {pid st : Int} {r : Pr} (hf : f pid = some r) : liv (endd f pid st) pid = false := by
  unfold endd
  rw [hf]
  show (match (if pid = pid then (if liv f r.par = true then some { r with live := false, status := st } else none) else (f pid).bind (aft pid pid)) with | some r => r.live | none => false) = false
  rw [if_pos rfl]
  split
  · rename_i x h
    split at h
    · cases h; rfl
    · cases h
  · rfl
theorem endd_other {f : Tb} {pid st q : Int} {r : Pr} (hf : f pid = some r) (hq : q ≠ pid) : endd f pid st q = (f q).bind (aft pid q) := by
  unfold endd
  rw [hf]
  show (if q = pid then _ else (f q).bind (aft pid q)) = _
  rw [if_neg hq]
/-- The chapter's example, step by step. -/
def a1 : Tb := upd (one 0) 2 (some ⟨1, true, 0, 0, 0, 0⟩)
theorem a1_1 : a1 1 = some (p0 0) := rfl
theorem a1_2 : a1 2 = some ⟨1, true, 0, 0, 0, 0⟩ := rfl
theorem a1_liv : liv a1 1 = true := rfl
def a2 : Tb := endd a1 2 143
theorem a2_2 : a2 2 = some ⟨1, false, 143, 0, 0, 0⟩ := endd_at a1_2 a1_liv
theorem a2_1 : a2 1 = some (p0 0) := endd_other (f := a1) a1_2 (by decide)
theorem a2_ch : chB a2 1 2 = true := by
  unfold chB liv
  rw [a2_2, a2_1]; rfl
def a3 : Tb := upd a2 2 none
theorem a3_keys : ∀ q, q ∈ [(1 : Int)] ↔ a3 q ≠ none := by
  intro q
  rw [List.mem_singleton]
  constructor
  · rintro rfl
    show a2 1 ≠ none
    rw [a2_1]; simp
  · intro h
    by_cases e : q = 1
    · exact e
    · exfalso
      apply h
      unfold a3
      by_cases e2 : q = 2
      · subst e2; exact upd_same _ _ _
      · rw [upd_other e2]
        unfold a2
        rw [endd_other (f := a1) a1_2 e2]
        have : a1 q = none := by
          unfold a1
          rw [upd_other e2]
          exact if_neg e
        rw [this]; rfl
theorem new_zero (w : World) (ht : TabB w) : Calls Tryd.prog 6 #[.int .u32 0] w fun e w' => ∃ g, e = .returned (.pointer (some ⟨g, 0, none⟩)) ∧ TW w' w.heap.size X0 g (one 0) 1 [] ∧ Below w.heap.size w w' :=
  (new_any 0 w (by decide) ht).mono fun e w' h => by
    obtain ⟨g, h1, h2, h3⟩ := h
    rw [flt_zero] at h2
    exact ⟨g, h1, h2, h3⟩
set_option maxHeartbeats 4000000 in
set_option maxRecDepth 100000 in
theorem kalive_any (w : World) (ht : TabB w) : Calls Tryd.prog 5 #[] w fun e w' => e = .returned (.bool true) ∧ Below w.heap.size w w' := by
  have HTB := Aside0.mk ht
  have HW1 := Aside0.mk (wf_i64 (x := 1) (by decide) (by decide))
  have HW2 := Aside0.mk (wf_i64 (x := 2) (by decide) (by decide))
  clear ht
  go_enter Tryd.func5, Tryd.ntmps5
  go_upto_region 4 with (go_at_call 6; (with_reducible refine (new_zero _ HTB.out).mono ?_); rintro e w1 ⟨g, rfl, hT, hB⟩; have HT := Aside0.mk hT; have HB := Aside0.mk hB; clear hT hB)
  obtain ⟨m, n, D, B, v, hT⟩ := HT.out
  have HT1 := Aside0.mk hT
  have HSZ := Aside0.mk (show Maps.size D < 64 from Nat.lt_of_le_of_lt hT.own.size_le (by have := hT.cnt; omega))
  clear hT HT
  go_upto_region 5 with (go_at_call 7; go_loud (with_reducible refine (fork_any HT1.out 1 (p0 0) HW1.out rfl rfl (by decide) HSZ.out).mono ?_); rintro e w2 ⟨rfl, hT, hB⟩; have HT := Aside0.mk (show TW w2 w.heap.size X0 g a1 2 [] from hT); have n0 := Aside0.mk (HB.out.trans hB); clear hT hB HB HT1 HSZ; have HB := n0; clear n0)
  obtain ⟨m1, n1, D1, B1, v1, hT⟩ := HT.out
  have HT1 := Aside0.mk hT
  clear hT HT
  go_upto_region 6 with (go_at_call 16; go_loud (with_reducible refine (send_end HT1.out 2 15 ⟨1, true, 0, 0, 0, 0⟩ HW2.out a1_2 rfl (by decide) (by decide) (by decide) (by decide) (by decide)).mono ?_); rintro e w3 ⟨rfl, hT, hB⟩; have HT := Aside0.mk (show TW w3 w.heap.size X0 g a2 2 [(2, 143)] from hT); have n0 := Aside0.mk (HB.out.trans hB); clear hT hB HB HT1; have HB := n0; clear n0)
  obtain ⟨m2, n2, D2, B2, v2, hT⟩ := HT.out
  have HT1 := Aside0.mk hT
  clear hT HT
  go_upto_region 7 with (go_at_call 10; go_loud (with_reducible refine (reap_any HT1.out 1 2 ⟨1, false, 143, 0, 0, 0⟩ HW2.out HW1.out a2_2 rfl a2_ch).mono ?_); rintro e w4 ⟨rfl, hT, hB⟩; have HT := Aside0.mk (show TW w4 w.heap.size X0 g a3 2 [(2, 143)] from hT); have n0 := Aside0.mk (HB.out.trans hB); clear hT hB HB HT1; have HB := n0; clear n0)
  obtain ⟨m3, n3, D3, B3, v3, hT⟩ := HT.out
  have HT1 := Aside0.mk hT
  have hsz : Maps.size D3 = 1 := size_of hT [1] (by decide) a3_keys
  have HSZ := Aside0.mk hsz
  clear hT HT hsz
  go_wp2_with (go_at_call 8; (with_reducible refine (len_any HT1.out).mono ?_); rintro e w5 ⟨rfl, rfl⟩; rw [HSZ.out])
  go_ret
  exact ⟨rfl, HB.out⟩
/-- So many processes, each the one before's child. -/
def chainT (n G : Nat) : Tb := fun q => if 1 ≤ q ∧ q ≤ (n : Int) then some ⟨q - 1, true, 0, G, 0, 0⟩ else none
theorem chain_one (G : Nat) : one G = chainT 1 G := by
  funext q
  unfold one chainT
  by_cases e : q = 1
  · subst e; rfl
  · rw [if_neg e, if_neg (by omega)]
theorem chain_at {n G : Nat} {q : Int} (h0 : 1 ≤ q) (h1 : q ≤ (n : Int)) : chainT n G q = some ⟨q - 1, true, 0, G, 0, 0⟩ := if_pos ⟨h0, h1⟩
theorem chain_upd (n G : Nat) : upd (chainT n G) ((n : Int) + 1) (some ⟨(n : Int), true, 0, G, 0, 0⟩) = chainT (n + 1) G := by
  funext q
  unfold upd chainT
  by_cases e : q = (n : Int) + 1
  · rw [if_pos e, if_pos (by omega), e]
    congr 2
    omega
  · rw [if_neg e]
    by_cases h : 1 ≤ q ∧ q ≤ (n : Int)
    · rw [if_pos h, if_pos (by omega)]
    · rw [if_neg h, if_neg (by omega)]
theorem wto_wth (s : Int) (h : isg s = true) : wto (wth 0 s) s = 0 := by
  have hi := isg_iff.1 h
  have key : ∀ i : Fin 32, isg (i.val : Int) = true → wto (wth 0 (i.val : Int)) (i.val : Int) = 0 := by decide +kernel
  have := key ⟨s.toNat, by omega⟩
  rw [show ((s.toNat : Nat) : Int) = s by omega] at this
  exact this h
theorem hs_zero (s : Int) : hs 0 s = false := by unfold hs; rw [Nat.zero_testBit, Bool.and_false]
theorem fx_isg {s : Int} (h : fx s = true) : isg s = true ∧ md s = false := by
  unfold fx at h
  simp only [Bool.or_eq_true, beq_iff_eq] at h
  rcases h with rfl | rfl <;> exact ⟨rfl, rfl⟩
end Go.Proofs.YtbgodajbdbgdfaaDoor.Kern
-- printed by a program of this session (wip/pp): a Lean function and a proof for each Go function
namespace Go.Proofs.YtbgodajbdbgdfaaDoor.V
open Go.RowKit Go.Proofs.YtbgodajbdbgdfaaDoorW.PrintWords Go.Proofs.YtbgodajbdbgdfaaDoorW.PrintLast Go.Proofs.YtbgodajbdbgdfaaDoorW.PrintMore
attribute [local go_sem] max2_int min2_int max_two min_two max_three min_three max_four min_four   -- for this text's walks alone
set_option linter.unusedVariables false
set_option linter.unusedSimpArgs false




def errW : Option Int → Value
  | none => .nilIface
  | some c => .iface 0 (.int .i64 c)
theorem errW_none : errW none = .nilIface := rfl
theorem errW_some (c : Int) : errW (some c) = .iface 0 (.int .i64 c) := rfl

theorem info3 : (Tryd.prog.info? 3).map (fun i => (i.zero, i.size, i.bytes)) = some (some (.int .i64 0), 1, 8) := by kernel_rfl
theorem info9 : (Tryd.prog.info? 9).map (fun i => (i.zero, i.size, i.bytes)) = some (some (.string ⟨#[]⟩), 1, 16) := by kernel_rfl
theorem info77 : (Tryd.prog.info? 77).map (fun i => (i.zero, i.size, i.bytes)) = some (some (.agg #[(.int .i64 0), (.int .i64 0), (.int .i64 0), (.bool false), (.int .u32 0), (.int .u32 0), (.int .u32 0)]), 7, 40) := by kernel_rfl
-- the values' own types
/-! #### struct type 77 -/
structure S77 where
  f0 : Int
  f1 : Int
  f2 : Int
  f3 : Bool
  f4 : Int
  f5 : Int
  f6 : Int
def z77 : S77 := ⟨(0 : Int), (0 : Int), (0 : Int), false, (0 : Int), (0 : Int), (0 : Int)⟩
def k77 : Kd S77 := Kd.iso (Kd.pair (Kd.int .i64) (Kd.pair (Kd.int .i64) (Kd.pair (Kd.int .i64) (Kd.pair Kd.bool (Kd.pair (Kd.int .u32) (Kd.pair (Kd.int .u32) (Kd.int .u32))))))) (fun x : S77 => (x.f0, x.f1, x.f2, x.f3, x.f4, x.f5, x.f6))
theorem k77_open {w : World} {x : S77} {cs : List Value} (h : k77.K w x cs) : cs = [.int .i64 x.f0, .int .i64 x.f1, .int .i64 x.f2, .bool x.f3, .int .u32 x.f4, .int .u32 x.f5, .int .u32 x.f6] := by
  obtain ⟨_, _, rfl, rfl, ⟨_, _, rfl, rfl, ⟨_, _, rfl, rfl, ⟨_, _, rfl, rfl, ⟨_, _, rfl, rfl, ⟨_, _, rfl, rfl, rfl⟩⟩⟩⟩⟩⟩ := h
  exact rfl
theorem k77_openM {w : World} {base : Nat} {ok : Nat → Prop} {x : S77} {cs : List Value} (h : k77.M w base ok x cs) : cs = [.int .i64 x.f0, .int .i64 x.f1, .int .i64 x.f2, .bool x.f3, .int .u32 x.f4, .int .u32 x.f5, .int .u32 x.f6] := by
  obtain ⟨_, _, rfl, rfl, ⟨_, _, rfl, rfl, ⟨_, _, rfl, rfl, ⟨_, _, rfl, rfl, ⟨_, _, rfl, rfl, ⟨_, _, rfl, rfl, rfl⟩⟩⟩⟩⟩⟩ := h
  exact rfl
theorem k77_mk (w : World) (x : S77)  : k77.K w x [.int .i64 x.f0, .int .i64 x.f1, .int .i64 x.f2, .bool x.f3, .int .u32 x.f4, .int .u32 x.f5, .int .u32 x.f6] := ⟨[.int .i64 x.f0], [.int .i64 x.f1, .int .i64 x.f2, .bool x.f3, .int .u32 x.f4, .int .u32 x.f5, .int .u32 x.f6], rfl, rfl, ⟨[.int .i64 x.f1], [.int .i64 x.f2, .bool x.f3, .int .u32 x.f4, .int .u32 x.f5, .int .u32 x.f6], rfl, rfl, ⟨[.int .i64 x.f2], [.bool x.f3, .int .u32 x.f4, .int .u32 x.f5, .int .u32 x.f6], rfl, rfl, ⟨[.bool x.f3], [.int .u32 x.f4, .int .u32 x.f5, .int .u32 x.f6], rfl, rfl, ⟨[.int .u32 x.f4], [.int .u32 x.f5, .int .u32 x.f6], rfl, rfl, ⟨[.int .u32 x.f5], [.int .u32 x.f6], rfl, rfl, rfl⟩⟩⟩⟩⟩⟩
theorem k77_mkM (w : World) (base : Nat) (ok : Nat → Prop) (x : S77)  : k77.M w base ok x [.int .i64 x.f0, .int .i64 x.f1, .int .i64 x.f2, .bool x.f3, .int .u32 x.f4, .int .u32 x.f5, .int .u32 x.f6] := ⟨[.int .i64 x.f0], [.int .i64 x.f1, .int .i64 x.f2, .bool x.f3, .int .u32 x.f4, .int .u32 x.f5, .int .u32 x.f6], rfl, rfl, ⟨[.int .i64 x.f1], [.int .i64 x.f2, .bool x.f3, .int .u32 x.f4, .int .u32 x.f5, .int .u32 x.f6], rfl, rfl, ⟨[.int .i64 x.f2], [.bool x.f3, .int .u32 x.f4, .int .u32 x.f5, .int .u32 x.f6], rfl, rfl, ⟨[.bool x.f3], [.int .u32 x.f4, .int .u32 x.f5, .int .u32 x.f6], rfl, rfl, ⟨[.int .u32 x.f4], [.int .u32 x.f5, .int .u32 x.f6], rfl, rfl, ⟨[.int .u32 x.f5], [.int .u32 x.f6], rfl, rfl, rfl⟩⟩⟩⟩⟩⟩
def rd_T77 (xs : List S77) (i : Int) : S77 := xs.getD i.toNat z77
theorem at_T77 {w : World} {A : Option Addr} {n : Nat} {xs : List S77} (h : Kd.C k77 w A n xs) (i : Int) (h0 : 0 ≤ i) (h1 : i < n) : ∃ ad , A = some ad ∧ w.cell? (ad.add (i.toNat * 7)) = some (.int .i64 (rd_T77 xs i).f0) ∧ w.cell? ⟨(ad.add (i.toNat * 7)).block, (ad.add (i.toNat * 7)).off + 1, none⟩ = some (.int .i64 (rd_T77 xs i).f1) ∧ w.cell? ⟨(ad.add (i.toNat * 7)).block, (ad.add (i.toNat * 7)).off + 2, none⟩ = some (.int .i64 (rd_T77 xs i).f2) ∧ w.cell? ⟨(ad.add (i.toNat * 7)).block, (ad.add (i.toNat * 7)).off + 3, none⟩ = some (.bool (rd_T77 xs i).f3) ∧ w.cell? ⟨(ad.add (i.toNat * 7)).block, (ad.add (i.toNat * 7)).off + 4, none⟩ = some (.int .u32 (rd_T77 xs i).f4) ∧ w.cell? ⟨(ad.add (i.toNat * 7)).block, (ad.add (i.toNat * 7)).off + 5, none⟩ = some (.int .u32 (rd_T77 xs i).f5) ∧ w.cell? ⟨(ad.add (i.toNat * 7)).block, (ad.add (i.toNat * 7)).off + 6, none⟩ = some (.int .u32 (rd_T77 xs i).f6) := by
  obtain ⟨ad, c, e, _, hK, hc0⟩ := Kd.C_get h z77 i h0 h1
  have hc : ∀ j u, c[j]? = some u → w.cell? (ad.add (i.toNat * 7 + j)) = some u := hc0
  obtain rfl := k77_open hK
  exact ⟨ad, e, hc 0 _ rfl, by rw [← add_field _ _ 1 (by omega)]; exact hc 1 _ rfl, by rw [← add_field _ _ 2 (by omega)]; exact hc 2 _ rfl, by rw [← add_field _ _ 3 (by omega)]; exact hc 3 _ rfl, by rw [← add_field _ _ 4 (by omega)]; exact hc 4 _ rfl, by rw [← add_field _ _ 5 (by omega)]; exact hc 5 _ rfl, by rw [← add_field _ _ 6 (by omega)]; exact hc 6 _ rfl⟩

/-! #### struct type 73 -/
structure S73 where
  f0 : Int
  f1 : Int
def z73 : S73 := ⟨(0 : Int), (0 : Int)⟩
def k73 : Kd S73 := Kd.iso (Kd.pair (Kd.int .i64) (Kd.int .i64)) (fun x : S73 => (x.f0, x.f1))
theorem k73_open {w : World} {x : S73} {cs : List Value} (h : k73.K w x cs) : cs = [.int .i64 x.f0, .int .i64 x.f1] := by
  obtain ⟨_, _, rfl, rfl, rfl⟩ := h
  exact rfl
theorem k73_openM {w : World} {base : Nat} {ok : Nat → Prop} {x : S73} {cs : List Value} (h : k73.M w base ok x cs) : cs = [.int .i64 x.f0, .int .i64 x.f1] := by
  obtain ⟨_, _, rfl, rfl, rfl⟩ := h
  exact rfl
theorem k73_mk (w : World) (x : S73)  : k73.K w x [.int .i64 x.f0, .int .i64 x.f1] := ⟨[.int .i64 x.f0], [.int .i64 x.f1], rfl, rfl, rfl⟩
theorem k73_mkM (w : World) (base : Nat) (ok : Nat → Prop) (x : S73)  : k73.M w base ok x [.int .i64 x.f0, .int .i64 x.f1] := ⟨[.int .i64 x.f0], [.int .i64 x.f1], rfl, rfl, rfl⟩
def rd_T73 (xs : List S73) (i : Int) : S73 := xs.getD i.toNat z73
theorem at_T73 {w : World} {A : Option Addr} {n : Nat} {xs : List S73} (h : Kd.C k73 w A n xs) (i : Int) (h0 : 0 ≤ i) (h1 : i < n) : ∃ ad , A = some ad ∧ w.cell? (ad.add (i.toNat * 2)) = some (.int .i64 (rd_T73 xs i).f0) ∧ w.cell? ⟨(ad.add (i.toNat * 2)).block, (ad.add (i.toNat * 2)).off + 1, none⟩ = some (.int .i64 (rd_T73 xs i).f1) := by
  obtain ⟨ad, c, e, _, hK, hc0⟩ := Kd.C_get h z73 i h0 h1
  have hc : ∀ j u, c[j]? = some u → w.cell? (ad.add (i.toNat * 2 + j)) = some u := hc0
  obtain rfl := k73_open hK
  exact ⟨ad, e, hc 0 _ rfl, by rw [← add_field _ _ 1 (by omega)]; exact hc 1 _ rfl⟩

end Go.Proofs.YtbgodajbdbgdfaaDoor.V
-- printed by a program of this session (wip/pp): a Lean function and a proof for each Go function
namespace Go.Proofs.YtbgodajbdbgdfaaDoor.V
open Go.RowKit Go.Proofs.YtbgodajbdbgdfaaDoorW.PrintWords Go.Proofs.YtbgodajbdbgdfaaDoorW.PrintLast Go.Proofs.YtbgodajbdbgdfaaDoorW.PrintMore
attribute [local go_sem] max2_int min2_int max_two min_two max_three min_three max_four min_four   -- for this text's walks alone
set_option linter.unusedVariables false
set_option linter.unusedSimpArgs false

theorem eqA73 (d : Nat) (w : World) (x0 y0 : Int) (x1 y1 : Int) :
    (Op.equalIn (d + 2) 73 (.agg #[.int .i64 x0, .int .i64 x1]) (.agg #[.int .i64 y0, .int .i64 y1])).run Tryd.prog w = .ok (x0 == y0 && (x1 == y1)) w := by
  refine eqA_of Tryd.underlying73 (by kernel_rfl) ?_
  refine eqf_cons (by rfl) (by go_simp; rfl) (by go_simp; rfl) (by go_simp) ?_
  exact eqf_last (by rfl) (by go_simp; rfl) (by go_simp; rfl) (by go_simp)
end Go.Proofs.YtbgodajbdbgdfaaDoor.V
