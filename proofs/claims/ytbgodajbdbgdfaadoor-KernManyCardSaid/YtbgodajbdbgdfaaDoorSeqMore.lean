/- a drawn region's operations: a call that is ready alone; a row of last ones. -/
import Derived.Test.YtbgodajbdbgdfaaDoorBase
namespace Go.Proofs.YtbgodajbdbgdfaaDoor.Seq
open Go.RowKit Go.Proofs.YtbgodajbdbgdfaaDoorW.PrintWords Go.Proofs.YtbgodajbdbgdfaaDoorW.PrintLast Go.Proofs.YtbgodajbdbgdfaaDoor.Base
set_option linter.unusedVariables false
section
variable {P : Program} {ops : Array Oper} {Q : Exit → Act → World → Prop} {S : World → Prop}
def opsAt (ops : Array Oper) (r : List (Nat × Option Tmp × K)) : List Oper := r.filterMap fun x => ops[x.1]?
def lastsB (ops : Array Oper) : List (Nat × Option Tmp × K) → Bool
  | [] => true
  | (i, _, .last) :: r => decide (i < ops.size) && lastsB ops r
  | _ => false
theorem s_tailL : ∀ (r : List (Nat × Option Tmp × K)) {a : Act} {w : World}, lastsB ops r = true → wpList P ops Q (opsAt ops r) a w → wpSeq P ops Q S r a w
  | [], a, w, ht, h => h
  | (i, N, .last) :: r, a, w, ht, h => by
    simp only [lastsB, Bool.and_eq_true, decide_eq_true_eq] at ht
    obtain ⟨hlt, ht⟩ := ht
    have ho : ops[i]? = some ops[i] := Array.getElem?_eq_getElem hlt
    have hd : opsAt ops ((i, N, K.last) :: r) = ops[i] :: opsAt ops r := by
      unfold opsAt
      rw [List.filterMap_cons]
      simp only [ho]
    rw [hd] at h
    unfold wpSeq wpOp
    simp only [ho]
    unfold wpList at h
    split
    · rename_i hw
      simp only [hw, if_true] at h
      exact h.imp (Oper.wp_mono fun a w hk => s_tailL r ht hk) id
    · rename_i hw
      simp only [hw] at h
      exact s_tailL r ht h
  | (i, _, .pure) :: r, a, w, ht, h => by simp [lastsB] at ht
  | (i, _, .held) :: r, a, w, ht, h => by simp [lastsB] at ht
  | (i, _, .one) :: r, a, w, ht, h => by simp [lastsB] at ht
/-- An operation that is ready alone (a call): S is shown behind it. -/
theorem s_oneL {i : Nat} {N : Option Tmp} {r : List (Nat × Option Tmp × K)} {o : Oper} {a : Act} {w : World} (ho : ops[i]? = some o)
    (h : ∀ K : Act → World → Prop, Shut (∀ a' w', S w' → wpSeq P ops Q S r a' w' → K a' w') → wpList P ops (Exit.then K Q) [o] a w) (hw : Region.wanted o (yielded ops a.tmps) = true) : wpSeq P ops Q S ((i, N, .one) :: r) a w := by
  unfold wpSeq wpOp
  simp only [ho, hw, if_true]
  have hK : Shut (∀ a' w', S w' → wpSeq P ops Q S r a' w' → (fun a' w' => (S w → S w') ∧ wpSeq P ops Q S r a' w') a' w') := fun a' w' hS hk => ⟨fun _ => hS, hk⟩
  have h1 := h _ hK
  unfold wpList at h1
  simp only [hw, if_true] at h1
  exact h1
end
end Go.Proofs.YtbgodajbdbgdfaaDoor.Seq
