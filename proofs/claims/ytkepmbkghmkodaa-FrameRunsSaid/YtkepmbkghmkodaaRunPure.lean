/- frame: the stack by its kinds alone: plain laws. -/
import Derived.Test.YtkepmbkghmkodaaFramePure
namespace Go.Proofs.Ytkepmbkghmkodaa.Frame
set_option linter.unusedVariables false
set_option linter.unusedSimpArgs false
def cntK : List Int → Nat
  | [] => 0
  | k :: r => if isLoop k = true then cntK r + 1 else if isWall k = true then 0 else cntK r
/-- The places of all loops above the uppermost wall, from above. -/
def lpsK : List Int → List Int
  | [] => []
  | k :: r => if isWall k = true then [] else if isLoop k = true then (r.length : Int) :: lpsK r else lpsK r
def cutK (p : Int → Bool) : List Int → Nat → Option Nat
  | [], _ => none
  | k :: r, n => if p k = true then (match n with
    | 0 => some r.length
    | m + 1 => cutK p r m) else if isWall k = true then none else cutK p r n
theorem lpsK_len : ∀ ks, (lpsK ks).length = cntK ks
  | [] => rfl
  | k :: r => by
    have ih := lpsK_len r
    unfold lpsK cntK
    by_cases hl : isLoop k = true
    · rw [if_neg (by rw [loop_wall hl]; decide), if_pos hl, if_pos hl, List.length_cons, ih]
    · rw [if_neg hl, if_neg hl]
      by_cases hw : isWall k = true
      · rw [if_pos hw, if_pos hw]; rfl
      · rw [if_neg hw, if_neg hw, ih]
theorem lpsK_get : ∀ (ks : List Int) (n : Nat), (lpsK ks)[n]? = (cutK isLoop ks n).map fun m => (m : Int)
  | [], n => rfl
  | k :: r, n => by
    unfold lpsK cutK
    by_cases hl : isLoop k = true
    · rw [if_neg (by rw [loop_wall hl]; decide), if_pos hl, if_pos hl]
      cases n with
      | zero => rfl
      | succ m => rw [List.getElem?_cons_succ]; exact lpsK_get r m
    · rw [if_neg hl, if_neg hl]
      by_cases hw : isWall k = true
      · rw [if_pos hw, if_pos hw]; rfl
      · rw [if_neg hw, if_neg hw]; exact lpsK_get r n
theorem cntR_K : ∀ r : List It, cntR r = cntK (r.map It.kind)
  | [] => rfl
  | x :: r => by
    rw [cntR_cons, List.map_cons, cntR_K r]; rfl
theorem cut_K (p : Int → Bool) : ∀ (r : List It) (n : Nat), (cut p r n).map (fun q => q.2.length) = cutK p (r.map It.kind) n
  | [], n => rfl
  | x :: r, n => by
    rw [List.map_cons]
    unfold cut cutK
    by_cases hl : p x.kind = true
    · rw [if_pos hl, if_pos hl]
      cases n with
      | zero => simp
      | succ m => exact cut_K p r m
    · rw [if_neg hl, if_neg hl]
      by_cases hw : isWall x.kind = true
      · rw [if_pos hw, if_pos hw]; rfl
      · rw [if_neg hw, if_neg hw]; exact cut_K p r n
end Go.Proofs.Ytkepmbkghmkodaa.Frame
