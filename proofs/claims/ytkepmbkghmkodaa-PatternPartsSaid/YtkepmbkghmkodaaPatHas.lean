/- pattern: a thing by its cells; what has, set and things come to. -/
import Derived.Test.YtkepmbkghmkodaaBase
import Derived.Test.YtkepmbkghmkodaaP5
namespace Go.Proofs.Ytkepmbkghmkodaa.Pat
open Go.RowKit Go.Proofs.YtkepmbkghmkodaaW.PrintWords Go.Proofs.YtkepmbkghmkodaaW.PrintLast Go.Proofs.Ytkepmbkghmkodaa.Base Go.Proofs.Ytkepmbkghmkodaa.P Go.Proofs.Ytkepmbkghmkodaa.Seq
set_option linter.unusedVariables false
set_option linter.unusedSimpArgs false
/-- pattern.thing -/
structure Th where
  kind : Int
  c : Int
  set : List Bool
instance : Inhabited Th := ⟨⟨0, 0, List.replicate 256 false⟩⟩
def Th.cells (x : Th) : List Value := .int .i64 x.kind :: .int .u8 x.c :: x.set.map Value.bool
def Th.arr (x : Th) : Array Value := x.cells.toArray
theorem arr_len {x : Th} (h : x.set.length = 256) : x.cells.length = 258 := by simp [Th.cells, h]
theorem arr0 (x : Th) : x.arr[0]? = some (.int .i64 x.kind) := rfl
theorem arr1 (x : Th) : x.arr[1]? = some (.int .u8 x.c) := rfl
theorem arr2 (x : Th) (h : x.set.length = 256) (c : Int) (h0 : 0 ≤ c) (h1 : c < 256) : x.arr[2 + c.toNat]? = some (.bool (x.set.getD c.toNat false)) := by
  have hl : c.toNat < x.set.length := by omega
  have e : 2 + c.toNat = c.toNat + 1 + 1 := by omega
  simp [Th.arr, Th.cells, e, List.getElem?_cons_succ, List.getElem?_map, List.getD_eq_getElem?_getD, List.getElem?_eq_getElem hl]
def Th.has (x : Th) (c : Int) : Bool := if x.kind = 0 then x.c == c else if x.kind = 3 then x.set.getD c.toNat false else true
theorem ret_b {a b : Bool} (h : a = b) : Ending.returned (.bool a) = .returned (.bool b) := by rw [h]
set_option maxHeartbeats 1000000 in
set_option maxRecDepth 100000 in
theorem has_any (x : Th) (hx : x.set.length = 256) (c : Int) (hc0 : 0 ≤ c) (hc1 : c < 256) (w : World) :
    Calls Try.prog 95 #[.agg x.arr, .int .u8 c] w fun e w' => e = .returned (.bool (x.has c)) ∧ Below w.heap.size w w' := by
  have HA := Aside0.mk (below_alloc (Below.refl w.heap.size w) (.cells x.arr 134))
  have hg := blk_new w (.cells x.arr 134)
  have c0 : (w.alloc (.cells x.arr 134)).cell? ⟨w.heap.size, 0, none⟩ = some (.int .i64 x.kind) := (blk_cell hg 0).trans (arr0 x)
  have c1 : (w.alloc (.cells x.arr 134)).cell? ⟨w.heap.size, 1, none⟩ = some (.int .u8 x.c) := (blk_cell hg 1).trans (arr1 x)
  have c2 : (w.alloc (.cells x.arr 134)).cell? ⟨w.heap.size, 2 + c.toNat, none⟩ = some (.bool (x.set.getD c.toNat false)) := (blk_cell hg _).trans (arr2 x hx c hc0 hc1)
  clear hg hx
  unfold Th.has
  generalize x.set.getD c.toNat false = b at *
  have hd0 : decide (0 ≤ c) = true := decide_eq_true hc0
  have hd1 : decide (c < 256) = true := decide_eq_true hc1
  by_cases h0 : x.kind = 0
  · have e0 : (x.kind == 0) = true := beq_iff_eq.2 h0
    rw [if_pos h0]
    clear h0
    go_enter Try.func95, Try.ntmps95
    go_wp2
    go_ret
    exact ⟨rfl, HA.out⟩
  · have e0 : (x.kind == 0) = false := beq_eq_false_iff_ne.2 h0
    rw [if_neg h0]
    clear h0
    by_cases h3 : x.kind = 3
    · have e3 : (x.kind == 3) = true := beq_iff_eq.2 h3
      rw [if_pos h3]
      clear h3
      go_enter Try.func95, Try.ntmps95
      go_wp2
      go_ret
      exact ⟨rfl, HA.out⟩
    · have e3 : (x.kind == 3) = false := beq_eq_false_iff_ne.2 h3
      rw [if_neg h3]
      clear h3
      go_enter Try.func95, Try.ntmps95
      go_wp2
      go_ret
      exact ⟨rfl, HA.out⟩
end Go.Proofs.Ytkepmbkghmkodaa.Pat
