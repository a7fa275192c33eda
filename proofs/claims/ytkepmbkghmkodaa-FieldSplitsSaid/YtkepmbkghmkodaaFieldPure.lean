/- field: the plain law. -/
import Derived.Test.YtkepmbkghmkodaaClass
namespace Go.Proofs.Ytkepmbkghmkodaa.Field
open Go.RowKit Go.Proofs.YtkepmbkghmkodaaW.PrintWords Go.Proofs.Ytkepmbkghmkodaa.Base Go.Proofs.Ytkepmbkghmkodaa.Class
/-- What a 'fields' holds. -/
structure FS where
  done : List ByteArray
  now : List Int
  begun : Bool
def fend (s : FS) : FS := ⟨if s.begun then s.done ++ [strOfNums s.now] else s.done, [], false⟩
def floose1 (s : FS) (c : Int) : FS := if breakB c then fend s else ⟨s.done, s.now ++ [c], true⟩
def flooseN (s : FS) (t : ByteArray) (k : Nat) : FS := ((bytesOf t).take k).foldl floose1 s
def floose (s : FS) (t : ByteArray) : FS := (bytesOf t).foldl floose1 s
theorem flooseN_succ (s : FS) (t : ByteArray) (k : Nat) (h : k < t.size) : flooseN s t (k + 1) = floose1 (flooseN s t k) (bt t k) := by
  have h' : k < (bytesOf t).length := by rw [bytesOf_length]; exact h
  unfold flooseN
  rw [List.take_succ_eq_append_getElem h', List.foldl_append]
  have : (bytesOf t)[k] = bt t k := by
    rw [← rd_bytesOf]
    simp [rd, List.getD_eq_getElem?_getD, List.getElem?_eq_getElem h']
  rw [this]
  rfl
theorem flooseN_all (s : FS) (t : ByteArray) : flooseN s t t.size = floose s t := by
  unfold flooseN floose
  rw [List.take_of_length_le (by rw [bytesOf_length]; omega)]
theorem fend_size (s : FS) : (fend s).done.length ≤ s.done.length + 1 ∧ (fend s).now.length = 0 := by
  unfold fend
  split <;> simp
def FS.w (s : FS) : Nat := s.done.length + s.now.length + s.begun.toNat
theorem fend_w (s : FS) : (fend s).w ≤ s.w := by
  unfold fend FS.w
  cases s.begun <;> simp
theorem floose1_w (s : FS) (c : Int) : (floose1 s c).w ≤ s.w + 2 := by
  unfold floose1
  split
  · have := fend_w s; omega
  · unfold FS.w; cases s.begun <;> simp <;> omega
theorem foldl_w (l : List Int) (s : FS) : (l.foldl floose1 s).w ≤ s.w + 2 * l.length := by
  induction l generalizing s with
  | nil => simp
  | cons c l ih => simp only [List.foldl_cons, List.length_cons]; have := ih (floose1 s c); have := floose1_w s c; omega
theorem flooseN_w (s : FS) (t : ByteArray) (k : Nat) : (flooseN s t k).w ≤ s.w + 2 * t.size := by
  have := foldl_w ((bytesOf t).take k) s
  have h2 := List.length_take_le k (bytesOf t)
  have h3 : ((bytesOf t).take k).length ≤ (bytesOf t).length := List.length_take_le' _ _
  rw [bytesOf_length] at h3
  unfold flooseN
  omega
theorem w_done (s : FS) : s.done.length ≤ s.w := by unfold FS.w; omega
theorem w_now (s : FS) : s.now.length ≤ s.w := by unfold FS.w; omega
def fpiece (s : FS) (p : Piece) : FS := if p.cut then fend s else if p.quoted then ⟨s.done, s.now ++ bytesOf p.text, true⟩ else floose s p.text
def split (l : List Piece) : List ByteArray := (fend (l.foldl fpiece ⟨[], [], false⟩)).done
def psize (l : List Piece) : Nat := (l.map fun p => p.text.size + 1).sum
theorem fpiece_w (s : FS) (p : Piece) : (fpiece s p).w ≤ s.w + 2 * (p.text.size + 1) := by
  unfold fpiece
  split
  · have := fend_w s; omega
  · split
    · unfold FS.w; simp [bytesOf_length]; cases s.begun <;> simp <;> omega
    · have := foldl_w (bytesOf p.text) s; rw [bytesOf_length] at this; unfold floose; omega
theorem foldp_w (l : List Piece) (s : FS) : (l.foldl fpiece s).w ≤ s.w + 2 * psize l := by
  induction l generalizing s with
  | nil => simp [psize]
  | cons p l ih => simp only [List.foldl_cons]; have := ih (fpiece s p); have := fpiece_w s p; simp only [psize, List.map_cons, List.sum_cons] at *; omega
theorem psize_take (l : List Piece) (k : Nat) : psize (l.take k) ≤ psize l := by
  conv => rhs; rw [← List.take_append_drop k l]
  simp only [psize, List.map_append, List.sum_append]; omega
theorem psize_get (l : List Piece) (k : Nat) (h : k < l.length) : psize (l.take k) + (l[k].text.size + 1) ≤ psize l := by
  conv => rhs; rw [← List.take_append_drop (k + 1) l]
  rw [List.take_succ_eq_append_getElem h]
  simp only [psize, List.map_append, List.sum_append, List.map_cons, List.map_nil, List.sum_cons, List.sum_nil]; omega
theorem psize_succ (l : List Piece) (k : Nat) (h : k < l.length) : psize (l.take (k + 1)) = psize (l.take k) + (l[k].text.size + 1) := by
  rw [List.take_succ_eq_append_getElem h]
  simp only [psize, List.map_append, List.sum_append, List.map_cons, List.map_nil, List.sum_cons, List.sum_nil]; omega
def splitN (l : List Piece) (k : Nat) : FS := (l.take k).foldl fpiece ⟨[], [], false⟩
theorem splitN_succ (l : List Piece) (k : Nat) (h : k < l.length) : splitN l (k + 1) = fpiece (splitN l k) l[k] := by
  unfold splitN
  rw [List.take_succ_eq_append_getElem h, List.foldl_append]; rfl
theorem splitN_w (l : List Piece) (k : Nat) : (splitN l k).w ≤ 2 * psize (l.take k) := by
  have := foldp_w (l.take k) ⟨[], [], false⟩
  simpa [splitN, FS.w] using this
theorem splitN_all (l : List Piece) : split l = (fend (splitN l l.length)).done := by
  unfold split splitN
  rw [List.take_of_length_le (Nat.le_refl _)]
end Go.Proofs.Ytkepmbkghmkodaa.Field
