/- field: plain laws. -/
import Derived.Test.YtkepmbkghmkodaaFieldPure
namespace Go.Proofs.Ytkepmbkghmkodaa.Field
open Go.RowKit Go.Proofs.YtkepmbkghmkodaaW.PrintWords Go.Proofs.Ytkepmbkghmkodaa.Base Go.Proofs.Ytkepmbkghmkodaa.Class
def FS.ahead (d : List ByteArray) (s : FS) : FS := ⟨d ++ s.done, s.now, s.begun⟩
theorem fend_ahead (d : List ByteArray) (s : FS) : fend (s.ahead d) = (fend s).ahead d := by
  unfold fend FS.ahead
  cases s.begun <;> simp
theorem floose1_ahead (d : List ByteArray) (s : FS) (c : Int) : floose1 (s.ahead d) c = (floose1 s c).ahead d := by
  unfold floose1
  split
  · exact fend_ahead d s
  · rfl
theorem foldl_ahead (d : List ByteArray) (l : List Int) (s : FS) : l.foldl floose1 (s.ahead d) = (l.foldl floose1 s).ahead d := by
  induction l generalizing s with
  | nil => rfl
  | cons c l ih => simp only [List.foldl_cons]; rw [floose1_ahead, ih]
theorem fpiece_ahead (d : List ByteArray) (s : FS) (p : Piece) : fpiece (s.ahead d) p = (fpiece s p).ahead d := by
  unfold fpiece
  split
  · exact fend_ahead d s
  · split
    · rfl
    · exact foldl_ahead d _ s
theorem foldp_ahead (d : List ByteArray) (l : List Piece) (s : FS) : l.foldl fpiece (s.ahead d) = (l.foldl fpiece s).ahead d := by
  induction l generalizing s with
  | nil => rfl
  | cons c l ih => simp only [List.foldl_cons]; rw [fpiece_ahead, ih]
theorem split_cut (a b : List Piece) (c : Piece) (hc : c.cut = true) : split (a ++ [c] ++ b) = split a ++ split b := by
  unfold split
  rw [List.foldl_append, List.foldl_append]
  generalize a.foldl fpiece ⟨[], [], false⟩ = s
  simp only [List.foldl_cons, List.foldl_nil]
  have h1 : fpiece s c = FS.ahead (fend s).done ⟨[], [], false⟩ := by
    unfold fpiece
    rw [if_pos hc]
    simp [FS.ahead, fend]
  rw [h1, foldp_ahead, fend_ahead]
  rfl
/-- The bytes of a text that is made of numbers. -/
theorem bt_str (l : List Int) (h : ∀ c ∈ l, 0 ≤ c ∧ c ≤ 255) (i : Nat) (hi : i < l.length) : bt (strOfNums l) i = l[i] := by
  have hb := h l[i] (List.getElem_mem hi)
  have hsz : (strOfNums l).size = l.length := strOfNums_size l
  unfold bt
  rw [dif_pos (by simpa [hsz] using hi)]
  have : ((strOfNums l)[(i : Int).toNat]'(by simpa [hsz] using hi)) = UInt8.ofNat (l[i]).toNat := by
    show (strOfNums l).data[i]'_ = _
    simp [strOfNums]
  rw [this]
  simp only [UInt8.toNat_ofNat']
  omega
def okField (f : ByteArray) : Prop := f.size ≠ 0 ∧ ∀ i : Nat, i < f.size → breakB (bt f i) = false
def okFS (s : FS) : Prop := (∀ f ∈ s.done, okField f) ∧ (∀ c ∈ s.now, (0 ≤ c ∧ c ≤ 255) ∧ breakB c = false) ∧ (s.begun = true → s.now ≠ [])
theorem fend_ok {s : FS} (h : okFS s) : okFS (fend s) := by
  obtain ⟨h1, h2, h3⟩ := h
  refine ⟨?_, by simp [fend], by simp [fend]⟩
  intro f hf
  unfold fend at hf
  cases hb : s.begun with
  | false => rw [hb] at hf; exact h1 f (by simpa using hf)
  | true =>
    rw [hb] at hf
    simp only [if_true, List.mem_append, List.mem_singleton] at hf
    rcases hf with hf | rfl
    · exact h1 f hf
    · have hl : s.now.length ≠ 0 := fun e => h3 hb (List.eq_nil_of_length_eq_zero e)
      refine ⟨by rw [strOfNums_size]; exact hl, fun i hi => ?_⟩
      rw [strOfNums_size] at hi
      rw [bt_str s.now (fun c hc => (h2 c hc).1) i hi]
      exact (h2 _ (List.getElem_mem hi)).2
theorem floose1_ok {s : FS} (h : okFS s) (c : Int) (hc : 0 ≤ c ∧ c ≤ 255) : okFS (floose1 s c) := by
  unfold floose1
  split
  · exact fend_ok h
  · rename_i hb
    obtain ⟨h1, h2, h3⟩ := h
    refine ⟨h1, fun x hx => ?_, by simp⟩
    rcases List.mem_append.1 hx with hx | hx
    · exact h2 x hx
    · obtain rfl : x = c := by simpa using hx
      exact ⟨hc, by simpa using hb⟩
theorem foldl_ok (l : List Int) (hl : ∀ c ∈ l, 0 ≤ c ∧ c ≤ 255) {s : FS} (h : okFS s) : okFS (l.foldl floose1 s) := by
  induction l generalizing s with
  | nil => exact h
  | cons c l ih => exact ih (fun x hx => hl x (by simp [hx])) (floose1_ok h c (hl c (by simp)))
theorem bytesOf_range (t : ByteArray) : ∀ c ∈ bytesOf t, 0 ≤ c ∧ c ≤ 255 := by
  intro c hc
  obtain ⟨b, _, rfl⟩ := List.mem_map.1 hc
  have := b.toNat_lt
  omega
theorem fpiece_ok {s : FS} (h : okFS s) (p : Piece) (hq : p.quoted = false) : okFS (fpiece s p) := by
  unfold fpiece
  split
  · exact fend_ok h
  · rw [if_neg (by simp [hq])]
    exact foldl_ok _ (bytesOf_range _) h
theorem foldp_ok (l : List Piece) (hl : ∀ p ∈ l, p.quoted = false) {s : FS} (h : okFS s) : okFS (l.foldl fpiece s) := by
  induction l generalizing s with
  | nil => exact h
  | cons p l ih => exact ih (fun x hx => hl x (by simp [hx])) (fpiece_ok h p (hl p (by simp)))
theorem split_ok (l : List Piece) (hl : ∀ p ∈ l, p.quoted = false) : ∀ f ∈ split l, okField f :=
  (fend_ok (foldp_ok l hl ⟨by simp, by simp, by simp⟩)).1
theorem psize_length (l : List Piece) : l.length ≤ psize l := by
  induction l with
  | nil => simp
  | cons p l ih => simp only [psize, List.map_cons, List.sum_cons, List.length_cons] at *; omega
theorem split_size (l : List Piece) : (split l).length ≤ 2 * psize l := by
  have h1 := foldp_w l ⟨[], [], false⟩
  have h2 := fend_w (l.foldl fpiece ⟨[], [], false⟩)
  have h3 := w_done (fend (l.foldl fpiece ⟨[], [], false⟩))
  simp only [FS.w] at h1
  unfold split
  simp only [FS.w, List.length_nil, Bool.toNat_false] at *
  omega
def anyQ (l : List Piece) (k : Nat) : Bool := (l.take k).any fun p => p.quoted
theorem anyQ_succ (l : List Piece) (k : Nat) (h : k < l.length) : anyQ l (k + 1) = (anyQ l k || l[k].quoted) := by
  unfold anyQ
  rw [List.take_succ_eq_append_getElem h, List.any_append]
  simp
theorem anyQ_all (l : List Piece) : anyQ l l.length = l.any fun p => p.quoted := by
  unfold anyQ
  rw [List.take_of_length_le (Nat.le_refl _)]
theorem any_false {l : List Piece} (h : (l.any fun p => p.quoted) = false) : ∀ p ∈ l, p.quoted = false := by
  intro p hp
  cases hq : p.quoted with
  | false => rfl
  | true => exact absurd (List.any_eq_true.2 ⟨p, hp, hq⟩) (by simp [h])
def FS.z (s : FS) : Nat := (s.done.map fun f => f.size).sum + s.now.length
theorem fend_z (s : FS) : (fend s).z ≤ s.z := by
  unfold fend FS.z
  cases s.begun <;> simp [strOfNums_size]
theorem floose1_z (s : FS) (c : Int) : (floose1 s c).z ≤ s.z + 1 := by
  unfold floose1
  split
  · have := fend_z s; omega
  · unfold FS.z; simp; omega
theorem foldl_z (l : List Int) (s : FS) : (l.foldl floose1 s).z ≤ s.z + l.length := by
  induction l generalizing s with
  | nil => simp
  | cons c l ih => simp only [List.foldl_cons, List.length_cons]; have := ih (floose1 s c); have := floose1_z s c; omega
theorem fpiece_z (s : FS) (p : Piece) : (fpiece s p).z ≤ s.z + (p.text.size + 1) := by
  unfold fpiece
  split
  · have := fend_z s; omega
  · split
    · unfold FS.z; simp [bytesOf_length]; omega
    · have := foldl_z (bytesOf p.text) s; rw [bytesOf_length] at this; unfold floose; omega
theorem foldp_z (l : List Piece) (s : FS) : (l.foldl fpiece s).z ≤ s.z + psize l := by
  induction l generalizing s with
  | nil => simp [psize]
  | cons p l ih => simp only [List.foldl_cons]; have := ih (fpiece s p); have := fpiece_z s p; simp only [psize, List.map_cons, List.sum_cons] at *; omega
theorem mem_sum {l : List ByteArray} {f : ByteArray} (h : f ∈ l) : f.size ≤ (l.map fun f => f.size).sum := by
  induction l with
  | nil => cases h
  | cons x l ih =>
    simp only [List.map_cons, List.sum_cons]
    rcases List.mem_cons.1 h with rfl | h
    · omega
    · have := ih h; omega
theorem split_fsize (l : List Piece) : ∀ f ∈ split l, f.size ≤ psize l := by
  intro f hf
  have h1 := foldp_z l ⟨[], [], false⟩
  have h2 := fend_z (l.foldl fpiece ⟨[], [], false⟩)
  have h3 := mem_sum (l := (fend (l.foldl fpiece ⟨[], [], false⟩)).done) hf
  simp only [FS.z, List.map_nil, List.sum_nil, List.length_nil] at *
  omega
theorem psize_append (a b : List Piece) : psize (a ++ b) = psize a + psize b := by simp [psize]
end Go.Proofs.Ytkepmbkghmkodaa.Field
