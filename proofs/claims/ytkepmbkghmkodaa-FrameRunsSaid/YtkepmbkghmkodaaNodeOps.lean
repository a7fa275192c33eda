/- api.Part, api.Word, api.Node: what reads as such is such, and fits into a memory. -/
import Derived.Test.YtkepmbkghmkodaaOpenRec
import Derived.Test.YtkepmbkghmkodaaQ0
namespace Go.Proofs.Ytkepmbkghmkodaa.NodeOps
open Go.RowKit Go.Proofs.YtkepmbkghmkodaaW.PrintWords Go.Proofs.Ytkepmbkghmkodaa.Open Go.Proofs.Ytkepmbkghmkodaa.Q
set_option linter.unusedVariables false
/-- A size that a memory can hold. -/
abbrev Lim (n : Nat) : Prop := n ≤ 140737488355328
inductive FitPart : S154 → Prop
  | mk (x : S154) (h2 : Lim x.f2.size) (h3 : Lim x.f3.size) (hl : Lim x.f4.length) (h : ∀ y ∈ x.f4, FitPart y) : FitPart x
abbrev FitWord (l : List S154) : Prop := Lim l.length ∧ ∀ y ∈ l, FitPart y
abbrev FitWords (l : List (List S154)) : Prop := Lim l.length ∧ ∀ y ∈ l, FitWord y
abbrev FitAssign (x : S114) : Prop := Lim x.f0.size ∧ FitWord x.f1
inductive FitNode : S52 → Prop
  | mk (x : S52) (h1 : Lim x.f1.size) (h3 : Lim x.f3.length ∧ ∀ y ∈ x.f3, FitAssign y) (h4 : FitWords x.f4) (l5 : x.f5.length * 152 ≤ 140737488355328) (h5 : ∀ y ∈ x.f5, FitNode y) (l6 : Lim x.f6.length) (l7 : Lim x.f7.length)
      (p7 : ∀ c ∈ x.f7, FitWords c.f0) (b7 : ∀ c ∈ x.f7, c.f1.length * 152 ≤ 140737488355328) (n7 : ∀ c ∈ x.f7, ∀ y ∈ c.f1, FitNode y) : FitNode x
theorem lim_of {n b : Nat} (h : n * b ≤ reachBytes) (hb : 1 ≤ b) : Lim n := by
  have h1 : n * 1 ≤ n * b := Nat.mul_le_mul_left _ hb
  have h2 : reachBytes ≤ 140737488355328 := by decide
  unfold Lim; omega
theorem lim_b {n : Nat} (h : n ≤ reachBytes) : Lim n := by
  have h2 : reachBytes ≤ 140737488355328 := by decide
  unfold Lim; omega
set_option maxRecDepth 100000 in
theorem op_part (w : World) : Open.Op Try.prog w k154 154 FitPart := op_fix fun N d hd ih =>
  opu_struct (V := fun x => True ∧ True ∧ x.2.2.1.size ≤ reachBytes ∧ x.2.2.2.1.size ≤ reachBytes ∧ (x.2.2.2.2.length * Try.prog.bytesOf 154 ≤ reachBytes ∧ ∀ y ∈ x.2.2.2.2, FitPart y))
    (fun x : S154 => (x.f0, x.f1, x.f2, x.f3, x.f4)) (fun x => ⟨x.1, x.2.1, x.2.2.1, x.2.2.2.1, x.2.2.2.2⟩) (fun _ => rfl) Try.underlying154 (by kernel_rfl)
    (opfu_cons (o' := 1) (V := fun _ : Int => True) rfl (opu_mono (opu_of N (op_int Try.underlying3)) (Nat.le_refl _) (fun _ _ => trivial)) (by kernel_rfl) rfl
    (opfu_cons (o' := 2) (V := fun _ : Bool => True) rfl (opu_of N (op_bool Try.underlying4)) (by kernel_rfl) rfl
    (opfu_cons (o' := 3) (V := fun s : ByteArray => s.size ≤ reachBytes) rfl (opu_of N (op_string Try.underlying9)) (by kernel_rfl) rfl
    (opfu_cons (o' := 4) (V := fun s : ByteArray => s.size ≤ reachBytes) rfl (opu_of N (op_string Try.underlying9)) (by kernel_rfl) rfl
    (opfu_one rfl (opu_mono (opu_slice Try.underlying110 (by rw [hd]; first | done | rfl | kernel_rfl) ih) (Nat.le_succ _) (fun _ h => h)) (by kernel_rfl))))))
    (fun x h => .mk x (lim_b h.2.2.1) (lim_b h.2.2.2.1) (lim_of h.2.2.2.2.1 (by decide +kernel)) h.2.2.2.2.2)
set_option maxRecDepth 100000 in
theorem op_word (w : World) : Open.Op Try.prog w (Kd.slice 154 k154) 111 FitWord :=
  op_mono (op_slice Try.underlying111 (by kernel_rfl) (op_part w)) (fun _ h => ⟨lim_of h.1 (by decide +kernel), h.2⟩)
set_option maxRecDepth 100000 in
theorem op_words (w : World) : Open.Op Try.prog w (Kd.slice 111 (Kd.slice 154 k154)) 47 FitWords :=
  op_mono (op_slice Try.underlying47 (by kernel_rfl) (op_word w)) (fun _ h => ⟨lim_of h.1 (by decide +kernel), h.2⟩)
set_option maxRecDepth 100000 in
theorem op_assign (w : World) : Open.Op Try.prog w k114 114 FitAssign :=
  op_struct (V := fun x => x.1.size ≤ reachBytes ∧ FitWord x.2) (fun x : S114 => (x.f0, x.f1)) (fun x => ⟨x.1, x.2⟩) (fun _ => rfl) Try.underlying114 (by kernel_rfl)
    (opf_cons (o' := 1) (V := fun s : ByteArray => s.size ≤ reachBytes) rfl (op_string Try.underlying9) (by kernel_rfl) rfl (opf_one rfl (op_word w) (by kernel_rfl))) (fun x h => ⟨lim_b h.1, h.2⟩)
theorem by_one {n b : Nat} (h : n * b ≤ reachBytes) (hb : b = 152) : n * 152 ≤ 140737488355328 := by
  subst hb
  have h2 : reachBytes ≤ 140737488355328 := by decide
  omega
set_option maxRecDepth 100000 in
theorem op_node (w : World) : Open.Op Try.prog w k52 52 FitNode := op_fix fun N d hd ih =>
  opu_struct (V := fun x => True ∧ x.2.1.size ≤ reachBytes ∧ True ∧ (x.2.2.2.1.length * Try.prog.bytesOf 114 ≤ reachBytes ∧ ∀ y ∈ x.2.2.2.1, FitAssign y) ∧ FitWords x.2.2.2.2.1 ∧ (x.2.2.2.2.2.1.length * Try.prog.bytesOf 52 ≤ reachBytes ∧ ∀ y ∈ x.2.2.2.2.2.1, FitNode y) ∧ (x.2.2.2.2.2.2.1.length * Try.prog.bytesOf 4 ≤ reachBytes ∧ ∀ y ∈ x.2.2.2.2.2.2.1, True) ∧ (x.2.2.2.2.2.2.2.length * Try.prog.bytesOf 116 ≤ reachBytes ∧ ∀ c ∈ x.2.2.2.2.2.2.2, FitWords c.f0 ∧ c.f1.length * Try.prog.bytesOf 52 ≤ reachBytes ∧ ∀ y ∈ c.f1, FitNode y))
    (fun x : S52 => (x.f0, x.f1, x.f2, x.f3, x.f4, x.f5, x.f6, x.f7)) (fun x => ⟨x.1, x.2.1, x.2.2.1, x.2.2.2.1, x.2.2.2.2.1, x.2.2.2.2.2.1, x.2.2.2.2.2.2.1, x.2.2.2.2.2.2.2⟩) (fun _ => rfl) Try.underlying52 (by kernel_rfl)
    (opfu_cons (o' := 1) (V := fun _ : Int => True) rfl (opu_mono (opu_of N (op_int Try.underlying3)) (Nat.le_refl _) (fun _ _ => trivial)) (by kernel_rfl) rfl
    (opfu_cons (o' := 2) (V := fun s : ByteArray => s.size ≤ reachBytes) rfl (opu_of N (op_string Try.underlying9)) (by kernel_rfl) rfl
    (opfu_cons (o' := 3) (V := fun _ : Bool => True) rfl (opu_of N (op_bool Try.underlying4)) (by kernel_rfl) rfl
    (opfu_cons (o' := 4) rfl (opu_of N (op_slice Try.underlying46 (by kernel_rfl) (op_assign w))) (by kernel_rfl) rfl
    (opfu_cons (o' := 5) (V := FitWords) rfl (opu_of N (op_words w)) (by kernel_rfl) rfl
    (opfu_cons (o' := 6) rfl (opu_mono (opu_slice Try.underlying48 (by rw [hd]; first | done | rfl | kernel_rfl) ih) (Nat.le_succ _) (fun _ h => h)) (by kernel_rfl) rfl
    (opfu_cons (o' := 7) rfl (opu_of N (op_slice Try.underlying49 (by kernel_rfl) (op_bool Try.underlying4))) (by kernel_rfl) rfl
    (opfu_one rfl (opu_mono (opu_slice Try.underlying50 (by kernel_rfl)
      (opu_mono (V' := fun c : S116 => FitWords c.f0 ∧ c.f1.length * Try.prog.bytesOf 52 ≤ reachBytes ∧ ∀ y ∈ c.f1, FitNode y)
        (opu_struct (V := fun x => FitWords x.1 ∧ (x.2.length * Try.prog.bytesOf 52 ≤ reachBytes ∧ ∀ y ∈ x.2, FitNode y)) (V' := fun c : S116 => FitWords c.f0 ∧ c.f1.length * Try.prog.bytesOf 52 ≤ reachBytes ∧ ∀ y ∈ c.f1, FitNode y) (fun x : S116 => (x.f0, x.f1)) (fun x => ⟨x.1, x.2⟩) (fun _ => rfl) Try.underlying116 (by kernel_rfl)
          (opfu_cons (o' := 1) (V := FitWords) rfl (opu_of N (op_words w)) (by kernel_rfl) rfl (opfu_one rfl (opu_mono (opu_slice Try.underlying48 (by rw [hd]; first | done | rfl | kernel_rfl) ih) (Nat.le_succ _) (fun _ h => h)) (by kernel_rfl))) (fun x h => h)) (Nat.le_succ N) (fun _ h => h))) (Nat.le_succ _) (fun _ h => h)) (by kernel_rfl)))))))))
    (fun x h => .mk x (lim_b h.2.1) ⟨lim_of h.2.2.2.1.1 (by decide +kernel), h.2.2.2.1.2⟩ h.2.2.2.2.1 (by_one h.2.2.2.2.2.1.1 (by kernel_rfl)) h.2.2.2.2.2.1.2 (lim_of h.2.2.2.2.2.2.1.1 (by decide +kernel)) (lim_of h.2.2.2.2.2.2.2.1 (by decide +kernel))
      (fun c hc => (h.2.2.2.2.2.2.2.2 c hc).1) (fun c hc => by_one (h.2.2.2.2.2.2.2.2 c hc).2.1 (by kernel_rfl)) (fun c hc => (h.2.2.2.2.2.2.2.2 c hc).2.2))
end Go.Proofs.Ytkepmbkghmkodaa.NodeOps
