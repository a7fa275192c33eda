/- pattern: the document's answer, in plain words. -/
import Derived.Test.YtkepmbkghmkodaaPatOracle
import Derived.Test.YtkepmbkghmkodaaP9
namespace Go.Proofs.Ytkepmbkghmkodaa.Pat
open Go.RowKit Go.Proofs.YtkepmbkghmkodaaW.PrintWords Go.Proofs.YtkepmbkghmkodaaW.PrintLast Go.Proofs.Ytkepmbkghmkodaa.Base Go.Proofs.Ytkepmbkghmkodaa.P
set_option linter.unusedVariables false
abbrev Rh := S165
def bk (x : Ch) : Rh := ⟨x.f0, x.f1⟩
theorem bk_len (M : List Ch) : ((M.map bk).length : Int) = (M.length : Int) := by rw [List.length_map]
theorem rd_bk (M : List Ch) (i : Nat) (h : i < M.length) : rd_T165 (M.map bk) (i : Int) = bk M[i] := by
  simp [rd_T165, List.getD_eq_getElem?_getD, List.getElem?_eq_getElem h]
theorem is_f (M : List Ch) (i : Nat) (c : Int) : deadfallref08_is.f (M.map bk) (i : Int) c = some (isC M i c) := by
  unfold deadfallref08_is.f
  rw [bk_len]
  by_cases h : i < M.length
  · rw [if_pos (by omega), if_pos (by omega), rd_bk M i h, isC_lt h]
    unfold isB bk
    by_cases h2 : M[i].f0 = c
    · rw [if_pos h2, h2]; simp
    · rw [if_neg h2, beq_eq_false_iff_ne.2 h2]; rfl
  · rw [if_neg (by omega), isC_ge h]
def fst (M : List Ch) (i : Nat) : Nat := if isC M (i + 1) 33 = true then 2 else 1
theorem fst_le (M : List Ch) (i : Nat) : 1 ≤ fst M i ∧ fst M i ≤ 2 := by unfold fst; split <;> omega
theorem first_f (M : List Ch) (i : Nat) (h : i ≤ 100000000) : deadfallref08_first.f (M.map bk) (i : Int) = some ((i + fst M i : Nat) : Int) := by
  unfold deadfallref08_first.f
  rw [wrap_ok (by omega) (by omega), show (i : Int) + 1 = ((i + 1 : Nat) : Int) by omega, is_f]
  simp only [Option.bind_some]
  unfold fst
  by_cases h2 : isC M (i + 1) 33 = true
  · rw [if_pos h2, if_pos h2, wrap_ok (by omega) (by omega)]; rfl
  · rw [if_neg h2, if_neg h2]
theorem member_f (M : List Ch) (i : Nat) (h : i ≤ 100000000) : deadfallref08_member.f (M.map bk) (i : Int) = some ((memb M i : Nat) : Int) := by
  unfold deadfallref08_member.f
  rw [bk_len, wrap_ok (x := (i : Int) + 2) (by omega) (by omega), wrap_ok (x := (i : Int) + 1) (by omega) (by omega), show (i : Int) + 1 = ((i + 1 : Nat) : Int) by omega, show (i : Int) + 2 = ((i + 2 : Nat) : Int) by omega, is_f, is_f]
  simp only [Option.bind_some]
  unfold memb
  by_cases h1 : i + 2 < M.length
  · rw [if_pos (by omega), decide_eq_true h1]
    cases isC M (i + 1) 45 <;> cases isC M (i + 2) 93 <;> rfl
  · rw [if_neg (by omega), decide_eq_false h1]; rfl
def endI : Option Nat → Int
  | some e => (e : Int)
  | none => -1
theorem end_l0 (M : List Ch) (from_ : Nat) (hM : M.length ≤ 10000000) : ∀ (d k : Nat), M.length - k ≤ d → k ≤ 20000000 → Ev (fun n => deadfallref08_End.l0 n (M.map bk) (from_ : Int) (k : Int)) (endI (endF M from_ k)) := by
  intro d
  induction d with
  | zero =>
    intro k hd hk
    rw [endF_none (by omega)]
    refine Ev.step (f := fun _ => some (-1)) (fun n => ?_) (Ev.now _)
    simp only [deadfallref08_End.l0]
    rw [bk_len, if_neg (by omega)]
  | succ d ih =>
    intro k hd hk
    by_cases hlt : k < M.length
    · have hp := memb_pos M k
      have hl := memb_lt hlt
      have hs : Ev (fun n => deadfallref08_End.l0 n (M.map bk) (from_ : Int) (wrap64 ((k : Int) + ((memb M k : Nat) : Int)))) (endI (endF M from_ (k + memb M k))) := by
        rw [wrap_ok (by omega) (by omega), show (k : Int) + ((memb M k : Nat) : Int) = ((k + memb M k : Nat) : Int) by omega]
        exact ih _ (by omega) (by omega)
      by_cases hf : from_ < k
      · cases h93 : isC M k 93 with
        | true =>
          rw [endF_at hlt (by rw [decide_eq_true hf, h93]; rfl)]
          refine Ev.step (f := fun _ => some (k : Int)) (fun n => ?_) (Ev.now _)
          simp only [deadfallref08_End.l0]
          rw [bk_len, if_pos (by omega), if_pos (by omega), is_f, h93]
          rfl
        | false =>
          rw [endF_step hlt (by rw [h93, Bool.and_false])]
          refine Ev.step (fun n => ?_) hs
          simp only [deadfallref08_End.l0]
          rw [bk_len, if_pos (by omega), if_pos (by omega), is_f, h93, member_f M k (by omega)]
          rfl
      · rw [endF_step hlt (by rw [decide_eq_false hf]; rfl)]
        refine Ev.step (fun n => ?_) hs
        simp only [deadfallref08_End.l0]
        rw [bk_len, if_pos (by omega), if_neg (by omega), member_f M k (by omega)]
        rfl
    · rw [endF_none hlt]
      refine Ev.step (f := fun _ => some (-1)) (fun n => ?_) (Ev.now _)
      simp only [deadfallref08_End.l0]
      rw [bk_len, if_neg (by omega)]
def endO (M : List Ch) (i : Nat) : Option Nat := if isC M i 91 = true then endF M (i + fst M i) (i + fst M i) else none
theorem end_f (M : List Ch) (hM : M.length ≤ 10000000) (i : Nat) (hi : i ≤ 10000000) : Ev (fun n => deadfallref08_End.f n (M.map bk) (i : Int)) (endI (endO M i)) := by
  unfold deadfallref08_End.f endO
  rw [is_f, first_f M i (by omega)]
  simp only [Option.bind_some]
  cases h : isC M i 91 with
  | true =>
    simp only [if_true]
    exact end_l0 M _ hM _ _ (Nat.le_refl _) (by have := (fst_le M i).2; omega)
  | false => simpa [endI] using Ev.now (-1 : Int)
theorem has_l0 (M : List Ch) (hM : M.length ≤ 10000000) (i e : Nat) (c : Int) (he : e ≤ M.length) (hi : i ≤ 10000000) : ∀ (d k : Nat) (found : Bool), e - k ≤ d → k ≤ 20000000 → Ev (fun n => deadfallref08_Has.l0 n (M.map bk) (i : Int) (e : Int) c (k : Int) found) ((found || hasF M k e c) != isC M (i + 1) 33) := by
  have hend : ∀ (k : Nat) (found : Bool), ¬ k < e → Ev (fun n => deadfallref08_Has.l0 n (M.map bk) (i : Int) (e : Int) c (k : Int) found) ((found || hasF M k e c) != isC M (i + 1) 33) := by
    intro k found hk
    rw [hasF_end hk, Bool.or_false]
    refine Ev.step (f := fun _ => some (found != isC M (i + 1) 33)) (fun n => ?_) (Ev.now _)
    simp only [deadfallref08_Has.l0]
    rw [if_neg (by omega), first_f M i (by omega), wrap_ok (by omega) (by omega)]
    simp only [Option.bind_some]
    congr 2
    unfold fst
    cases isC M (i + 1) 33 with
    | true => simp
    | false => first | (simp; done) | (simp; omega)
  intro d
  induction d with
  | zero => intro k found hd hk; exact hend k found (by omega)
  | succ d ih =>
    intro k found hd hk
    by_cases hke : k < e
    · have hlt : k < M.length := by omega
      have hp := memb_pos M k
      have hl := memb_lt hlt
      have hs : ∀ b : Bool, Ev (fun n => deadfallref08_Has.l0 n (M.map bk) (i : Int) (e : Int) c (wrap64 ((k : Int) + ((memb M k : Nat) : Int))) b) ((b || hasF M (k + memb M k) e c) != isC M (i + 1) 33) := by
        intro b
        rw [wrap_ok (by omega) (by omega), show (k : Int) + ((memb M k : Nat) : Int) = ((k + memb M k : Nat) : Int) by omega]
        exact ih _ b (by omega) (by omega)
      rw [hasF_step hke]
      have hw : wrap64 (wrap64 ((k : Int) + ((memb M k : Nat) : Int)) - 1) = ((k + memb M k - 1 : Nat) : Int) := by rw [wrap_ok (x := (k : Int) + ((memb M k : Nat) : Int)) (by omega) (by omega), wrap_ok (by omega) (by omega)]; omega
      have hr1 : (rd_T165 (M.map bk) (k : Int)).f0 = byteAt M k := by rw [rd_bk M k hlt, byteAt_lt hlt]; rfl
      have hr2 : (rd_T165 (M.map bk) ((k + memb M k - 1 : Nat) : Int)).f0 = byteAt M (k + memb M k - 1) := by rw [rd_bk M _ (by omega), byteAt_lt (by omega)]; rfl
      by_cases h1 : byteAt M k ≤ c
      · by_cases h2 : c ≤ byteAt M (k + memb M k - 1)
        · rw [decide_eq_true h1, decide_eq_true h2]
          refine Ev.step (fun n => ?_) (by simpa using hs true)
          simp only [deadfallref08_Has.l0]
          rw [bk_len, if_pos (by omega), member_f M k (by omega)]
          simp only [Option.bind_some]
          rw [if_pos (by omega), if_pos (by omega), hr1, if_pos h1, hw, if_pos (by omega), if_pos (by omega), hr2, if_pos h2]
        · rw [decide_eq_true h1, decide_eq_false h2]
          refine Ev.step (fun n => ?_) (by simpa using hs found)
          simp only [deadfallref08_Has.l0]
          rw [bk_len, if_pos (by omega), member_f M k (by omega)]
          simp only [Option.bind_some]
          rw [if_pos (by omega), if_pos (by omega), hr1, if_pos h1, hw, if_pos (by omega), if_pos (by omega), hr2, if_neg h2]
      · rw [decide_eq_false h1]
        refine Ev.step (fun n => ?_) (by simpa using hs found)
        simp only [deadfallref08_Has.l0]
        rw [bk_len, if_pos (by omega), member_f M k (by omega)]
        simp only [Option.bind_some]
        rw [if_pos (by omega), if_pos (by omega), hr1, if_neg h1]
    · exact hend k found hke
theorem has_f (M : List Ch) (hM : M.length ≤ 10000000) (i e : Nat) (c : Int) (he : e ≤ M.length) (hi : i ≤ 10000000) : Ev (fun n => deadfallref08_Has.f n (M.map bk) (i : Int) (e : Int) c) (hasF M (i + fst M i) e c != isC M (i + 1) 33) := by
  unfold deadfallref08_Has.f
  rw [first_f M i (by omega)]
  simp only [Option.bind_some]
  have := has_l0 M hM i e c he hi _ (i + fst M i) false (Nat.le_refl _) (by have := (fst_le M i).2; omega)
  simpa using this
/-- From one place to the next, upwards. -/
def chain1 (f : Nat → Bool) (l : List Bool) (i : Nat) : List Bool := if (l.getD i false && f i) = true then l.set (i + 1) true else l
def chainN (f : Nat → Bool) (l : List Bool) : Nat → List Bool
  | 0 => l
  | k + 1 => chain1 f (chainN f l k) k
theorem chainN_len (f : Nat → Bool) (l : List Bool) : ∀ k, (chainN f l k).length = l.length
  | 0 => rfl
  | k + 1 => by
    unfold chainN chain1
    split
    · rw [List.length_set, chainN_len f l k]
    · exact chainN_len f l k
def star (M : List Ch) (i : Nat) : Bool := isC M i 42
theorem rdOf_nat (l : List Bool) (i : Nat) : rdOf false l (i : Int) = l.getD i false := by simp [rdOf]
theorem reach_l0 (M : List Ch) (hM : M.length ≤ 10000000) (l : List Bool) (hl : l.length = M.length + 1) : ∀ (d i : Nat), i + d = M.length → Ev (fun n => deadfallref08_Reach.l0 n (M.map bk) (chainN (star M) l i) (M.length : Int) (i : Int)) (chainN (star M) l M.length) := by
  intro d
  induction d with
  | zero =>
    intro i hi
    obtain rfl : i = M.length := by omega
    refine Ev.step (f := fun _ => some (chainN (star M) l M.length)) (fun n => ?_) (Ev.now _)
    simp only [deadfallref08_Reach.l0]
    rw [if_neg (by omega)]
  | succ d ih =>
    intro i hi
    have h := ih (i + 1) (by omega)
    have hlen := chainN_len (star M) l i
    refine Ev.step (fun n => ?_) h
    simp only [deadfallref08_Reach.l0]
    rw [if_pos (by omega), if_pos (by omega), if_pos (by omega), rdOf_nat, is_f, wrap_ok (by omega) (by omega)]
    simp only [Option.bind_some]
    have hc : chainN (star M) l (i + 1) = if ((chainN (star M) l i).getD i false && isC M i 42) = true then (chainN (star M) l i).set (i + 1) true else chainN (star M) l i := rfl
    rw [hc]
    cases (chainN (star M) l i).getD i false with
    | false => rfl
    | true =>
      cases isC M i 42 with
      | false => rfl
      | true =>
        rw [if_pos rfl, if_pos rfl, if_pos (by omega), if_pos (by omega), show ((i : Int) + 1).toNat = i + 1 by omega]
        rfl
def reachL (M : List Ch) (l : List Bool) : List Bool := chainN (star M) l M.length
theorem reach_f (M : List Ch) (hM : M.length ≤ 10000000) (l : List Bool) (hl : l.length = M.length + 1) : Ev (fun n => deadfallref08_Reach.f n (M.map bk) l) (reachL M l) := by
  unfold deadfallref08_Reach.f
  simp only [Option.bind_some, List.length_nil, List.nil_append]
  refine Ev.congr (fun n => ?_) (reach_l0 M hM l hl M.length 0 (by omega))
  rw [if_pos (by omega), bk_len]
  rfl
/-- Places that are put. -/
def putC (l : List Bool) : Option Nat → List Bool
  | none => l
  | some t => l.set t true
def foldC (f : Nat → Option Nat) (len : Nat) : Nat → List Bool
  | 0 => List.replicate len false
  | k + 1 => putC (foldC f len k) (f k)
theorem foldC_len (f : Nat → Option Nat) (len : Nat) : ∀ k, (foldC f len k).length = len
  | 0 => List.length_replicate
  | k + 1 => by
    unfold foldC putC
    split
    · exact foldC_len f len k
    · rw [List.length_set, foldC_len f len k]
def contR (M : List Ch) (l : List Bool) (c : Int) (i : Nat) : Option Nat :=
  if l.getD i false = true then
    (if isC M i 42 = true then some i
    else match endO M i with
      | some e => if (hasF M (i + fst M i) e c != isC M (i + 1) 33) = true then some (e + 1) else none
      | none => if (isC M i 63 || byteAt M i == c) = true then some (i + 1) else none)
  else none
theorem endO_lt {M : List Ch} {i e : Nat} (h : endO M i = some e) : e < M.length := by
  unfold endO at h
  split at h
  · exact (endF_lt _ _ _ (Nat.le_refl _) h).2.1
  · cases h
theorem set_same (l : List Bool) (i : Nat) (h : l.getD i false = false) : l.set i false = l := by
  apply List.ext_getElem
  · simp
  · intro j h1 h2
    rw [List.getElem_set]
    split
    · rename_i e
      subst e
      have : l.getD i false = l[i] := by simp [List.getD_eq_getElem?_getD, List.getElem?_eq_getElem h2]
      rw [← this, h]
    · rfl
section
variable (M : List Ch) (hM : M.length ≤ 10000000) (l x : List Bool) (c : Int) (n i : Nat) (hl : l.length = M.length + 1) (hx : x.length = M.length + 1) (hlt : i < M.length)
include hM hl hlt
theorem st_off (hb : l.getD i false = false) : deadfallref08_Step.l0 (n + 1) (M.map bk) l c x (M.length : Int) (i : Int) = deadfallref08_Step.l0 n (M.map bk) l c x (M.length : Int) ((i + 1 : Nat) : Int) := by
  have hw : wrap64 ((i : Int) + 1) = ((i + 1 : Nat) : Int) := by rw [wrap_ok (by omega) (by omega)]; rfl
  rw [deadfallref08_Step.l0]
  rw [if_pos (by omega), if_pos (by omega), if_pos (by omega), rdOf_nat, hb, hw, if_neg (by decide)]
include hx
theorem st_star (hb : l.getD i false = true) (e : Int) (hn : deadfallref08_End.f n (M.map bk) (i : Int) = some e) (hs : isC M i 42 = true) : deadfallref08_Step.l0 (n + 1) (M.map bk) l c x (M.length : Int) (i : Int) = deadfallref08_Step.l0 n (M.map bk) l c (x.set i true) (M.length : Int) ((i + 1 : Nat) : Int) := by
  have hw : wrap64 ((i : Int) + 1) = ((i + 1 : Nat) : Int) := by rw [wrap_ok (by omega) (by omega)]; rfl
  rw [deadfallref08_Step.l0]
  rw [if_pos (by omega), if_pos (by omega), if_pos (by omega), rdOf_nat, hb, hn, is_f, hs, hw, if_pos rfl, Option.bind_some, Option.bind_some, if_pos rfl, if_pos (by omega), Int.toNat_natCast]
theorem st_set (hb : l.getD i false = true) (e : Nat) (he : e < M.length) (hn : deadfallref08_End.f n (M.map bk) (i : Int) = some (e : Int)) (hs : isC M i 42 = false) : deadfallref08_Step.l0 (n + 1) (M.map bk) l c x (M.length : Int) (i : Int) = (if x.getD (e + 1) false = true then deadfallref08_Step.l0 n (M.map bk) l c (x.set (e + 1) true) (M.length : Int) ((i + 1 : Nat) : Int) else (deadfallref08_Has.f n (M.map bk) (i : Int) (e : Int) c).bind fun t => deadfallref08_Step.l0 n (M.map bk) l c (x.set (e + 1) t) (M.length : Int) ((i + 1 : Nat) : Int)) := by
  have hw : wrap64 ((i : Int) + 1) = ((i + 1 : Nat) : Int) := by rw [wrap_ok (by omega) (by omega)]; rfl
  have hwe : wrap64 ((e : Int) + 1) = ((e + 1 : Nat) : Int) := by rw [wrap_ok (by omega) (by omega)]; rfl
  rw [deadfallref08_Step.l0]
  rw [if_pos (by omega), if_pos (by omega), if_pos (by omega), rdOf_nat, hb, hn, is_f, hs, hw, if_pos rfl, Option.bind_some, Option.bind_some, if_neg (by decide), if_pos (by omega), hwe, if_pos (by omega), if_pos (by omega), rdOf_nat, Int.toNat_natCast]
theorem st_one (hb : l.getD i false = true) (hn : deadfallref08_End.f n (M.map bk) (i : Int) = some (-1)) (hs : isC M i 42 = false) (hq : isC M i 63 = true) : deadfallref08_Step.l0 (n + 1) (M.map bk) l c x (M.length : Int) (i : Int) = deadfallref08_Step.l0 n (M.map bk) l c (x.set (i + 1) true) (M.length : Int) ((i + 1 : Nat) : Int) := by
  have hw : wrap64 ((i : Int) + 1) = ((i + 1 : Nat) : Int) := by rw [wrap_ok (by omega) (by omega)]; rfl
  rw [deadfallref08_Step.l0]
  rw [if_pos (by omega), if_pos (by omega), if_pos (by omega), rdOf_nat, hb, hn, is_f, hs, hw, is_f, hq, if_pos rfl, Option.bind_some, Option.bind_some, if_neg (by decide), if_neg (by omega), Option.bind_some, if_pos rfl, if_pos (by omega), if_pos (by omega), Int.toNat_natCast]
theorem st_byte (hb : l.getD i false = true) (hn : deadfallref08_End.f n (M.map bk) (i : Int) = some (-1)) (hs : isC M i 42 = false) (hq : isC M i 63 = false) (hc : byteAt M i = c) : deadfallref08_Step.l0 (n + 1) (M.map bk) l c x (M.length : Int) (i : Int) = deadfallref08_Step.l0 n (M.map bk) l c (x.set (i + 1) true) (M.length : Int) ((i + 1 : Nat) : Int) := by
  have hw : wrap64 ((i : Int) + 1) = ((i + 1 : Nat) : Int) := by rw [wrap_ok (by omega) (by omega)]; rfl
  have hr1 : (rd_T165 (M.map bk) (i : Int)).f0 = byteAt M i := by rw [rd_bk M i hlt, byteAt_lt hlt]; rfl
  rw [deadfallref08_Step.l0]
  rw [if_pos (by omega), if_pos (by omega), if_pos (by omega), rdOf_nat, hb, hn, is_f, hs, hw, is_f, hq, if_pos rfl, Option.bind_some, Option.bind_some, if_neg (by decide), if_neg (by omega), Option.bind_some, if_neg (by decide), bk_len, if_pos (by omega), hr1, if_pos hc, if_pos (by omega), if_pos (by omega), Int.toNat_natCast]
theorem st_no (hb : l.getD i false = true) (hn : deadfallref08_End.f n (M.map bk) (i : Int) = some (-1)) (hs : isC M i 42 = false) (hq : isC M i 63 = false) (hc : ¬ byteAt M i = c) : deadfallref08_Step.l0 (n + 1) (M.map bk) l c x (M.length : Int) (i : Int) = deadfallref08_Step.l0 n (M.map bk) l c x (M.length : Int) ((i + 1 : Nat) : Int) := by
  have hw : wrap64 ((i : Int) + 1) = ((i + 1 : Nat) : Int) := by rw [wrap_ok (by omega) (by omega)]; rfl
  have hr1 : (rd_T165 (M.map bk) (i : Int)).f0 = byteAt M i := by rw [rd_bk M i hlt, byteAt_lt hlt]; rfl
  rw [deadfallref08_Step.l0]
  rw [if_pos (by omega), if_pos (by omega), if_pos (by omega), rdOf_nat, hb, hn, is_f, hs, hw, is_f, hq, if_pos rfl, Option.bind_some, Option.bind_some, if_neg (by decide), if_neg (by omega), Option.bind_some, if_neg (by decide), bk_len, if_pos (by omega), hr1, if_neg hc]
end
theorem step_l0 (M : List Ch) (hM : M.length ≤ 10000000) (l : List Bool) (hl : l.length = M.length + 1) (c : Int) : ∀ (d i : Nat), i + d = M.length →
    Ev (fun n => deadfallref08_Step.l0 n (M.map bk) l c (foldC (contR M l c) (M.length + 1) i) (M.length : Int) (i : Int)) (reachL M (foldC (contR M l c) (M.length + 1) M.length)) := by
  intro d
  induction d with
  | zero =>
    intro i hi
    obtain rfl : i = M.length := by omega
    refine Ev.step (fun n => ?_) (Ev.bind (reach_f M hM _ (foldC_len _ _ _)) (Ev.now _))
    rw [deadfallref08_Step.l0]
    rw [if_neg (by omega)]
  | succ d ih =>
    intro i hi
    have h := ih (i + 1) (by omega)
    have hlen := foldC_len (contR M l c) (M.length + 1) i
    have hlt : i < M.length := by omega
    have hf : foldC (contR M l c) (M.length + 1) (i + 1) = putC (foldC (contR M l c) (M.length + 1) i) (contR M l c i) := rfl
    rw [hf] at h
    clear ih hf
    generalize reachL M (foldC (contR M l c) (M.length + 1) M.length) = R at h ⊢
    generalize foldC (contR M l c) (M.length + 1) i = x at *
    unfold contR at h
    cases hb : l.getD i false with
    | false =>
      rw [hb, if_neg (by decide)] at h
      exact Ev.step (fun n => st_off M hM l x c n i hl hlt hb) h
    | true =>
      rw [hb, if_pos rfl] at h
      have hE := end_f M hM i (by omega)
      have key : ∀ (g : Nat → Option (List Bool)), Ev g R → (∀ n, deadfallref08_End.f n (M.map bk) (i : Int) = some (endI (endO M i)) → deadfallref08_Step.l0 (n + 1) (M.map bk) l c x (M.length : Int) (i : Int) = g n) → Ev (fun n => deadfallref08_Step.l0 n (M.map bk) l c x (M.length : Int) (i : Int)) R := by
        intro g hg hh
        obtain ⟨K, hK⟩ := hE
        obtain ⟨K', hK'⟩ := hg
        refine ⟨max K K' + 1, fun n hn => ?_⟩
        obtain ⟨m, rfl⟩ : ∃ m, n = m + 1 := ⟨n - 1, by omega⟩
        have h1 : deadfallref08_End.f m (M.map bk) (i : Int) = some (endI (endO M i)) := hK m (by omega)
        exact (hh m h1).trans (hK' m (by omega))
      cases hs : isC M i 42 with
      | true =>
        rw [hs, if_pos rfl] at h
        exact key _ h (fun n hn => st_star M hM l x c n i hl hlen hlt hb _ hn hs)
      | false =>
        rw [hs, if_neg (by decide)] at h
        cases he : endO M i with
        | some e =>
          have hel := endO_lt he
          rw [he] at h
          dsimp only at h
          have hH := has_f M hM i e c (by omega) (by omega)
          obtain ⟨hv, hhv⟩ : ∃ hv, (hasF M (i + fst M i) e c != isC M (i + 1) 33) = hv := ⟨_, rfl⟩
          rw [hhv] at h hH
          have e2 : (if x.getD (e + 1) false = true then x.set (e + 1) true else x.set (e + 1) hv) = putC x (if hv = true then some (e + 1) else none) := by
            cases hv with
            | true => rw [if_pos rfl]; simp [putC]
            | false =>
              rw [if_neg (show ¬ (false = true) by decide)]
              cases hx : x.getD (e + 1) false with
              | true =>
                rw [if_pos rfl]
                show x.set (e + 1) true = x
                apply List.ext_getElem
                · simp
                · intro j h1 h2
                  rw [List.getElem_set]
                  split
                  · rename_i e3
                    subst e3
                    have : x.getD (e + 1) false = x[e + 1] := by simp [List.getD_eq_getElem?_getD, List.getElem?_eq_getElem h2]
                    rw [← this, hx]
                  · rfl
              | false =>
                rw [if_neg (show ¬ (false = true) by decide)]
                exact set_same x (e + 1) hx
          rw [← e2] at h
          refine key (fun n => if x.getD (e + 1) false = true then deadfallref08_Step.l0 n (M.map bk) l c (x.set (e + 1) true) (M.length : Int) ((i + 1 : Nat) : Int) else (deadfallref08_Has.f n (M.map bk) (i : Int) (e : Int) c).bind fun t => deadfallref08_Step.l0 n (M.map bk) l c (x.set (e + 1) t) (M.length : Int) ((i + 1 : Nat) : Int)) ?_ (fun n hn => st_set M hM l x c n i hl hlen hlt hb e hel (by rw [hn, he]; rfl) hs)
          cases hx : x.getD (e + 1) false with
          | true =>
            rw [hx, if_pos rfl] at h
            exact Ev.congr (fun n => if_pos rfl) h
          | false =>
            rw [hx, if_neg (show ¬ (false = true) by decide)] at h
            exact Ev.congr (fun n => if_neg (show ¬ (false = true) by decide)) (Ev.bind hH h)
        | none =>
          rw [he] at h
          dsimp only at h
          cases hq : isC M i 63 with
          | true =>
            rw [hq, Bool.true_or, if_pos rfl] at h
            exact key _ h (fun n hn => st_one M hM l x c n i hl hlen hlt hb (by rw [hn, he]; rfl) hs hq)
          | false =>
            rw [hq, Bool.false_or] at h
            by_cases hc : byteAt M i = c
            · rw [beq_iff_eq.2 hc, if_pos rfl] at h
              exact key _ h (fun n hn => st_byte M hM l x c n i hl hlen hlt hb (by rw [hn, he]; rfl) hs hq hc)
            · rw [beq_eq_false_iff_ne.2 hc, if_neg (by decide)] at h
              exact key _ h (fun n hn => st_no M hM l x c n i hl hlen hlt hb (by rw [hn, he]; rfl) hs hq hc)
theorem step_f (M : List Ch) (hM : M.length ≤ 10000000) (l : List Bool) (hl : l.length = M.length + 1) (c : Int) : Ev (fun n => deadfallref08_Step.f n (M.map bk) l c) (reachL M (foldC (contR M l c) (M.length + 1) M.length)) := by
  refine Ev.congr (fun n => ?_) (step_l0 M hM l hl c M.length 0 (by omega))
  unfold deadfallref08_Step.f
  rw [bk_len, wrap_ok (by omega) (by omega), if_pos (by omega), if_pos (by omega), show ((M.length : Int) + 1).toNat = M.length + 1 by omega]
  rfl
end Go.Proofs.Ytkepmbkghmkodaa.Pat
