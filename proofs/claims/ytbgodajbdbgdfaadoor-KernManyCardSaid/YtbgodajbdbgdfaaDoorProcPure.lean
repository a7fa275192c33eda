/- kern: processes, in plain words. -/
import Derived.Test.YtbgodajbdbgdfaaDoorSigBits
namespace Go.Proofs.YtbgodajbdbgdfaaDoor.Kern
open Go.Proofs.YtbgodajbdbgdfaaDoor.Sig
set_option linter.unusedVariables false
set_option linter.unusedSimpArgs false
def md (s : Int) : Bool := s == 17 || s == 18 || s == 23 || s == 28
def fx (s : Int) : Bool := s == 9 || s == 19
theorem ofL_bit : ∀ (l : List Int) (x i : Nat), (ofL x l).testBit i = (x.testBit i || l.any fun s => isg s && decide (s.toNat = i))
  | [], x, i => by
    show x.testBit i = (x.testBit i || false)
    rw [Bool.or_false]
  | s :: l, x, i => by
    show (ofL (wth x s) l).testBit i = _
    rw [ofL_bit l, wth_bit, List.any_cons, Bool.or_assoc]
/-- What is ignored from the beginning on. -/
def flt (x : Nat) : Nat := ofL 0 ((lst (x &&& allN)).filter fun s => !fx s)
theorem flt_lt (x : Nat) : flt x < 4294967296 := ofL_lt _ _ (by decide)
theorem any_filter (l : List Int) (i : Nat) : ((l.filter fun s => !fx s).any fun s => isg s && decide (s.toNat = i)) = ((l.any fun s => isg s && decide (s.toNat = i)) && !fx (i : Int)) := by
  induction l with
  | nil => rfl
  | cons s l ih =>
    rw [List.any_cons, Bool.and_or_distrib_right, ← ih]
    cases hf : fx s with
    | true =>
      rw [List.filter_cons_of_neg (by rw [hf]; decide)]
      cases hg : isg s && decide (s.toNat = i) with
      | false => rw [Bool.false_and, Bool.false_or]
      | true =>
        rw [Bool.and_eq_true, decide_eq_true_eq] at hg
        have := isg_iff.1 hg.1
        have e : s = (i : Int) := by omega
        rw [← e, hf]; rfl
    | false =>
      rw [List.filter_cons_of_pos (by rw [hf]; decide), List.any_cons]
      cases hg : isg s && decide (s.toNat = i) with
      | false => rw [Bool.false_and]
      | true =>
        rw [Bool.and_eq_true, decide_eq_true_eq] at hg
        have := isg_iff.1 hg.1
        have e : s = (i : Int) := by omega
        rw [← e, hf]; rfl
theorem and_all_bit (x i : Nat) (h1 : 1 ≤ i) (h2 : i < 32) : (x &&& allN).testBit i = x.testBit i := by
  rw [Nat.testBit_and]
  have key : ∀ i : Fin 31, allN.testBit (i.val + 1) = true := by decide +kernel
  have := key ⟨i - 1, by omega⟩
  rw [show i - 1 + 1 = i by omega] at this
  rw [this, Bool.and_true]
theorem flt_hs (x : Nat) (s : Int) : hs (flt x) s = (hs x s && !fx s) := by
  unfold hs
  cases hi : isg s with
  | false => rfl
  | true =>
    have hg := isg_iff.1 hi
    obtain ⟨n, rfl⟩ : ∃ n : Nat, s = (n : Int) := ⟨s.toNat, by omega⟩
    rw [Bool.true_and, Bool.true_and, Int.toNat_natCast]
    have hlt : x &&& allN < 4294967296 := Nat.lt_of_le_of_lt Nat.and_le_right (by decide)
    have h0 : (x &&& allN).testBit 0 = false := by rw [Nat.testBit_and]; exact Bool.and_false _
    have h := congrArg (fun y => y.testBit n) (lst_of (x &&& allN) 0 hlt h0)
    simp only [Nat.zero_or] at h
    rw [ofL_bit, Nat.zero_testBit, Bool.false_or, and_all_bit x n (by omega) (by omega)] at h
    unfold flt
    rw [ofL_bit, Nat.zero_testBit, Bool.false_or, any_filter, h]
/-- A process. -/
structure Pr where
  par : Int
  live : Bool
  status : Int
  ign : Nat
  ca : Nat
  pen : Nat
/-- All processes. -/
abbrev Tb := Int → Option Pr
def liv (f : Tb) (p : Int) : Bool := match f p with
  | some r => r.live
  | none => false
def upd (f : Tb) (p : Int) (r : Option Pr) : Tb := fun q => if q = p then r else f q
theorem upd_same (f : Tb) (p : Int) (r : Option Pr) : upd f p r p = r := if_pos rfl
theorem upd_other {f : Tb} {p q : Int} {r : Option Pr} (h : q ≠ p) : upd f p r q = f q := if_neg h
/-- One round of what an end does to the others. -/
def aft (pid : Int) (q : Int) (c : Pr) : Option Pr := if c.par = pid then (if c.live = true then some { c with par := 0 } else none) else some c
def endd (f : Tb) (pid status : Int) : Tb := match f pid with
  | some r => fun q => if q = pid then (if liv f r.par = true then some { r with live := false, status := status } else none) else (f q).bind (aft pid q)
  | none => f
def how (f : Tb) (pid s : Int) : Int := match f pid with
  | some r => if r.live = true then (if hs r.ign s = true then 1 else if hs r.ca s = true then 2 else 0) else 0
  | none => 0
def sendB (f : Tb) (pid s : Int) : Bool := liv f pid && isg s
def sendT (f : Tb) (pid s : Int) : Tb := match f pid with
  | some r => if (r.live && isg s) = true then (if hs r.ign s = true then f else if hs r.ca s = true then upd f pid (some { r with pen := wth r.pen s }) else if md s = true then f else endd f pid (128 + s)) else f
  | none => f
def putB (f : Tb) (pid s h : Int) : Bool := liv f pid && (isg s && (!fx s && (decide (0 ≤ h) && decide (h ≤ 2))))
def putR (r : Pr) (s h : Int) : Pr := if h = 1 then { r with ign := wth (wto r.ign s) s, ca := wto r.ca s, pen := wto r.pen s } else if h = 2 then { r with ign := wto r.ign s, ca := wth (wto r.ca s) s } else { r with ign := wto r.ign s, ca := wto r.ca s, pen := wto r.pen s }
def putT (f : Tb) (pid s h : Int) : Tb := if putB f pid s h = true then upd f pid ((f pid).map fun r => putR r s h) else f
def pend (f : Tb) (pid : Int) : Nat := match f pid with
  | some r => if r.live = true then r.pen else 0
  | none => 0
end Go.Proofs.YtbgodajbdbgdfaaDoor.Kern
