/- FrameRuns: for every row of acts that can be read the law returns true. No condition. -/
import Derived.Test.YtkepmbkghmkodaaRows
import Derived.Test.YtkepmbkghmkodaaRunSame
import Derived.Test.YtkepmbkghmkodaaNodeOps
import Derived.Test.YtkepmbkghmkodaaFrameGood
import Derived.ProofKit
import Derived.OpenShut
import Derived.ShutString
import Derived.ChangeOld
import Derived.SizedLaws
namespace Go.Proofs.Ytkepmbkghmkodaa.Frame
open Go.RowKit Go.Proofs.YtkepmbkghmkodaaW.PrintWords Go.Proofs.YtkepmbkghmkodaaW.PrintLast Go.Proofs.Ytkepmbkghmkodaa.Base Go.Proofs.Ytkepmbkghmkodaa.Q Go.Proofs.Ytkepmbkghmkodaa.Open Go.Proofs.Ytkepmbkghmkodaa.NodeOps
set_option linter.unusedVariables false
set_option linter.unusedSimpArgs false
theorem brkR_sub (r : List It) (n : Int) : ∀ x ∈ brkR r n, x ∈ r := by
  cases hb : brkB r n with
  | false => rw [(brk_off hb).1]; exact fun x h => h
  | true =>
    obtain ⟨x, r', pre, _, hs, _, e1, _⟩ := brk_cut hb
    rw [e1, hs]
    intro y hy
    exact List.mem_append_right _ (List.mem_cons_of_mem _ hy)
theorem conR_ok {w : World} {r : List It} (n : Int) (h : ∀ x ∈ r, Ok w x) : ∀ x ∈ conR r n, Ok w x := by
  cases hb : brkB r n with
  | false => rw [(brk_off hb).2]; exact h
  | true =>
    obtain ⟨x, r', pre, _, hs, _, _, e1⟩ := brk_cut hb
    rw [e1]
    rw [hs] at h
    intro y hy
    rcases List.mem_cons.1 hy with rfl | hy
    · exact ok_again (h x (List.mem_append_right _ List.mem_cons_self))
    · exact h y (List.mem_append_right _ (List.mem_cons_of_mem _ hy))
theorem ret_sub {r r' : List It} {x : It} (h : cut isBack r 0 = some (x, r')) : x ∈ r ∧ (∀ y ∈ r', y ∈ r) ∧ r'.length ≤ r.length := by
  obtain ⟨pre, hs⟩ := cut_split isBack h
  subst hs
  exact ⟨List.mem_append_right _ List.mem_cons_self, fun y hy => List.mem_append_right _ (List.mem_cons_of_mem _ hy), by simp; omega⟩
/-- A row of the document's items. -/
abbrev Rw (w : World) (A : Option Addr) (n c : Nat) (xs : List It) : Prop := kIt.R 74 w 0 ok0 (.slice A n c) xs
theorem Rw.parts {w : World} {A : Option Addr} {n c : Nat} {xs : List It} (h : Rw w A n c xs) : xs.length = n ∧ n ≤ c ∧ kIt.C w A n xs := by
  obtain ⟨e1, e2, e3⟩ := Kd.R_reads' h
  rw [← e1] at e3
  exact ⟨e1.symm, e2, e3⟩
theorem ok_rev {w W : World} {r : List It} (h : ∀ x ∈ r, Ok w x) (hb : Below w.heap.size w W) : ∀ x ∈ r.reverse, Ok W x := fun x hx => (h x (List.mem_reverse.1 hx)).below hb
theorem rbrk_st {w W : World} {r : List It} {A : Option Addr} {n c : Nat} (m : Int) (hR : Rw W A n c r.reverse) (hok : ∀ x ∈ r, Ok w x) (hb : Below w.heap.size w W) (hl : r.length ≤ 1000000) (h0 : -9223372036854775808 ≤ m) (h1 : m ≤ 9223372036854775807) :
    Calls Try.prog 38 #[.slice A n c, .int .i64 m] W fun e w' => RowOut W w' e (brkB r m) (brkR r m).reverse := by
  have := rbrk r.reverse A n c m W hR (ok_rev hok hb) (by rw [List.length_reverse]; exact hl) h0 h1
  rwa [List.reverse_reverse] at this
theorem rcon_st {w W : World} {r : List It} {A : Option Addr} {n c : Nat} (m : Int) (hR : Rw W A n c r.reverse) (hok : ∀ x ∈ r, Ok w x) (hb : Below w.heap.size w W) (hl : r.length ≤ 1000000) (h0 : -9223372036854775808 ≤ m) (h1 : m ≤ 9223372036854775807) :
    Calls Try.prog 39 #[.slice A n c, .int .i64 m] W fun e w' => RowOut W w' e (brkB r m) (conR r m).reverse := by
  have := rcon r.reverse A n c m W hR (ok_rev hok hb) (by rw [List.length_reverse]; exact hl) h0 h1
  rwa [List.reverse_reverse] at this
theorem rret_st {W : World} {r : List It} {A : Option Addr} {n c : Nat} (z : It) (hR : Rw W A n c r.reverse) (hl : r.length ≤ 1000000) (hz : z = retX r) :
    Calls Try.prog 40 #[.slice A n c] W fun e w' => RetOut W w' e (retB r) (retR r).reverse z := by
  have := rret r.reverse A n c z W hR (by rw [List.length_reverse]; exact hl) (by rw [List.reverse_reverse]; exact hz)
  rwa [List.reverse_reverse] at this
theorem rret_no {W : World} {r : List It} {A : Option Addr} {n c : Nat} (hR : Rw W A n c r.reverse) (hl : r.length ≤ 1000000) (hc : cut isBack r 0 = none) :
    Calls Try.prog 40 #[.slice A n c] W fun e w' => ∃ A1 n1 c1, e = .returned (.tuple #[.slice A1 n1 c1, .agg #[Value.int .i64 0, .int .i64 0, .string ⟨#[]⟩, .bool false, .slice none 0 0, .slice none 0 0, .slice none 0 0, .slice none 0 0, .slice none 0 0, .int .i64 0, .int .i64 0, .bool false, .slice none 0 0, .slice none 0 0], .bool false]) ∧ Rw w' A1 n1 c1 r.reverse ∧ Below W.heap.size W w' := by
  obtain ⟨e1, e2, e3⟩ := ret_none hc
  have := rret_st default hR hl e2.symm
  rw [e1, e3] at this
  refine this.mono ?_
  rintro e w' ⟨A1, n1, c1, rfl, h1, h2⟩
  exact ⟨A1, n1, c1, rfl, h1, h2⟩
theorem rret_yes {W : World} {r r' : List It} {x : It} {A : Option Addr} {n c : Nat} (hR : Rw W A n c r.reverse) (hl : r.length ≤ 1000000) (hc : cut isBack r 0 = some (x, r')) :
    Calls Try.prog 40 #[.slice A n c] W fun e w' => RetOut W w' e true r'.reverse x := by
  obtain ⟨e1, e2, e3⟩ := ret_some hc
  have := rret_st x hR hl e2.symm
  rwa [e1, e3] at this
theorem same_st {w W : World} {r : List It} {A : Option Addr} {n c base g : Nat} (h : StR W base g r) (hR : Rw W A n c r.reverse) (hok : ∀ x ∈ r, Ok w x) (hb : Below w.heap.size w W) (hl : r.length ≤ 1000000) :
    Calls Try.prog 42 #[.pointer (some ⟨g, 0, none⟩), .slice A n c] W fun e w' => e = .returned (.int .i64 1) ∧ Below W.heap.size W w' := by
  obtain ⟨_, hc, hC⟩ := hR.parts
  exact same_any base g r A n c W h hC hc (fun x hx => (hok x hx).below hb) hl
/-- What the law's loop keeps: the stack, and the row of the same items. -/
structure RunSt (w W : World) (g k : Nat) (r : List It) (A : Option Addr) (n c : Nat) : Prop where
  st : StR W w.heap.size g r
  row : Rw W A n c r.reverse
  ok : ∀ x ∈ r, Ok w x
  len : r.length ≤ 40 * k
  bel : Below w.heap.size w W
abbrev ActV := Int × Int × List S74
def kAct : Kd ActV := Kd.iso (Kd.pair (Kd.int .i64) (Kd.pair (Kd.int .i64) (Kd.slice 74 k74))) (fun x => x)
theorem kAct_open {w : World} {x : ActV} {cs : List Value} (h : kAct.K w x cs) : ∃ A c, cs = [.int .i64 x.1, .int .i64 x.2.1, .slice A x.2.2.length c] ∧ x.2.2.length ≤ c ∧ Kd.C k74 w A x.2.2.length x.2.2 := by
  obtain ⟨_, _, rfl, rfl, ⟨_, _, rfl, rfl, ⟨A, c, rfl, l, g⟩⟩⟩ := h
  exact ⟨A, c, rfl, l, g⟩
/-- An act that a memory can hold. -/
structure FitAct (x : ActV) : Prop where
  lo : -9223372036854775808 ≤ x.2.1
  hi : x.2.1 ≤ 9223372036854775807
  len : x.2.2.length ≤ 9000000000000000000
  items : ∀ v ∈ x.2.2, FitItem v
theorem i64_rng {c : Int} (h : (Lit.int .i64 c).wf = true) : -9223372036854775808 ≤ c ∧ c ≤ 9223372036854775807 := by
  simp only [Lit.wf, Bool.and_eq_true, decide_eq_true_eq] at h
  have h1 : IntKind.i64.min = -9223372036854775808 := rfl
  have h2 : IntKind.i64.max = 9223372036854775807 := rfl
  rw [h1, h2] at h
  exact h
theorem big_of {n b : Nat} (h : n * b ≤ reachBytes) (hb : 1 ≤ b) : n ≤ 9000000000000000000 := by
  have := lim_of h hb
  unfold Lim at this
  omega
set_option maxRecDepth 100000 in
theorem op_item (w : World) : Open.Op Try.prog w k74 74 FitItem :=
  op_struct (V := fun x => True ∧ FitNode x.2.1 ∧ True ∧ True ∧ True ∧ (x.2.2.2.2.2.1.length * Try.prog.bytesOf 9 ≤ reachBytes ∧ ∀ y ∈ x.2.2.2.2.2.1, True) ∧ (x.2.2.2.2.2.2.length * Try.prog.bytesOf 3 ≤ reachBytes ∧ ∀ y ∈ x.2.2.2.2.2.2, True))
    (fun x : S74 => (x.f0, x.f1, x.f2, x.f3, x.f4, x.f5, x.f6)) (fun x => ⟨x.1, x.2.1, x.2.2.1, x.2.2.2.1, x.2.2.2.2.1, x.2.2.2.2.2.1, x.2.2.2.2.2.2⟩) (fun _ => rfl) Try.underlying74 (by kernel_rfl)
    (opf_cons (o' := 1) (V := fun _ : Int => True) rfl (op_mono (op_int Try.underlying3) (fun _ _ => trivial)) (by kernel_rfl) rfl
    (opf_cons (o' := 9) (V := FitNode) rfl (op_node w) (by kernel_rfl) rfl
    (opf_cons (o' := 10) (V := fun _ : Int => True) rfl (op_mono (op_int Try.underlying3) (fun _ _ => trivial)) (by kernel_rfl) rfl
    (opf_cons (o' := 11) (V := fun _ : Int => True) rfl (op_mono (op_int Try.underlying3) (fun _ _ => trivial)) (by kernel_rfl) rfl
    (opf_cons (o' := 12) (V := fun _ : Bool => True) rfl (op_bool Try.underlying4) (by kernel_rfl) rfl
    (opf_cons (o' := 13) rfl (op_slice Try.underlying28 (by kernel_rfl) (op_mono (op_string Try.underlying9) (fun _ _ => trivial))) (by kernel_rfl) rfl
    (opf_one rfl (op_slice Try.underlying58 (by kernel_rfl) (op_mono (op_int Try.underlying3) (fun _ _ => trivial))) (by kernel_rfl))))))))
    (fun x h => ⟨h.2.1, big_of h.2.2.2.2.2.1.1 (by decide +kernel), big_of h.2.2.2.2.2.2.1 (by decide +kernel)⟩)
set_option maxRecDepth 100000 in
theorem op_act (w : World) : Open.Op Try.prog w kAct 72 FitAct :=
  op_struct (V := fun x => True ∧ (-9223372036854775808 ≤ x.2.1 ∧ x.2.1 ≤ 9223372036854775807) ∧ (x.2.2.length * Try.prog.bytesOf 74 ≤ reachBytes ∧ ∀ y ∈ x.2.2, FitItem y))
    (fun x : ActV => x) (fun x => x) (fun _ => rfl) Try.underlying72 (by kernel_rfl)
    (opf_cons (o' := 1) (V := fun _ : Int => True) rfl (op_mono (op_int Try.underlying3) (fun _ _ => trivial)) (by kernel_rfl) rfl
    (opf_cons (o' := 2) (V := fun c : Int => -9223372036854775808 ≤ c ∧ c ≤ 9223372036854775807) rfl (op_mono (op_int Try.underlying3) (fun _ h => i64_rng h)) (by kernel_rfl) rfl
    (opf_one rfl (op_slice Try.underlying70 (by kernel_rfl) (op_item w)) (by kernel_rfl))))
    (fun x h => ⟨h.2.1.1, h.2.1.2, big_of h.2.2.1 (by decide +kernel), h.2.2.2⟩)
/-- What the law learns of an act. -/
structure ActAt (w : World) (x : ActV) (A : Option Addr) (n c : Nat) (ys : List It) (b : Bool) : Prop where
  row : kIt.C w A n ys
  cap : n ≤ c
  ok : ∀ y ∈ ys, Ok w y
  few : b = false → n ≤ 40
  lo : -9223372036854775808 ≤ x.2.1
  hi : x.2.1 ≤ 9223372036854775807
  great : ∀ W, Below w.heap.size w W → Calls Try.prog 36 #[.slice A n c] W fun e w' => e = .returned (.bool b) ∧ Below W.heap.size W w'
theorem act_at {w : World} {A0 : Option Addr} {m : Nat} {l : List ActV} (h : Kd.C kAct w A0 m l) (hf : ∀ x ∈ l, FitAct x) (k : Nat) (hk : k < l.length) :
    ∃ ad x A n c ys b, A0 = some ad ∧ w.cell? (ad.add (k * 3)) = some (.int .i64 x.1) ∧ w.cell? ⟨(ad.add (k * 3)).block, (ad.add (k * 3)).off + 1, none⟩ = some (.int .i64 x.2.1) ∧ w.cell? ⟨(ad.add (k * 3)).block, (ad.add (k * 3)).off + 2, none⟩ = some (.slice A n c) ∧ ActAt w x A n c ys b := by
  have hm : l.length = m := h.1
  obtain ⟨ad, cs, e, hcl, hK, hc⟩ := Kd.C_get h (0, 0, []) (k : Int) (by omega) (by omega)
  rw [Int.toNat_natCast] at hK hc
  rw [show l.getD k (0, 0, []) = l[k] by simp [List.getD_eq_getElem?_getD, List.getElem?_eq_getElem hk]] at hK
  have hfit := hf l[k] (List.getElem_mem hk)
  generalize l[k] = x at *
  obtain ⟨A, c, rfl, hlc, hC⟩ := kAct_open hK
  obtain ⟨b, hev, hfew⟩ := great_ev x.2.2 hfit.items hfit.len
  obtain ⟨kk, hkk⟩ := hev
  obtain ⟨ys, hY, hOk⟩ := words_of_row hC hfit.items
  have q0 := hc 0 _ rfl
  have q1 := hc 1 _ rfl
  have q2 := hc 2 _ rfl
  refine ⟨ad, x, A, x.2.2.length, c, ys, b, e, q0, ?_, ?_, ⟨hY, hlc, hOk, hfew, hfit.lo, hfit.hi, fun W hW => deadfalllaw15_great.calls kk A c x.2.2 b W (Kd.C_below hC hW) hlc (hkk kk (Nat.le_refl _))⟩⟩
  · rw [← add_field _ _ 1 (by omega)]; exact q1
  · rw [← add_field _ _ 2 (by omega)]; exact q2
end Go.Proofs.Ytkepmbkghmkodaa.Frame
namespace Go.Proofs.Ytkepmbkghmkodaa
open Go.RowKit Go.Proofs.YtkepmbkghmkodaaW.PrintWords Go.Proofs.YtkepmbkghmkodaaW.PrintLast Go.Proofs.Ytkepmbkghmkodaa.Base Go.Proofs.Ytkepmbkghmkodaa.Seq Go.Proofs.Ytkepmbkghmkodaa.Frame Go.Proofs.Ytkepmbkghmkodaa.Q
set_option linter.unusedVariables false
set_option linter.unusedSimpArgs false
theorem run_below {w W W' : World} {g k : Nat} {r : List It} {A : Option Addr} {n c : Nat} (h : RunSt w W g k r A n c) (hb : Below W.heap.size W W') : RunSt w W' g k r A n c :=
  ⟨StR_below h.st hb, Kd.R_below h.row hb, h.ok, h.len, below_trans h.bel (below_sub hb h.bel.size)⟩
theorem run_more {w W : World} {g k : Nat} {r : List It} {A : Option Addr} {n c : Nat} (h : RunSt w W g k r A n c) : RunSt w W g (k + 1) r A n c :=
  ⟨h.st, h.row, h.ok, by have := h.len; omega, h.bel⟩
theorem run_two {w W W1 W2 : World} {g k : Nat} {r r1 : List It} {A A2 : Option Addr} {n c n2 c2 : Nat} (h : RunSt w W g k r A n c) (hS : StR W1 w.heap.size g r1) (hB1 : Below w.heap.size W W1) (hB2 : Below W1.heap.size W1 W2) (hR : Rw W2 A2 n2 c2 r1.reverse) (hok : ∀ x ∈ r1, Ok w x) (hl : r1.length ≤ 40 * (k + 1)) : RunSt w W2 g (k + 1) r1 A2 n2 c2 :=
  ⟨StR_below hS hB2, hR, hok, hl, below_trans (below_trans h.bel hB1) (below_sub hB2 (below_trans h.bel hB1).size)⟩
/-- The stack while an act's items are pushed. -/
structure PushSt (w w5 W : World) (g : Nat) (r ys : List It) (j : Nat) : Prop where
  st : StR W w.heap.size g ((ys.take j).reverse ++ r)
  bel : Below w.heap.size w W
  keeps : Keeps w5 W
theorem push_next {w w5 wr wb wc w6 : World} {g j : Nat} {r ys : List It} {y : It} (h : PushSt w w5 wr g r ys j) (ht : (ys.take (j + 1)).reverse = y :: (ys.take j).reverse) (hb : Below wr.heap.size wr wb) (hb2 : Below wb.heap.size wb wc) (hS : StR w6 w.heap.size g ([y].reverse ++ ((ys.take j).reverse ++ r))) (hB : Below w.heap.size wc w6) (hK : Keeps wc w6) : PushSt w w5 w6 g r ys (j + 1) :=
  ⟨by rw [ht]; exact hS, below_trans (below_trans (below_trans h.bel (below_sub hb h.bel.size)) (below_sub hb2 (Nat.le_trans h.bel.size hb.size))) hB, keeps_trans (keeps_trans (keeps_trans h.keeps (keeps_below hb)) (keeps_below hb2)) hK⟩
/-- The stack at the end, popped down to so many items. -/
structure EndSt (w W : World) (g : Nat) (xs : List It) (A : Option Addr) (n c j : Nat) : Prop where
  st : StR W w.heap.size g (xs.take j).reverse
  row : Rw W A n c xs
  bel : Below w.heap.size w W
theorem end_below {w W W' : World} {g j : Nat} {xs : List It} {A : Option Addr} {n c : Nat} (h : EndSt w W g xs A n c j) (hb : Below W.heap.size W W') : EndSt w W' g xs A n c j :=
  ⟨StR_below h.st hb, Kd.R_below h.row hb, below_trans h.bel (below_sub hb h.bel.size)⟩
set_option maxHeartbeats 16000000 in
set_option maxRecDepth 100000 in
theorem runs_law (A0 : Option Addr) (m0 c0 : Nat) (l : List ActV) (w : World) (hr : Kd.C kAct w A0 m0 l) (hf : ∀ x ∈ l, FitAct x) :
    Calls Try.prog 8 #[.slice A0 m0 c0] w fun e w' => e = .returned (.bool true) ∧ Below w.heap.size w w' := by
  obtain rfl := hr.1
  have HR := Aside0.mk hr
  have HF := Aside0.mk hf
  have HB := Aside0.mk (Below.refl w.heap.size w)
  clear hr hf
  go_enter Try.func8, Try.ntmps8
  go_upto_region 3 with (go_at_call 23; (with_reducible refine (alive_any _).mono ?_); rintro e w2 ⟨rfl, hB⟩; have n1 := Aside0.mk hB; clear HB hB; have HB := n1; clear n1)
  by_cases hlen : l.length > 40
  · have d0 : decide ((40 : Int) < (l.length : Int)) = true := decide_eq_true (by omega)
    go_wp2
    go_ret
    exact ⟨rfl, HB.out⟩
  have d0 : decide ((40 : Int) < (l.length : Int)) = false := decide_eq_false (by omega)
  have HLN := Aside0.mk (show l.length ≤ 40 by omega)
  clear hlen
  have HS := Aside0.mk (show StR (w2.alloc (.cells #[.slice none 0 0] 56)) w.heap.size w2.heap.size [] from ⟨_, blk_new w2 _, HB.out.size, Kd.R_nil _ _ _ _ _⟩)
  have HT := Aside0.mk (below_alloc HB.out (.cells #[.slice none 0 0] 56))
  go_upto_region 6 with (fail)
  clear d0
  generalize w2.alloc (.cells #[.slice none 0 0] 56) = w3 at *
  generalize w2.heap.size = g at *
  have HI := Aside0.mk (show RunSt w (w3.alloc (.cells #[] 74)) g 0 [] (some ⟨w3.heap.size, 0, none⟩) 0 0 from ⟨StR_below HS.out (below_alloc (Below.refl _ _) _), Kd.R_lower (R_empty (blk_new w3 _) (Nat.le_refl _)) (Nat.zero_le _), (fun y hy => by cases hy), Nat.zero_le _, below_alloc HT.out _⟩)
  clear HS HT HB
  go_upto_region 7 with (fail)
  generalize w3.alloc (.cells #[] 74) = w4 at *
  go_wp2
  go_loopw [35, 4] (fun v35 v4 wr => ∃ (k : Nat) (r : List It) (B : Option Addr) (m q : Nat), k ≤ l.length ∧ v35 = .int .i64 (k : Int) ∧ v4 = .slice B m q ∧ Aside0 (RunSt w wr g k r B m q)) (fun v35 _ _ => l.length - (intOf v35).toNat)
  case atStart => exact ⟨0, _, _, _, _, Nat.zero_le _, rfl, rfl, HI⟩
  case round =>
    clear HI
    obtain ⟨wo, rfl⟩ : ∃ wo, wo = wr := ⟨_, rfl⟩
    obtain ⟨k, r, B, m, q, hk, rfl, rfl, HRS⟩ := hrel
    have hl40 := HLN.out
    by_cases hkn : k < l.length
    · obtain ⟨ad, x, A, n, c, ys, b, rfl, q0, q1, q2, hA⟩ := act_at HR.out HF.out k hkn
      have a0 := pw_cell_below HRS.out.bel q0
      have a1 := pw_cell_below HRS.out.bel q1
      have a2 := pw_cell_below HRS.out.bel q2
      have HA := Aside0.mk hA
      have HX := Aside0.mk (blk_new wo (.cells #[.int .i64 x.1, .int .i64 x.2.1, .slice A n c] 72))
      have HR1 := Aside0.mk (run_below HRS.out (below_alloc (Below.refl wo.heap.size wo) (.cells #[.int .i64 x.1, .int .i64 x.2.1, .slice A n c] 72)))
      clear q0 q1 q2 hA HRS
      go_upto_region 10 with (fail)
      clear a0 a1 a2
      generalize wo.alloc (.cells #[.int .i64 x.1, .int .i64 x.2.1, .slice A n c] 72) = w4b at *
      generalize wo.heap.size = g6 at *
      have a2 : w4b.cell? ⟨g6, 2, none⟩ = some (.slice A n c) := (blk_cell HX.out 2).trans rfl
      cases b with
      | true =>
        go_wp2_with (go_at_call 36; (with_reducible refine (HA.out.great _ HR1.out.bel).mono ?_); rintro e w5 ⟨rfl, hB⟩; have HB5 := Aside0.mk (run_below HR1.out hB).bel; clear hB a2)
        go_ret
        exact ⟨rfl, HB5.out⟩
      | false =>
        have hn40 := HA.out.few rfl
        go_upto_region 12 with (go_at_call 36; (with_reducible refine (HA.out.great _ HR1.out.bel).mono ?_); rintro e w5 ⟨rfl, hB⟩; have HR5 := Aside0.mk (run_below HR1.out hB); have HX5 := Aside0.mk (blk_below HX.out hB); clear hB a2 HX HR1)
        have a0 : w5.cell? ⟨g6, 0, none⟩ = some (.int .i64 x.1) := (blk_cell HX5.out 0).trans rfl
        have a1 : w5.cell? ⟨g6, 1, none⟩ = some (.int .i64 x.2.1) := (blk_cell HX5.out 1).trans rfl
        have a2 : w5.cell? ⟨g6, 2, none⟩ = some (.slice A n c) := (blk_cell HX5.out 2).trans rfl
        by_cases c0 : x.1 = 0
        · rw [c0] at a0
          clear c0
          have hrl := HR5.out.len
          have HIN := Aside0.mk (show PushSt w w5 w5 g r ys 0 from ⟨HR5.out.st, HR5.out.bel, keeps_refl _⟩)
          go_wp2
          go_loopw [49] (fun v49 wr => ∃ j, j ≤ n ∧ v49 = .int .i64 (j : Int) ∧ Aside0 (PushSt w w5 wr g r ys j)) (fun v49 _ => n - (intOf v49).toNat)
          case atStart => exact ⟨0, Nat.zero_le _, rfl, HIN⟩
          case round =>
            clear HIN
            obtain ⟨j, hj, rfl, HP⟩ := hrel
            have hyn : ys.length = n := HA.out.row.1
            by_cases hjn : j < n
            · have hjl : j < ys.length := by omega
              obtain ⟨bd, rfl, hx⟩ := at_it HA.out.row j hjl
              obtain ⟨k0, k1, k2, k3, k4, k5, k6, k7, k8, k9, k10, k11, k12, k13⟩ := Cells_below hx HP.out.bel
              have htk := take_rev hjl
              generalize ys[j] = y at *
              have HTK := Aside0.mk htk
              have G8 := Aside0.mk (blk_new wr (.cells #[Value.int .i64 y.kind, .int .i64 y.nk, .string y.nname, .bool y.ngiven, .slice y.s1.a y.s1.n y.s1.c, .slice y.s2.a y.s2.n y.s2.c, .slice y.s3.a y.s3.n y.s3.c, .slice y.s4.a y.s4.n y.s4.c, .slice y.s5.a y.s5.n y.s5.c, .int .i64 y.at_, .int .i64 y.status, .bool y.free, .slice y.s6.a y.s6.n y.s6.c, .slice y.s7.a y.s7.n y.s7.c] 74))
              have nb := Aside0.mk (below_alloc (Below.refl wr.heap.size wr) (.cells #[Value.int .i64 y.kind, .int .i64 y.nk, .string y.nname, .bool y.ngiven, .slice y.s1.a y.s1.n y.s1.c, .slice y.s2.a y.s2.n y.s2.c, .slice y.s3.a y.s3.n y.s3.c, .slice y.s4.a y.s4.n y.s4.c, .slice y.s5.a y.s5.n y.s5.c, .int .i64 y.at_, .int .i64 y.status, .bool y.free, .slice y.s6.a y.s6.n y.s6.c, .slice y.s7.a y.s7.n y.s7.c] 74))
              clear hx htk
              go_upto_region 17 with (fail)
              clear k0 k1 k2 k3 k4 k5 k6 k7 k8 k9 k10 k11 k12 k13
              generalize wr.alloc (.cells #[Value.int .i64 y.kind, .int .i64 y.nk, .string y.nname, .bool y.ngiven, .slice y.s1.a y.s1.n y.s1.c, .slice y.s2.a y.s2.n y.s2.c, .slice y.s3.a y.s3.n y.s3.c, .slice y.s4.a y.s4.n y.s4.c, .slice y.s5.a y.s5.n y.s5.c, .int .i64 y.at_, .int .i64 y.status, .bool y.free, .slice y.s6.a y.s6.n y.s6.c, .slice y.s7.a y.s7.n y.s7.c] 74) = wb at *
              go_wp2_with (first
                | ((with_reducible refine gate_loadT 74 8 rfl ?_); refine it_load74 rfl 8 rfl wr.heap.size y rfl G8.out ?_; have n6 := Aside0.mk (below_alloc (Below.refl wb.heap.size wb) (.cells #[Value.int .i64 y.kind, .int .i64 y.nk, .string y.nname, .bool y.ngiven, .slice y.s1.a y.s1.n y.s1.c, .slice y.s2.a y.s2.n y.s2.c, .slice y.s3.a y.s3.n y.s3.c, .slice y.s4.a y.s4.n y.s4.c, .slice y.s5.a y.s5.n y.s5.c, .int .i64 y.at_, .int .i64 y.status, .bool y.free, .slice y.s6.a y.s6.n y.s6.c, .slice y.s7.a y.s7.n y.s7.c] 60)); have n7 := Aside0.mk (blk_new wb (.cells #[Value.int .i64 y.kind, .int .i64 y.nk, .string y.nname, .bool y.ngiven, .slice y.s1.a y.s1.n y.s1.c, .slice y.s2.a y.s2.n y.s2.c, .slice y.s3.a y.s3.n y.s3.c, .slice y.s4.a y.s4.n y.s4.c, .slice y.s5.a y.s5.n y.s5.c, .int .i64 y.at_, .int .i64 y.status, .bool y.free, .slice y.s6.a y.s6.n y.s6.c, .slice y.s7.a y.s7.n y.s7.c] 60)))
                | (go_at_call 25; (with_reducible refine (push_any w.heap.size g ((ys.take j).reverse ++ r) [y] _ 1 1 _ (StR_below (StR_below HP.out.st nb.out) n6.out) (it_one n7.out) (by simp; omega)).mono ?_); rintro e w6 ⟨rfl, hS, hB, hK⟩; have HQ := Aside0.mk (push_next HP.out HTK.out nb.out n6.out hS hB hK); clear hS hB hK))
              go_roundw
              case measure => simp [intOf]; omega
              case rel => exact ⟨j + 1, by omega, by go_num, HQ⟩
            · obtain rfl : j = n := by omega
              have HS7 := Aside0.mk (show StR wr w.heap.size g (ys.reverse ++ r) from by
                have h0 := HP.out.st
                rwa [← hyn, List.take_length] at h0)
              have HW7 := Aside0.mk (R_keeps HR5.out.row HP.out.keeps)
              have HX7 := Aside0.mk (HP.out.keeps _ _ _ (by decide) (by decide) HX5.out)
              have HB7 := Aside0.mk HP.out.bel
              have HYR := Aside0.mk (Kd.C_below HA.out.row HB7.out)
              have b2 : wr.cell? ⟨g6, 2, none⟩ = some (.slice A j c) := (blk_cell HX7.out 2).trans rfl
              clear a0 a1 a2
              go_upto_region 19 with (fail)
              refine region_seq (fun w_ => Below wr.heap.size wr w_) []
                [(1, some 58, .pure), (3, some 60, .pure), (4, some 61, .held), (0, some 57, .one), (2, some 59, .one), (5, some 62, .one), (6, some 4, .pure)] (by kernel_rfl) (by kernel_rfl) ?_
              have hS := below_drew (Below.refl wr.heap.size wr)
              repeat (first
                | (refine s_pure (v := ?_) (a' := ?_) rfl (fun _ _ _ h => h) rfl ?hy ?ha ?_; (case hy => (intro w_; go_simp; with_reducible rfl)); (case ha => (simp only [Act.put, List.setIfInBounds_toArray, List.set_cons_zero, List.set_cons_succ, i64_w, i32_w]; rfl)))
                | (refine s_held (v := ?_) (a' := ?_) hS rfl (fun _ _ _ h => h) rfl ?hy ?ha ?_; (case hy => (intro w_ hb_; have s0 := pw_cell_below hb_ b2; go_simp; with_reducible rfl)); (case ha => (simp only [Act.put, List.setIfInBounds_toArray, List.set_cons_zero, List.set_cons_succ, i64_w, i32_w]; rfl))))
              clear b2
              (refine s_new (v := ?_) (w1 := ?_) (a' := ?_) rfl rfl rfl ?hy ?ha ?hS ?_; (case hy => (go_simp; first | with_reducible rfl | (refine ⟨?_, ?_⟩ <;> with_reducible rfl))); (case ha => (simp only [Act.put, List.setIfInBounds_toArray, List.set_cons_zero, List.set_cons_succ, i64_w, i32_w]; rfl)); (case hS => (repeat (first | exact hS | exact Below.refl _ _ | refine below_drew ?_ | refine below_alloc ?_ _))))
              have HE := Aside0.mk (show kIt.R 74 (wr.alloc (.cells #[] 74)).drew wr.heap.size ok0 (.slice (some ⟨wr.heap.size, 0, none⟩) 0 0) [] from R_empty (blk_new wr _) (Nat.le_refl _))
              have hS1 := below_drew (below_alloc (Below.refl wr.heap.size wr) (.cells #[] 74))
              clear hS
              have hS := hS1
              clear hS1
              generalize (wr.alloc (.cells #[] 74)).drew = wu at *
              have HHM := Aside0.mk (show r.length = m from by have h0 := (Rw.parts HW7.out).1; rwa [List.length_reverse] at h0)
              refine s_oneL rfl (fun K hK => ?_) rfl
              go_wp2_with ((with_reducible refine gate_dst (N := 59) rfl ?_)
                           go_loud (refine app_it wr.heap.size (N := 59) (w0 := wr) (W := wu) rfl rfl (.tmp 57) (.tmp 58) rfl (.slice (some ⟨wr.heap.size, 0, none⟩) 0 0) [] r.reverse B m q rfl rfl HE.out (Kd.C_below (Rw.parts HW7.out).2.2 hS) hS hS.size (by have := HHM.out; simp; omega) ?_)
                           intro A1 n1 cp1 w9 hR hB hG
                           have HR8 := Aside0.mk hR
                           have HS8 := Aside0.mk hB
                           clear hR hB hG)
              refine hK _ _ HS8.out ?_
              clear hK hS
              have hS := HS8.out
              refine s_oneL rfl (fun K hK => ?_) rfl
              go_wp2_with ((with_reducible refine gate_dst (N := 62) rfl ?_)
                           go_loud (refine app_it wr.heap.size (N := 62) (w0 := wr) (W := w9) rfl rfl (.tmp 59) (.tmp 61) rfl (.slice A1 n1 cp1) ([] ++ r.reverse) ys A j c rfl rfl HR8.out (Kd.C_below HYR.out hS) hS hS.size (by simp; omega) ?_)
                           intro A2 n2 cp2 w10 hR hB hG
                           have HR9 := Aside0.mk hR
                           have HS9 := Aside0.mk hB
                           clear hR hB hG)
              refine hK _ _ HS9.out ?_
              clear hK hS
              have hS := HS9.out
              repeat (first
                | (refine s_pure (v := ?_) (a' := ?_) rfl (fun _ _ _ h => h) rfl ?hy ?ha ?_; (case hy => (intro w_; go_simp; with_reducible rfl)); (case ha => (simp only [Act.put, List.setIfInBounds_toArray, List.set_cons_zero, List.set_cons_succ, i64_w, i32_w]; rfl)))
                | (refine s_held (v := ?_) (a' := ?_) hS rfl (fun _ _ _ h => h) rfl ?hy ?ha ?_; (case hy => (intro w_ hb_; go_simp; with_reducible rfl)); (case ha => (simp only [Act.put, List.setIfInBounds_toArray, List.set_cons_zero, List.set_cons_succ, i64_w, i32_w]; rfl))))
              refine s_tailL _ (by kernel_rfl) ?_
              simp only [opsAt, List.filterMap_nil]
              have HN := Aside0.mk (show RunSt w w10 g (k + 1) (ys.reverse ++ r) A2 n2 cp2 from ⟨StR_below HS7.out HS9.out, by rw [List.reverse_append, List.reverse_reverse]; exact Kd.R_lower HR9.out (Nat.zero_le _), (fun y hy => (List.mem_append.1 hy).elim (fun h => HA.out.ok y (List.mem_reverse.1 h)) (HR5.out.ok y)), by simp; omega, below_trans HB7.out (below_sub HS9.out HB7.out.size)⟩)
              clear hS
              go_wp2_with (go_at_call 42; (with_reducible refine (same_st HN.out.st HN.out.row HN.out.ok HN.out.bel (by have := HN.out.len; omega)).mono ?_); rintro e w19 ⟨rfl, hB⟩; have HM := Aside0.mk (run_below HN.out hB); clear hB HN)
              go_roundw
              case measure => simp [intOf]; omega
              case rel => exact ⟨k + 1, _, _, _, _, by omega, by go_num, rfl, HM⟩
        have e0 : (x.1 == 0) = false := beq_eq_false_iff_ne.2 c0
        by_cases c1 : x.1 = 1
        · rw [c1] at a0
          clear c1
          clear e0
          as_aux_lemma =>
            cases r with
            | nil =>
              obtain rfl : 0 = m := HR5.out.row.parts.1
              go_upto_region 22 with (go_at_call 31; (with_reducible refine (pop_no w.heap.size g _ HR5.out.st).mono ?_); rintro e w6 ⟨rfl, hS, hB, hK⟩; have HN6 := Aside0.mk (show RunSt w w6 g (k + 1) [] B 0 q from ⟨hS, R_keeps HR5.out.row hK, HR5.out.ok, Nat.zero_le _, below_trans HR5.out.bel hB⟩); clear hS hB hK)
              have G17 := Aside0.mk (blk_new w6 (.cells #[Value.int .i64 0, .int .i64 0, .string ⟨#[]⟩, .bool false, .slice none 0 0, .slice none 0 0, .slice none 0 0, .slice none 0 0, .slice none 0 0, .int .i64 0, .int .i64 0, .bool false, .slice none 0 0, .slice none 0 0] 60))
              have HN0 := Aside0.mk (run_below HN6.out (below_alloc (Below.refl w6.heap.size w6) (.cells #[Value.int .i64 0, .int .i64 0, .string ⟨#[]⟩, .bool false, .slice none 0 0, .slice none 0 0, .slice none 0 0, .slice none 0 0, .slice none 0 0, .int .i64 0, .int .i64 0, .bool false, .slice none 0 0, .slice none 0 0] 60)))
              clear HN6 HR5 HX5
              generalize w6.alloc (.cells #[Value.int .i64 0, .int .i64 0, .string ⟨#[]⟩, .bool false, .slice none 0 0, .slice none 0 0, .slice none 0 0, .slice none 0 0, .slice none 0 0, .int .i64 0, .int .i64 0, .bool false, .slice none 0 0, .slice none 0 0] 60) = w7 at *
              generalize w6.heap.size = g17 at *
              obtain ⟨z0, z1, z2, z3, z4, z5, z6, z7, z8, z9, z10, z11, z12, z13⟩ := cells_box (x := ⟨0, 0, ⟨#[]⟩, false, ⟨none, 0, 0⟩, ⟨none, 0, 0⟩, ⟨none, 0, 0⟩, ⟨none, 0, 0⟩, ⟨none, 0, 0⟩, 0, 0, false, ⟨none, 0, 0⟩, ⟨none, 0, 0⟩⟩) G17.out
              dsimp only at z0 z1 z2 z3 z4 z5 z6 z7 z8 z9 z10 z11 z12 z13
              go_wp2_with (first
                | (go_at_call 37; (with_reducible refine (sameZero _).mono ?_); rintro e w10 ⟨rfl, hB⟩; have HN := Aside0.mk (run_below HN0.out hB); clear hB HN0 G17 z0 z1 z2 z3 z4 z5 z6 z7 z8 z9 z10 z11 z12 z13)
                | (go_at_call 42; (with_reducible refine (same_st HN.out.st HN.out.row HN.out.ok HN.out.bel (by have := HN.out.len; omega)).mono ?_); rintro e w19 ⟨rfl, hB⟩; have HM := Aside0.mk (run_below HN.out hB); clear hB HN))
              go_roundw
              case measure => simp [intOf]; omega
              case rel => exact ⟨k + 1, _, _, _, _, by omega, by go_num, rfl, HM⟩
            | cons p r' =>
              have hm := HR5.out.row.parts.1
              rw [List.length_reverse, List.length_cons] at hm
              have hlr := HR5.out.len
              rw [List.length_cons] at hlr
              have hw1 : wrap64 ((m : Int) - 1) = (r'.length : Int) := by unfold wrap64; omega
              have hi1 : (r'.length : Int) < (m : Int) := by omega
              have hi0 : (0 : Int) ≤ (r'.length : Int) := by omega
              have hmp : decide ((0 : Int) < (m : Int)) = true := decide_eq_true (by omega)
              have hcq := HR5.out.row.parts.2.1
              have hi2 : (r'.length : Int) ≤ (q : Int) := by omega
              go_upto_region 22 with (go_at_call 31; (with_reducible refine (pop_yes w.heap.size g p r' _ HR5.out.st (by rw [List.length_cons]; omega)).mono ?_); rintro e w6 ⟨rfl, hS, hB, hK⟩; have HS6 := Aside0.mk hS; have HB6 := Aside0.mk hB; have HW6 := Aside0.mk (R_keeps HR5.out.row hK); clear hS hB hK)
              have G17 := Aside0.mk (blk_new w6 (.cells #[Value.int .i64 p.kind, .int .i64 p.nk, .string p.nname, .bool p.ngiven, .slice p.s1.a p.s1.n p.s1.c, .slice p.s2.a p.s2.n p.s2.c, .slice p.s3.a p.s3.n p.s3.c, .slice p.s4.a p.s4.n p.s4.c, .slice p.s5.a p.s5.n p.s5.c, .int .i64 p.at_, .int .i64 p.status, .bool p.free, .slice p.s6.a p.s6.n p.s6.c, .slice p.s7.a p.s7.n p.s7.c] 60))
              have HS7 := Aside0.mk (StR_below HS6.out (below_alloc (Below.refl w6.heap.size w6) (.cells #[Value.int .i64 p.kind, .int .i64 p.nk, .string p.nname, .bool p.ngiven, .slice p.s1.a p.s1.n p.s1.c, .slice p.s2.a p.s2.n p.s2.c, .slice p.s3.a p.s3.n p.s3.c, .slice p.s4.a p.s4.n p.s4.c, .slice p.s5.a p.s5.n p.s5.c, .int .i64 p.at_, .int .i64 p.status, .bool p.free, .slice p.s6.a p.s6.n p.s6.c, .slice p.s7.a p.s7.n p.s7.c] 60)))
              have HW7 := Aside0.mk (Kd.R_below HW6.out (below_alloc (Below.refl w6.heap.size w6) (.cells #[Value.int .i64 p.kind, .int .i64 p.nk, .string p.nname, .bool p.ngiven, .slice p.s1.a p.s1.n p.s1.c, .slice p.s2.a p.s2.n p.s2.c, .slice p.s3.a p.s3.n p.s3.c, .slice p.s4.a p.s4.n p.s4.c, .slice p.s5.a p.s5.n p.s5.c, .int .i64 p.at_, .int .i64 p.status, .bool p.free, .slice p.s6.a p.s6.n p.s6.c, .slice p.s7.a p.s7.n p.s7.c] 60)))
              have HB7 := Aside0.mk (below_trans HB6.out (below_sub (below_alloc (Below.refl w6.heap.size w6) (.cells #[Value.int .i64 p.kind, .int .i64 p.nk, .string p.nname, .bool p.ngiven, .slice p.s1.a p.s1.n p.s1.c, .slice p.s2.a p.s2.n p.s2.c, .slice p.s3.a p.s3.n p.s3.c, .slice p.s4.a p.s4.n p.s4.c, .slice p.s5.a p.s5.n p.s5.c, .int .i64 p.at_, .int .i64 p.status, .bool p.free, .slice p.s6.a p.s6.n p.s6.c, .slice p.s7.a p.s7.n p.s7.c] 60)) (Nat.le_trans HR5.out.bel.size HB6.out.size)))
              clear HS6 HW6 HB6 HX5
              generalize w6.alloc (.cells #[Value.int .i64 p.kind, .int .i64 p.nk, .string p.nname, .bool p.ngiven, .slice p.s1.a p.s1.n p.s1.c, .slice p.s2.a p.s2.n p.s2.c, .slice p.s3.a p.s3.n p.s3.c, .slice p.s4.a p.s4.n p.s4.c, .slice p.s5.a p.s5.n p.s5.c, .int .i64 p.at_, .int .i64 p.status, .bool p.free, .slice p.s6.a p.s6.n p.s6.c, .slice p.s7.a p.s7.n p.s7.c] 60) = w7 at *
              generalize w6.heap.size = g17 at *
              have HC7 := Aside0.mk (Rw.parts HW7.out).2.2
              have hxl : r'.length < (p :: r').reverse.length := by simp
              obtain ⟨bd, rfl, hx⟩ := at_it HC7.out r'.length hxl
              rw [show (p :: r').reverse[r'.length] = p by simp] at hx
              have HXX := Aside0.mk hx
              have HPO := Aside0.mk ((HR5.out.ok p List.mem_cons_self).below (below_trans HR5.out.bel HB7.out))
              clear hx hxl
              go_upto_region 25 with (fail)
              clear hmp
              obtain ⟨z0, z1, z2, z3, z4, z5, z6, z7, z8, z9, z10, z11, z12, z13⟩ := cells_box (x := p) G17.out
              obtain ⟨k0, k1, k2, k3, k4, k5, k6, k7, k8, k9, k10, k11, k12, k13⟩ := HXX.out
              refine region_seq (fun w_ => Below w7.heap.size w7 w_) []
                [(1, some 86, .pure), (2, some 87, .pure), (3, some 88, .pure), (4, some 89, .pure), (5, some 90, .pure), (0, some 85, .held), (6, some 91, .held), (7, some 92, .one), (8, some 93, .pure)] (by kernel_rfl) (by kernel_rfl) ?_
              have hS := below_drew (Below.refl w7.heap.size w7)
              repeat (first
                | (refine s_pure (v := ?_) (a' := ?_) rfl (fun _ _ _ h => h) rfl ?hy ?ha ?_; (case hy => (intro w_; go_simp; with_reducible rfl)); (case ha => (simp only [Act.put, List.setIfInBounds_toArray, List.set_cons_zero, List.set_cons_succ, i64_w, i32_w]; rfl)))
                | (refine s_held (v := ?_) (a' := ?_) hS rfl (fun _ _ _ h => h) rfl ?hy ?ha ?_; (case hy => (intro w_ hb_; have s0 := pw_cell_below hb_ z0; have s1 := pw_cell_below hb_ z1; have s2 := pw_cell_below hb_ z2; have s3 := pw_cell_below hb_ z3; have s4 := pw_cell_below hb_ z4; have s5 := pw_cell_below hb_ z5; have s6 := pw_cell_below hb_ z6; have s7 := pw_cell_below hb_ z7; have s8 := pw_cell_below hb_ z8; have s9 := pw_cell_below hb_ z9; have s10 := pw_cell_below hb_ z10; have s11 := pw_cell_below hb_ z11; have s12 := pw_cell_below hb_ z12; have s13 := pw_cell_below hb_ z13; have s14 := pw_cell_below hb_ k0; have s15 := pw_cell_below hb_ k1; have s16 := pw_cell_below hb_ k2; have s17 := pw_cell_below hb_ k3; have s18 := pw_cell_below hb_ k4; have s19 := pw_cell_below hb_ k5; have s20 := pw_cell_below hb_ k6; have s21 := pw_cell_below hb_ k7; have s22 := pw_cell_below hb_ k8; have s23 := pw_cell_below hb_ k9; have s24 := pw_cell_below hb_ k10; have s25 := pw_cell_below hb_ k11; have s26 := pw_cell_below hb_ k12; have s27 := pw_cell_below hb_ k13; go_simp; with_reducible rfl)); (case ha => (simp only [Act.put, List.setIfInBounds_toArray, List.set_cons_zero, List.set_cons_succ, i64_w, i32_w]; rfl))))
              clear z0 z1 z2 z3 z4 z5 z6 z7 z8 z9 z10 z11 z12 z13 k0 k1 k2 k3 k4 k5 k6 k7 k8 k9 k10 k11 k12 k13
              refine s_oneL rfl (fun K hK => ?_) rfl
              go_wp2_with (go_at_call 37; (with_reducible refine (sameItem p _ (HPO.out.below hS)).mono ?_); rintro e w9 ⟨rfl, hB⟩)
              have hS2 : Below w7.heap.size w7 w9 := hS.trans (below_sub hB hS.size)
              clear hB
              replace hS := hS2
              clear hS2
              refine hK _ _ hS ?_
              clear hK
              repeat (first
                | (refine s_pure (v := ?_) (a' := ?_) rfl (fun _ _ _ h => h) rfl ?hy ?ha ?_; (case hy => (intro w_; go_simp; with_reducible rfl)); (case ha => (simp only [Act.put, List.setIfInBounds_toArray, List.set_cons_zero, List.set_cons_succ, i64_w, i32_w]; rfl)))
                | (refine s_held (v := ?_) (a' := ?_) hS rfl (fun _ _ _ h => h) rfl ?hy ?ha ?_; (case hy => (intro w_ hb_; go_simp; with_reducible rfl)); (case ha => (simp only [Act.put, List.setIfInBounds_toArray, List.set_cons_zero, List.set_cons_succ, i64_w, i32_w]; rfl))))
              refine s_tailL _ (by kernel_rfl) ?_
              simp only [opsAt, List.filterMap_nil]
              have HS9 := Aside0.mk hS
              clear hS
              go_upto_region 27 with (fail)
              have HT9 := Aside0.mk (show kIt.C w9 (some bd) r'.length r'.reverse from by
                have h0 := C_part (m := r'.length) (Kd.C_below HC7.out HS9.out) (by omega)
                rwa [show (p :: r').reverse.take r'.length = r'.reverse by rw [List.reverse_cons]; simp] at h0)
              have HHM := Aside0.mk hm
              have HHL := Aside0.mk hlr
              clear hm hlr hcq
              go_wp2_with (first
                | ((with_reducible refine gate_dst (N := 100) rfl ?_)
                   go_loud (refine app_it w9.heap.size (N := 100) (w0 := w9) (W := w9.alloc (.cells #[] 74)) rfl rfl (.tmp 94) (.tmp 99) rfl (.slice (some ⟨w9.heap.size, 0, none⟩) 0 0) [] r'.reverse (some bd) r'.length q rfl rfl (R_empty (blk_new w9 _) (Nat.le_refl _)) (Kd.C_below HT9.out (below_alloc (Below.refl _ _) _)) (below_alloc (Below.refl _ _) _) (below_alloc (Below.refl _ _) _).size (by have := HHL.out; simp; omega) ?_)
                   intro A1 n1 cp1 w11 hR hB hG
                   have HN := Aside0.mk (run_two (A2 := A1) (n2 := n1) (c2 := cp1) HR5.out HS7.out HB7.out (below_trans HS9.out (below_sub hB HS9.out.size)) (Kd.R_lower hR (Nat.zero_le _)) (fun y hy => HR5.out.ok y (List.mem_cons_of_mem _ hy)) (by have := HHL.out; omega))
                   clear hR hB hG)
                | (go_at_call 42; (with_reducible refine (same_st HN.out.st HN.out.row HN.out.ok HN.out.bel (by have := HN.out.len; omega)).mono ?_); rintro e w19 ⟨rfl, hB⟩; have HM := Aside0.mk (run_below HN.out hB); clear hB HN))
              go_roundw
              case measure => simp [intOf]; omega
              case rel => exact ⟨k + 1, _, _, _, _, by omega, by go_num, rfl, HM⟩
        have e1 : (x.1 == 1) = false := beq_eq_false_iff_ne.2 c1
        by_cases c2 : x.1 = 2
        · rw [c2] at a0
          clear c2
          clear e0 e1
          as_aux_lemma =>
            obtain ⟨bb, hbb⟩ : ∃ bb, brkB r x.2.1 = bb := ⟨_, rfl⟩
            have HBB := Aside0.mk hbb
            clear hbb
            go_upto_region 30 with (go_at_call 27; (with_reducible refine (brk_any w.heap.size g r x.2.1 _ HR5.out.st HA.out.lo HA.out.hi (by have := HR5.out.len; omega)).mono ?_); rintro e w6 ⟨rfl, hS, hB, hK⟩; rw [HBB.out]; have HS6 := Aside0.mk hS; have HB6 := Aside0.mk hB; have HW6 := Aside0.mk (R_keeps HR5.out.row hK); have HX6 := Aside0.mk (hK _ _ _ (by decide) (by decide) HX5.out); clear hS hB hK)
            have a1 : w6.cell? ⟨g6, 1, none⟩ = some (.int .i64 x.2.1) := (blk_cell HX6.out 1).trans rfl
            go_upto_region 31 with (go_at_call 38; (with_reducible refine (rbrk_st x.2.1 HW6.out HR5.out.ok (below_trans HR5.out.bel HB6.out) (by have := HR5.out.len; omega) HA.out.lo HA.out.hi).mono ?_); rintro e w7 ⟨A7, n7, c7, rfl, hR, hB⟩; rw [HBB.out]; have HN := Aside0.mk (run_two HR5.out HS6.out HB6.out hB hR (fun y hy => HR5.out.ok y (brkR_sub _ _ y hy)) (by have := HR5.out.len; have := brkR_len r x.2.1; omega)); clear hR hB)
            clear a1 HS6 HB6 HW6 HX6 HR5 HBB
            go_wp2_with (go_at_call 42; (with_reducible refine (same_st HN.out.st HN.out.row HN.out.ok HN.out.bel (by have := HN.out.len; omega)).mono ?_); rintro e w19 ⟨rfl, hB⟩; have HM := Aside0.mk (run_below HN.out hB); clear hB HN)
            go_roundw
            case measure => simp [intOf]; omega
            case rel => exact ⟨k + 1, _, _, _, _, by omega, by go_num, rfl, HM⟩
        have e2 : (x.1 == 2) = false := beq_eq_false_iff_ne.2 c2
        by_cases c3 : x.1 = 3
        · rw [c3] at a0
          clear c3
          clear e0 e1 e2
          as_aux_lemma =>
            obtain ⟨bb, hbb⟩ : ∃ bb, brkB r x.2.1 = bb := ⟨_, rfl⟩
            have HBB := Aside0.mk hbb
            clear hbb
            go_upto_region 36 with (go_at_call 28; (with_reducible refine (con_any w.heap.size g r x.2.1 _ HR5.out.st HA.out.lo HA.out.hi (by have := HR5.out.len; omega)).mono ?_); rintro e w6 ⟨rfl, hS, hB, hK⟩; rw [HBB.out]; have HS6 := Aside0.mk hS; have HB6 := Aside0.mk hB; have HW6 := Aside0.mk (R_keeps HR5.out.row hK); have HX6 := Aside0.mk (hK _ _ _ (by decide) (by decide) HX5.out); clear hS hB hK)
            have a1 : w6.cell? ⟨g6, 1, none⟩ = some (.int .i64 x.2.1) := (blk_cell HX6.out 1).trans rfl
            go_upto_region 37 with (go_at_call 39; (with_reducible refine (rcon_st x.2.1 HW6.out HR5.out.ok (below_trans HR5.out.bel HB6.out) (by have := HR5.out.len; omega) HA.out.lo HA.out.hi).mono ?_); rintro e w7 ⟨A7, n7, c7, rfl, hR, hB⟩; rw [HBB.out]; have HN := Aside0.mk (run_two HR5.out HS6.out HB6.out hB hR (conR_ok _ HR5.out.ok) (by have := HR5.out.len; have := conR_len r x.2.1; omega)); clear hR hB)
            clear a1 HS6 HB6 HW6 HX6 HR5 HBB
            go_wp2_with (go_at_call 42; (with_reducible refine (same_st HN.out.st HN.out.row HN.out.ok HN.out.bel (by have := HN.out.len; omega)).mono ?_); rintro e w19 ⟨rfl, hB⟩; have HM := Aside0.mk (run_below HN.out hB); clear hB HN)
            go_roundw
            case measure => simp [intOf]; omega
            case rel => exact ⟨k + 1, _, _, _, _, by omega, by go_num, rfl, HM⟩
        have e3 : (x.1 == 3) = false := beq_eq_false_iff_ne.2 c3
        by_cases c4 : x.1 = 4
        · rw [c4] at a0
          clear c4
          clear e0 e1 e2 e3
          as_aux_lemma =>
            cases hcut : cut isBack r 0 with
            | none =>
              have HCUT := Aside0.mk hcut
              clear hcut
              go_upto_region 42 with (go_at_call 29; (with_reducible refine (ret_no w.heap.size g r _ HR5.out.st (by have := HR5.out.len; omega) HCUT.out).mono ?_); rintro e w6 ⟨rfl, hS, hB, hK⟩; have HS6 := Aside0.mk hS; have HB6 := Aside0.mk hB; have HW6 := Aside0.mk (R_keeps HR5.out.row hK); clear hS hB hK)
              have G17 := Aside0.mk (blk_new w6 (.cells #[Value.int .i64 0, .int .i64 0, .string ⟨#[]⟩, .bool false, .slice none 0 0, .slice none 0 0, .slice none 0 0, .slice none 0 0, .slice none 0 0, .int .i64 0, .int .i64 0, .bool false, .slice none 0 0, .slice none 0 0] 60))
              have HS7 := Aside0.mk (StR_below HS6.out (below_alloc (Below.refl w6.heap.size w6) (.cells #[Value.int .i64 0, .int .i64 0, .string ⟨#[]⟩, .bool false, .slice none 0 0, .slice none 0 0, .slice none 0 0, .slice none 0 0, .slice none 0 0, .int .i64 0, .int .i64 0, .bool false, .slice none 0 0, .slice none 0 0] 60)))
              have HW7 := Aside0.mk (Kd.R_below HW6.out (below_alloc (Below.refl w6.heap.size w6) (.cells #[Value.int .i64 0, .int .i64 0, .string ⟨#[]⟩, .bool false, .slice none 0 0, .slice none 0 0, .slice none 0 0, .slice none 0 0, .slice none 0 0, .int .i64 0, .int .i64 0, .bool false, .slice none 0 0, .slice none 0 0] 60)))
              have HB7 := Aside0.mk (below_trans HB6.out (below_sub (below_alloc (Below.refl w6.heap.size w6) (.cells #[Value.int .i64 0, .int .i64 0, .string ⟨#[]⟩, .bool false, .slice none 0 0, .slice none 0 0, .slice none 0 0, .slice none 0 0, .slice none 0 0, .int .i64 0, .int .i64 0, .bool false, .slice none 0 0, .slice none 0 0] 60)) (Nat.le_trans HR5.out.bel.size HB6.out.size)))
              clear HS6 HW6 HB6 HX5
              generalize w6.alloc (.cells #[Value.int .i64 0, .int .i64 0, .string ⟨#[]⟩, .bool false, .slice none 0 0, .slice none 0 0, .slice none 0 0, .slice none 0 0, .slice none 0 0, .int .i64 0, .int .i64 0, .bool false, .slice none 0 0, .slice none 0 0] 60) = w7 at *
              generalize w6.heap.size = g17 at *
              go_upto_region 43 with (go_at_call 40; (with_reducible refine (rret_no HW7.out (by have := HR5.out.len; omega) HCUT.out).mono ?_); rintro e w8 ⟨A8, n8, c8, rfl, hR, hB⟩; have HN8 := Aside0.mk (run_two HR5.out HS7.out HB7.out hB hR HR5.out.ok (by have := HR5.out.len; omega)); have G18 := Aside0.mk (blk_below G17.out hB); clear hR hB HS7 HW7 HB7 G17)
              have G20 := Aside0.mk (blk_new w8 (.cells #[Value.int .i64 0, .int .i64 0, .string ⟨#[]⟩, .bool false, .slice none 0 0, .slice none 0 0, .slice none 0 0, .slice none 0 0, .slice none 0 0, .int .i64 0, .int .i64 0, .bool false, .slice none 0 0, .slice none 0 0] 74))
              have G19 := Aside0.mk (blk_below G18.out (below_alloc (Below.refl w8.heap.size w8) (.cells #[Value.int .i64 0, .int .i64 0, .string ⟨#[]⟩, .bool false, .slice none 0 0, .slice none 0 0, .slice none 0 0, .slice none 0 0, .slice none 0 0, .int .i64 0, .int .i64 0, .bool false, .slice none 0 0, .slice none 0 0] 74)))
              have HN0 := Aside0.mk (run_below HN8.out (below_alloc (Below.refl w8.heap.size w8) (.cells #[Value.int .i64 0, .int .i64 0, .string ⟨#[]⟩, .bool false, .slice none 0 0, .slice none 0 0, .slice none 0 0, .slice none 0 0, .slice none 0 0, .int .i64 0, .int .i64 0, .bool false, .slice none 0 0, .slice none 0 0] 74)))
              clear HN8 G18
              generalize w8.alloc (.cells #[Value.int .i64 0, .int .i64 0, .string ⟨#[]⟩, .bool false, .slice none 0 0, .slice none 0 0, .slice none 0 0, .slice none 0 0, .slice none 0 0, .int .i64 0, .int .i64 0, .bool false, .slice none 0 0, .slice none 0 0] 74) = w9 at *
              generalize w8.heap.size = g20 at *
              obtain ⟨z0, z1, z2, z3, z4, z5, z6, z7, z8, z9, z10, z11, z12, z13⟩ := cells_box (x := ⟨0, 0, ⟨#[]⟩, false, ⟨none, 0, 0⟩, ⟨none, 0, 0⟩, ⟨none, 0, 0⟩, ⟨none, 0, 0⟩, ⟨none, 0, 0⟩, 0, 0, false, ⟨none, 0, 0⟩, ⟨none, 0, 0⟩⟩) G19.out
              obtain ⟨y0, y1, y2, y3, y4, y5, y6, y7, y8, y9, y10, y11, y12, y13⟩ := cells_box (x := ⟨0, 0, ⟨#[]⟩, false, ⟨none, 0, 0⟩, ⟨none, 0, 0⟩, ⟨none, 0, 0⟩, ⟨none, 0, 0⟩, ⟨none, 0, 0⟩, 0, 0, false, ⟨none, 0, 0⟩, ⟨none, 0, 0⟩⟩) G20.out
              dsimp only at z0 z1 z2 z3 z4 z5 z6 z7 z8 z9 z10 z11 z12 z13 y0 y1 y2 y3 y4 y5 y6 y7 y8 y9 y10 y11 y12 y13
              clear HR5
              go_wp2_with (first
                | (go_at_call 37; (with_reducible refine (sameZero _).mono ?_); rintro e w10 ⟨rfl, hB⟩; have HN := Aside0.mk (run_below HN0.out hB); clear hB HN0 G19 G20 z0 z1 z2 z3 z4 z5 z6 z7 z8 z9 z10 z11 z12 z13 y0 y1 y2 y3 y4 y5 y6 y7 y8 y9 y10 y11 y12 y13)
                | (go_at_call 42; (with_reducible refine (same_st HN.out.st HN.out.row HN.out.ok HN.out.bel (by have := HN.out.len; omega)).mono ?_); rintro e w19 ⟨rfl, hB⟩; have HM := Aside0.mk (run_below HN.out hB); clear hB HN))
              go_roundw
              case measure => simp [intOf]; omega
              case rel => exact ⟨k + 1, _, _, _, _, by omega, by go_num, rfl, HM⟩
            | some pz =>
              obtain ⟨z, r'⟩ := pz
              have HCUT := Aside0.mk hcut
              clear hcut
              have HSUB := Aside0.mk (ret_sub HCUT.out)
              go_upto_region 42 with (go_at_call 29; (with_reducible refine (ret_yes w.heap.size g r r' z _ HR5.out.st (by have := HR5.out.len; omega) HCUT.out).mono ?_); rintro e w6 ⟨rfl, hS, hB, hK⟩; have HS6 := Aside0.mk hS; have HB6 := Aside0.mk hB; have HW6 := Aside0.mk (R_keeps HR5.out.row hK); clear hS hB hK)
              have G17 := Aside0.mk (blk_new w6 (.cells #[Value.int .i64 z.kind, .int .i64 z.nk, .string z.nname, .bool z.ngiven, .slice z.s1.a z.s1.n z.s1.c, .slice z.s2.a z.s2.n z.s2.c, .slice z.s3.a z.s3.n z.s3.c, .slice z.s4.a z.s4.n z.s4.c, .slice z.s5.a z.s5.n z.s5.c, .int .i64 z.at_, .int .i64 z.status, .bool z.free, .slice z.s6.a z.s6.n z.s6.c, .slice z.s7.a z.s7.n z.s7.c] 60))
              have HS7 := Aside0.mk (StR_below HS6.out (below_alloc (Below.refl w6.heap.size w6) (.cells #[Value.int .i64 z.kind, .int .i64 z.nk, .string z.nname, .bool z.ngiven, .slice z.s1.a z.s1.n z.s1.c, .slice z.s2.a z.s2.n z.s2.c, .slice z.s3.a z.s3.n z.s3.c, .slice z.s4.a z.s4.n z.s4.c, .slice z.s5.a z.s5.n z.s5.c, .int .i64 z.at_, .int .i64 z.status, .bool z.free, .slice z.s6.a z.s6.n z.s6.c, .slice z.s7.a z.s7.n z.s7.c] 60)))
              have HW7 := Aside0.mk (Kd.R_below HW6.out (below_alloc (Below.refl w6.heap.size w6) (.cells #[Value.int .i64 z.kind, .int .i64 z.nk, .string z.nname, .bool z.ngiven, .slice z.s1.a z.s1.n z.s1.c, .slice z.s2.a z.s2.n z.s2.c, .slice z.s3.a z.s3.n z.s3.c, .slice z.s4.a z.s4.n z.s4.c, .slice z.s5.a z.s5.n z.s5.c, .int .i64 z.at_, .int .i64 z.status, .bool z.free, .slice z.s6.a z.s6.n z.s6.c, .slice z.s7.a z.s7.n z.s7.c] 60)))
              have HB7 := Aside0.mk (below_trans HB6.out (below_sub (below_alloc (Below.refl w6.heap.size w6) (.cells #[Value.int .i64 z.kind, .int .i64 z.nk, .string z.nname, .bool z.ngiven, .slice z.s1.a z.s1.n z.s1.c, .slice z.s2.a z.s2.n z.s2.c, .slice z.s3.a z.s3.n z.s3.c, .slice z.s4.a z.s4.n z.s4.c, .slice z.s5.a z.s5.n z.s5.c, .int .i64 z.at_, .int .i64 z.status, .bool z.free, .slice z.s6.a z.s6.n z.s6.c, .slice z.s7.a z.s7.n z.s7.c] 60)) (Nat.le_trans HR5.out.bel.size HB6.out.size)))
              clear HS6 HW6 HB6 HX5
              generalize w6.alloc (.cells #[Value.int .i64 z.kind, .int .i64 z.nk, .string z.nname, .bool z.ngiven, .slice z.s1.a z.s1.n z.s1.c, .slice z.s2.a z.s2.n z.s2.c, .slice z.s3.a z.s3.n z.s3.c, .slice z.s4.a z.s4.n z.s4.c, .slice z.s5.a z.s5.n z.s5.c, .int .i64 z.at_, .int .i64 z.status, .bool z.free, .slice z.s6.a z.s6.n z.s6.c, .slice z.s7.a z.s7.n z.s7.c] 60) = w7 at *
              generalize w6.heap.size = g17 at *
              go_upto_region 43 with (go_at_call 40; (with_reducible refine (rret_yes HW7.out (by have := HR5.out.len; omega) HCUT.out).mono ?_); rintro e w8 ⟨A8, n8, c8, rfl, hR, hB⟩; have HN8 := Aside0.mk (run_two HR5.out HS7.out HB7.out hB hR (fun y hy => HR5.out.ok y (HSUB.out.2.1 y hy)) (by have := HR5.out.len; have := HSUB.out.2.2; omega)); have G18 := Aside0.mk (blk_below G17.out hB); clear hR hB HS7 HW7 HB7 G17)
              have G20 := Aside0.mk (blk_new w8 (.cells #[Value.int .i64 z.kind, .int .i64 z.nk, .string z.nname, .bool z.ngiven, .slice z.s1.a z.s1.n z.s1.c, .slice z.s2.a z.s2.n z.s2.c, .slice z.s3.a z.s3.n z.s3.c, .slice z.s4.a z.s4.n z.s4.c, .slice z.s5.a z.s5.n z.s5.c, .int .i64 z.at_, .int .i64 z.status, .bool z.free, .slice z.s6.a z.s6.n z.s6.c, .slice z.s7.a z.s7.n z.s7.c] 74))
              have G19 := Aside0.mk (blk_below G18.out (below_alloc (Below.refl w8.heap.size w8) (.cells #[Value.int .i64 z.kind, .int .i64 z.nk, .string z.nname, .bool z.ngiven, .slice z.s1.a z.s1.n z.s1.c, .slice z.s2.a z.s2.n z.s2.c, .slice z.s3.a z.s3.n z.s3.c, .slice z.s4.a z.s4.n z.s4.c, .slice z.s5.a z.s5.n z.s5.c, .int .i64 z.at_, .int .i64 z.status, .bool z.free, .slice z.s6.a z.s6.n z.s6.c, .slice z.s7.a z.s7.n z.s7.c] 74)))
              have HN0 := Aside0.mk (run_below HN8.out (below_alloc (Below.refl w8.heap.size w8) (.cells #[Value.int .i64 z.kind, .int .i64 z.nk, .string z.nname, .bool z.ngiven, .slice z.s1.a z.s1.n z.s1.c, .slice z.s2.a z.s2.n z.s2.c, .slice z.s3.a z.s3.n z.s3.c, .slice z.s4.a z.s4.n z.s4.c, .slice z.s5.a z.s5.n z.s5.c, .int .i64 z.at_, .int .i64 z.status, .bool z.free, .slice z.s6.a z.s6.n z.s6.c, .slice z.s7.a z.s7.n z.s7.c] 74)))
              clear HN8 G18
              generalize w8.alloc (.cells #[Value.int .i64 z.kind, .int .i64 z.nk, .string z.nname, .bool z.ngiven, .slice z.s1.a z.s1.n z.s1.c, .slice z.s2.a z.s2.n z.s2.c, .slice z.s3.a z.s3.n z.s3.c, .slice z.s4.a z.s4.n z.s4.c, .slice z.s5.a z.s5.n z.s5.c, .int .i64 z.at_, .int .i64 z.status, .bool z.free, .slice z.s6.a z.s6.n z.s6.c, .slice z.s7.a z.s7.n z.s7.c] 74) = w9 at *
              generalize w8.heap.size = g20 at *
              obtain ⟨z0, z1, z2, z3, z4, z5, z6, z7, z8, z9, z10, z11, z12, z13⟩ := cells_box (x := z) G19.out
              obtain ⟨y0, y1, y2, y3, y4, y5, y6, y7, y8, y9, y10, y11, y12, y13⟩ := cells_box (x := z) G20.out
              have HZ := Aside0.mk ((HR5.out.ok z HSUB.out.1).below HN0.out.bel)
              clear HR5
              go_wp2_with (first
                | (go_at_call 37; (with_reducible refine (sameItem z _ HZ.out).mono ?_); rintro e w10 ⟨rfl, hB⟩; have HN := Aside0.mk (run_below HN0.out hB); clear hB HN0 G19 G20 z0 z1 z2 z3 z4 z5 z6 z7 z8 z9 z10 z11 z12 z13 y0 y1 y2 y3 y4 y5 y6 y7 y8 y9 y10 y11 y12 y13)
                | (go_at_call 42; (with_reducible refine (same_st HN.out.st HN.out.row HN.out.ok HN.out.bel (by have := HN.out.len; omega)).mono ?_); rintro e w19 ⟨rfl, hB⟩; have HM := Aside0.mk (run_below HN.out hB); clear hB HN))
              go_roundw
              case measure => simp [intOf]; omega
              case rel => exact ⟨k + 1, _, _, _, _, by omega, by go_num, rfl, HM⟩
        have e4 : (x.1 == 4) = false := beq_eq_false_iff_ne.2 c4
        by_cases c5 : x.1 = 5
        · rw [c5] at a0
          clear c5
          clear e0 e1 e2 e3 e4
          as_aux_lemma =>
            go_upto_region 48 with (go_at_call 41; (with_reducible refine (clear_any w.heap.size g r _ HR5.out.st).mono ?_); rintro e w6 ⟨rfl, hS, hB, hK⟩; have HN := Aside0.mk (show RunSt w w6 g (k + 1) [] none 0 0 from ⟨hS, Kd.R_nil _ _ _ _ _, (fun y hy => by cases hy), Nat.zero_le _, below_trans HR5.out.bel hB⟩); clear hS hB hK)
            clear HR5 HX5
            go_wp2_with (go_at_call 42; (with_reducible refine (same_st HN.out.st HN.out.row HN.out.ok HN.out.bel (by have := HN.out.len; omega)).mono ?_); rintro e w19 ⟨rfl, hB⟩; have HM := Aside0.mk (run_below HN.out hB); clear hB HN)
            go_roundw
            case measure => simp [intOf]; omega
            case rel => exact ⟨k + 1, _, _, _, _, by omega, by go_num, rfl, HM⟩
        have e5 : (x.1 == 5) = false := beq_eq_false_iff_ne.2 c5
        have HN := Aside0.mk (run_more HR5.out)
        clear HR5 HX5
        as_aux_lemma =>
          go_wp2_with (go_at_call 42; (with_reducible refine (same_st HN.out.st HN.out.row HN.out.ok HN.out.bel (by have := HN.out.len; omega)).mono ?_); rintro e w19 ⟨rfl, hB⟩; have HM := Aside0.mk (run_below HN.out hB); clear hB HN)
          go_roundw
          case measure => simp [intOf]; omega
          case rel => exact ⟨k + 1, _, _, _, _, by omega, by go_num, rfl, HM⟩
    · obtain rfl : k = l.length := by omega
      as_aux_lemma =>
        have hm := HRS.out.row.parts.1
        have hw1 : wrap64 ((m : Int) - 1) = (m : Int) - 1 := by have := HRS.out.len; rw [List.length_reverse] at hm; unfold wrap64; omega
        have HIN := Aside0.mk (show EndSt w wo g r.reverse B m q m from ⟨by
          have h0 := HRS.out.st
          rwa [← hm, List.take_length, List.reverse_reverse], HRS.out.row, HRS.out.bel⟩)
        have HOK := Aside0.mk (fun y hy => HRS.out.ok y (List.mem_reverse.1 hy))
        have hlm : m ≤ 1600 := by have := HRS.out.len; rw [List.length_reverse] at hm; omega
        clear HRS
        generalize r.reverse = xs at *
        go_wp2
        clear hw1
        go_loopw [22] (fun v22 wr => ∃ j, j ≤ m ∧ v22 = .int .i64 ((j : Int) - 1) ∧ Aside0 (EndSt w wr g xs B m q j)) (fun v22 _ => (intOf v22 + 1).toNat)
        case atStart => exact ⟨m, Nat.le_refl _, rfl, HIN⟩
        case round =>
          clear HIN
          obtain ⟨j, hj, rfl, HE⟩ := hrel
          rcases j with _ | j
          · have ht : decide ((0 : Int) ≤ ((0 : Nat) : Int) - 1) = false := rfl
            go_upto_region 59 with (go_at_call 31; (with_reducible refine (pop_no w.heap.size g _ HE.out.st).mono ?_); rintro e w6 ⟨rfl, hS, hB, hK⟩; have HS7 := Aside0.mk (StR_below hS (below_alloc (Below.refl w6.heap.size w6) (.cells #[Value.int .i64 0, .int .i64 0, .string ⟨#[]⟩, .bool false, .slice none 0 0, .slice none 0 0, .slice none 0 0, .slice none 0 0, .slice none 0 0, .int .i64 0, .int .i64 0, .bool false, .slice none 0 0, .slice none 0 0] 60))); have HB7 := Aside0.mk (below_trans (below_trans HE.out.bel hB) (below_sub (below_alloc (Below.refl w6.heap.size w6) (.cells #[Value.int .i64 0, .int .i64 0, .string ⟨#[]⟩, .bool false, .slice none 0 0, .slice none 0 0, .slice none 0 0, .slice none 0 0, .slice none 0 0, .int .i64 0, .int .i64 0, .bool false, .slice none 0 0, .slice none 0 0] 60)) (Nat.le_trans HE.out.bel.size hB.size))); clear hS hB hK)
            generalize w6.alloc (.cells #[Value.int .i64 0, .int .i64 0, .string ⟨#[]⟩, .bool false, .slice none 0 0, .slice none 0 0, .slice none 0 0, .slice none 0 0, .slice none 0 0, .int .i64 0, .int .i64 0, .bool false, .slice none 0 0, .slice none 0 0] 60) = w7 at *
            go_wp2_with (go_at_call 32; (with_reducible refine (len_any _ _ [] _ HS7.out).mono ?_); rintro e w' ⟨rfl, rfl⟩; rw [show (([] : List It).length : Int) = 0 from rfl])
            go_ret
            exact ⟨rfl, HB7.out⟩
          · have ej : ((j + 1 : Nat) : Int) - 1 = (j : Int) := by omega
            rw [ej]
            have hjl : j < xs.length := by omega
            have hi0 : (0 : Int) ≤ (j : Int) := by omega
            have hi1 : (j : Int) < (m : Int) := by omega
            obtain ⟨bd, rfl, hx⟩ := at_it (Rw.parts HE.out.row).2.2 j hjl
            have htk := take_rev hjl
            have hxm := HOK.out xs[j] (List.getElem_mem hjl)
            obtain ⟨p, hp⟩ : ∃ p, xs[j] = p := ⟨_, rfl⟩
            rw [hp] at htk hxm
            have HPX := Aside0.mk hp
            have HT := Aside0.mk htk
            have HXM := Aside0.mk hxm
            clear hp htk hxm
            have HE2 := HE.out.st
            rw [HT.out] at HE2
            have HPS := Aside0.mk HE2
            clear HE2 hx ej
            go_upto_region 56 with (go_at_call 31; (with_reducible refine (pop_yes w.heap.size g p (xs.take j).reverse _ HPS.out (by simp; omega)).mono ?_); rintro e w6 ⟨rfl, hS, hB, hK⟩; have HE6 := Aside0.mk (show EndSt w w6 g xs (some bd) m q j from ⟨hS, R_keeps HE.out.row hK, below_trans HE.out.bel hB⟩); clear hS hB hK)
            have G17 := Aside0.mk (blk_new w6 (.cells #[Value.int .i64 p.kind, .int .i64 p.nk, .string p.nname, .bool p.ngiven, .slice p.s1.a p.s1.n p.s1.c, .slice p.s2.a p.s2.n p.s2.c, .slice p.s3.a p.s3.n p.s3.c, .slice p.s4.a p.s4.n p.s4.c, .slice p.s5.a p.s5.n p.s5.c, .int .i64 p.at_, .int .i64 p.status, .bool p.free, .slice p.s6.a p.s6.n p.s6.c, .slice p.s7.a p.s7.n p.s7.c] 60))
            have HE7 := Aside0.mk (end_below HE6.out (below_alloc (Below.refl w6.heap.size w6) (.cells #[Value.int .i64 p.kind, .int .i64 p.nk, .string p.nname, .bool p.ngiven, .slice p.s1.a p.s1.n p.s1.c, .slice p.s2.a p.s2.n p.s2.c, .slice p.s3.a p.s3.n p.s3.c, .slice p.s4.a p.s4.n p.s4.c, .slice p.s5.a p.s5.n p.s5.c, .int .i64 p.at_, .int .i64 p.status, .bool p.free, .slice p.s6.a p.s6.n p.s6.c, .slice p.s7.a p.s7.n p.s7.c] 60)))
            clear HE6 HPS HE
            generalize w6.alloc (.cells #[Value.int .i64 p.kind, .int .i64 p.nk, .string p.nname, .bool p.ngiven, .slice p.s1.a p.s1.n p.s1.c, .slice p.s2.a p.s2.n p.s2.c, .slice p.s3.a p.s3.n p.s3.c, .slice p.s4.a p.s4.n p.s4.c, .slice p.s5.a p.s5.n p.s5.c, .int .i64 p.at_, .int .i64 p.status, .bool p.free, .slice p.s6.a p.s6.n p.s6.c, .slice p.s7.a p.s7.n p.s7.c] 60) = w7 at *
            generalize w6.heap.size = g17 at *
            obtain ⟨z0, z1, z2, z3, z4, z5, z6, z7, z8, z9, z10, z11, z12, z13⟩ := cells_box (x := p) G17.out
            obtain ⟨bd', hbd, hx⟩ := at_it (Rw.parts HE7.out.row).2.2 j hjl
            obtain rfl : bd = bd' := Option.some.inj hbd
            rw [HPX.out] at hx
            clear hbd
            obtain ⟨k0, k1, k2, k3, k4, k5, k6, k7, k8, k9, k10, k11, k12, k13⟩ := hx
            refine region_seq (fun w_ => Below w7.heap.size w7 w_) []
              [(0, some 173, .pure), (1, some 174, .pure), (2, some 175, .pure), (4, some 177, .pure), (5, some 178, .pure), (6, some 179, .pure), (3, some 176, .held), (7, some 180, .held), (8, some 181, .one), (9, some 182, .pure), (10, some 183, .pure)] (by kernel_rfl) (by kernel_rfl) ?_
            have hS := below_drew (Below.refl w7.heap.size w7)
            repeat (first
              | (refine s_pure (v := ?_) (a' := ?_) rfl (fun _ _ _ h => h) rfl ?hy ?ha ?_; (case hy => (intro w_; go_simp; with_reducible rfl)); (case ha => (simp only [Act.put, List.setIfInBounds_toArray, List.set_cons_zero, List.set_cons_succ, i64_w, i32_w]; rfl)))
              | (refine s_held (v := ?_) (a' := ?_) hS rfl (fun _ _ _ h => h) rfl ?hy ?ha ?_; (case hy => (intro w_ hb_; have s0 := pw_cell_below hb_ z0; have s1 := pw_cell_below hb_ z1; have s2 := pw_cell_below hb_ z2; have s3 := pw_cell_below hb_ z3; have s4 := pw_cell_below hb_ z4; have s5 := pw_cell_below hb_ z5; have s6 := pw_cell_below hb_ z6; have s7 := pw_cell_below hb_ z7; have s8 := pw_cell_below hb_ z8; have s9 := pw_cell_below hb_ z9; have s10 := pw_cell_below hb_ z10; have s11 := pw_cell_below hb_ z11; have s12 := pw_cell_below hb_ z12; have s13 := pw_cell_below hb_ z13; have s14 := pw_cell_below hb_ k0; have s15 := pw_cell_below hb_ k1; have s16 := pw_cell_below hb_ k2; have s17 := pw_cell_below hb_ k3; have s18 := pw_cell_below hb_ k4; have s19 := pw_cell_below hb_ k5; have s20 := pw_cell_below hb_ k6; have s21 := pw_cell_below hb_ k7; have s22 := pw_cell_below hb_ k8; have s23 := pw_cell_below hb_ k9; have s24 := pw_cell_below hb_ k10; have s25 := pw_cell_below hb_ k11; have s26 := pw_cell_below hb_ k12; have s27 := pw_cell_below hb_ k13; go_simp; with_reducible rfl)); (case ha => (simp only [Act.put, List.setIfInBounds_toArray, List.set_cons_zero, List.set_cons_succ, i64_w, i32_w]; rfl)))
              | (refine s_off (a' := ?_) rfl (fun _ _ _ h => h) rfl ?ha ?_; (case ha => (simp only [Act.put, List.setIfInBounds_toArray, List.set_cons_zero, List.set_cons_succ, i64_w, i32_w]; rfl)))
              | (refine s_offHeld (a' := ?_) hS rfl (fun _ _ _ h => h) rfl ?ha ?_; (case ha => (simp only [Act.put, List.setIfInBounds_toArray, List.set_cons_zero, List.set_cons_succ, i64_w, i32_w]; rfl)))
              | (refine s_offOne (a' := ?_) rfl rfl rfl ?ha ?_; (case ha => (simp only [Act.put, List.setIfInBounds_toArray, List.set_cons_zero, List.set_cons_succ, i64_w, i32_w]; rfl))))
            clear z0 z1 z2 z3 z4 z5 z6 z7 z8 z9 z10 z11 z12 z13 k0 k1 k2 k3 k4 k5 k6 k7 k8 k9 k10 k11 k12 k13
            refine s_oneL rfl (fun K hK => ?_) rfl
            go_wp2_with (go_at_call 37; (with_reducible refine (sameItem p _ (HXM.out.below (below_trans HE7.out.bel (below_sub hS HE7.out.bel.size)))).mono ?_); rintro e w9 ⟨rfl, hB⟩)
            have hS2 : Below w7.heap.size w7 w9 := hS.trans (below_sub hB hS.size)
            clear hB
            replace hS := hS2
            clear hS2
            refine hK _ _ hS ?_
            clear hK
            repeat (first
              | (refine s_pure (v := ?_) (a' := ?_) rfl (fun _ _ _ h => h) rfl ?hy ?ha ?_; (case hy => (intro w_; go_simp; with_reducible rfl)); (case ha => (simp only [Act.put, List.setIfInBounds_toArray, List.set_cons_zero, List.set_cons_succ, i64_w, i32_w]; rfl)))
              | (refine s_held (v := ?_) (a' := ?_) hS rfl (fun _ _ _ h => h) rfl ?hy ?ha ?_; (case hy => (intro w_ hb_; go_simp; with_reducible rfl)); (case ha => (simp only [Act.put, List.setIfInBounds_toArray, List.set_cons_zero, List.set_cons_succ, i64_w, i32_w]; rfl)))
              | (refine s_off (a' := ?_) rfl (fun _ _ _ h => h) rfl ?ha ?_; (case ha => (simp only [Act.put, List.setIfInBounds_toArray, List.set_cons_zero, List.set_cons_succ, i64_w, i32_w]; rfl)))
              | (refine s_offHeld (a' := ?_) hS rfl (fun _ _ _ h => h) rfl ?ha ?_; (case ha => (simp only [Act.put, List.setIfInBounds_toArray, List.set_cons_zero, List.set_cons_succ, i64_w, i32_w]; rfl)))
              | (refine s_offOne (a' := ?_) rfl rfl rfl ?ha ?_; (case ha => (simp only [Act.put, List.setIfInBounds_toArray, List.set_cons_zero, List.set_cons_succ, i64_w, i32_w]; rfl))))
            refine s_tailL _ (by kernel_rfl) ?_
            simp only [opsAt, List.filterMap_nil]
            have HE9 := Aside0.mk (end_below HE7.out hS)
            clear hS
            go_wp2
            go_roundw
            case measure => simp [intOf]
            case rel => exact ⟨j, by omega, by go_num, HE9⟩
namespace RowFrameRuns
open Go.ChangeShapes Go.WideShapes Go.ChangeAt Go.RowKit
open Go.ChangeMaps (open_string shut_string)
theorem own : ownKnob Try.prog.godebug = none := by kernel_rfl
theorem laidOut : laidOutB Try.prog = true := by kernel_rfl
set_option maxRecDepth 100000 in
theorem lifted (os : Os) (started : os.Started) (H : Type) (enc : TypeId × Value → H) :
    ReturnsInHanded {} Try.checked os 8 .any (Rows.frameRunsSpec.pre6 enc Try.prog Try.f8 Rows.frameRunsRow.domain false) (Rows.frameRunsSpec.post enc Try.prog Try.f8 false true false false) := by
  refine returnsInHanded_of_change_sized (C := Try.checked) own started (by kernel_rfl) Try.func8
    (ChangeSpec.witness6 (enc := enc) (C := Try.checked) false ⟨#[], #[.slice none 0 0], []⟩ 8 (by kernel_rfl) (by kernel_rfl) (by kernel_rfl) (by kernel_rfl)) ?_
  intro W base args ds gs before hval0 hW hcnd hsz0 _
  have hsz : (DataW.weightsEach Try.prog (Try.f8.params.toList ++ Rows.frameRunsSpec.plain.varTypes Try.prog) (ds ++ gs)).all (· ≤ reachBytes) = true := hsz0
  have hval : ∀ (j : Nat) t v, Try.f8.params[j]? = some t → args[j]? = some v → Value.okWide Try.prog W .any base t v := hval0
  have hW' := hW
  obtain ⟨p, q, hA0, hV, rfl, hfz, hnd⟩ := hW
  have hA : DataW.TrodAll enc Try.prog W 0 (fun _ => true) true Try.f8.params.toList args.toList ds p := hA0
  rw [Try.params8] at hA hval hsz
  obtain ⟨v0, vs0, d0, ds0, p0, q0, hargs, rfl, rfl, h0, r0⟩ := trodAll_cons hA
  obtain ⟨rfl, rfl, rfl⟩ := trodAll_nil r0
  obtain rfl : args = #[v0] := by cases args; simp_all
  obtain ⟨rfl, rfl⟩ := trodVars_none hV
  obtain ⟨a0, n0, c0, rfl⟩ := okWide_slice Try.underlying69 (hval 0 69 v0 rfl rfl)
  have t0 := h0
  have lt0 : ∀ x ∈ p0, x.block < W.heap.size := by obtain ⟨m, hm⟩ := t0; exact DataW.trod_lt m _ _ _ hm
  have z0 : ∀ n ∈ d0.weights Try.prog 69, n ≤ reachBytes := fun n hn => by simpa using List.all_eq_true.1 hsz n (DataW.weights_mem_each (j := 0) rfl rfl n hn)
  obtain ⟨l0, C0, k0, V0⟩ := Open.open_sl (Open.op_slice Try.underlying69 (by kernel_rfl) (Frame.op_act W)) h0 z0
  clear hA0 hval0 hsz0 hsz
  refine (runs_law _ _ _ l0 W C0 V0.2).mono fun e W' ⟨he, bel⟩ => ?_
  subst he
  exact ⟨_, rfl, _, _, _, [], _, [], hW', trodAll_mk1 (shut_bool Try.underlying4 _), (trodAll_cons_mk (Below.trod laidOut (by kernel_rfl) (of_decide_eq_true (by kernel_rfl)) t0 bel lt0) trodAll_mk0), rfl, bel.frame _, fun h => by cases h⟩
theorem proved : Rows.FrameRunsSaid :=
  OpenClaim.holds_of_wide 8 Try.f8 rfl rfl rfl rfl rfl rfl rfl ⟨rfl, rfl, rfl, rfl, rfl⟩ rfl rfl rfl rfl rfl (by kernel_rfl) Try.func8 (by kernel_rfl)
    (of_decide_eq_true (by kernel_rfl)) (by unfold Func.isWrapper; first | (rw [if_pos (by decide +kernel)]; kernel_rfl) | (rw [if_neg (by decide +kernel)]; exact ⟨rfl, rfl⟩))
    (fun os started H enc _ => lifted os started H enc)
end RowFrameRuns
theorem frameRuns_holds : Rows.FrameRunsSaid := RowFrameRuns.proved
#print axioms frameRuns_holds
end Go.Proofs.Ytkepmbkghmkodaa
