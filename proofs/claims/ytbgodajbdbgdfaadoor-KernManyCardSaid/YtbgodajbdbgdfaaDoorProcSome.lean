/- kern: Ends, Children, and a fork that finds no room: their contracts. -/
import Derived.Test.YtbgodajbdbgdfaaDoorManyPure
import Derived.Test.YtbgodajbdbgdfaaDoorShelf
import Derived.Test.YtbgodajbdbgdfaaDoorIter
import Derived.Lib.OwnBridge
import Derived.Lib.SlKeysI
namespace Go.Proofs.YtbgodajbdbgdfaaDoor.Kern
open Go.RowKit Go.Proofs.YtbgodajbdbgdfaaDoorW.PrintWords Go.Proofs.YtbgodajbdbgdfaaDoorW.PrintLast Go.Proofs.YtbgodajbdbgdfaaDoor.Sig Go.Proofs.YtbgodajbdbgdfaaDoor.Base Go.Proofs.YtbgodajbdbgdfaaDoor.Seq Go.Maps Go.Sort Go.Lib
set_option linter.unusedVariables false
set_option linter.unusedSimpArgs false
/-- A row of ends that is handed back. -/
def EndsOut (w w' : World) (e : Ending) (k : Nat) (xs : List (Int × Int)) : Prop := ∃ A1 c1, e = .returned (.slice A1 k c1) ∧ kEnd.C w' A1 k xs ∧ k ≤ c1 ∧ Below w.heap.size w w'
theorem flat_end : Flat kEnd := fun _ _ _ _ _ _ h => h
section
variable {w : World} {base g m n : Nat} {D : Dm} {B : Int → Nat} {v : Value} {f : Tb} {last : Int} {ends : List (Int × Int)}
set_option maxHeartbeats 2000000 in
set_option maxRecDepth 100000 in
theorem clone_any (A : Option Addr) (k c : Nat) (xs : List (Int × Int)) (w : World) (hr : kEnd.C w A k xs) (hz : A = none → k = 0) (hl : k ≤ 1000000) :
    Calls Tryd.prog 36 #[.slice A k c] w fun e w' => EndsOut w w' e k xs := by
  cases A with
  | none =>
    obtain rfl := hz rfl
    have HC := Aside0.mk hr
    have q0 := fun w a n c n' c' => Lib.run_eql_slice_nil w _ _ a n c n' c' Tryd.underlying34
    clear hr
    go_enter Tryd.func36, Tryd.ntmps36
    go_wp2
    go_ret
    exact ⟨none, 0, rfl, HC.out, Nat.le_refl _, Below.refl _ _⟩
  | some ad =>
    have HC := Aside0.mk hr
    have q0 := fun w a n c n' c' => Lib.run_eql_slice_nil w _ _ a n c n' c' Tryd.underlying34
    have HL := Aside0.mk hr.1
    clear hr hz
    go_enter Tryd.func36, Tryd.ntmps36
    go_wp2_with (first | (
      (with_reducible refine gate_dst (N := 7) rfl ?_)
      go_loud (refine R_app kEnd flat_end w.heap.size (N := 7) (w0 := w) (W := w.alloc (.cells #[] 73)) rfl rfl (.tmp 5) (.tmp 6) 34 73 (.agg #[.int .i64 0, .int .i64 0]) 16 rfl Tryd.underlying34 (by kernel_rfl) rfl (by decide) (by decide) (.slice (some ⟨w.heap.size, 0, none⟩) 0 0) [] xs (some ad) k c rfl rfl (R_empty (blk_new w _) (Nat.le_refl _)) (Kd.C_below HC.out (below_alloc (Below.refl _ _) _)) (below_alloc (Below.refl _ _) _) (below_alloc (Below.refl _ _) _).size (by simp; omega) ?_)
      intro v1 w1 hR hB hG
      obtain ⟨A1, n1, c1, rfl⟩ := R_slice3 hR
      have HR1 := Aside0.mk hR
      have HB1 := Aside0.mk hB
      clear hR hB hG))
    go_ret
    obtain ⟨e1, e2, e3⟩ := Kd.R_reads' HR1.out
    have e4 : ([] ++ xs).length = k := HL.out
    rw [e4] at e1 e3
    subst e1
    exact ⟨A1, c1, rfl, e3, e2, HB1.out⟩
set_option maxHeartbeats 2000000 in
set_option maxRecDepth 100000 in
theorem ends_any (h : TV w base g m n D B v f last ends) (hl : ends.length ≤ 1000000) :
    Calls Tryd.prog 11 #[.pointer (some ⟨g, 0, none⟩)] w fun e w' => EndsOut w w' e ends.length ends := by
  obtain ⟨A, c, rfl⟩ := Kd.R_slice h.row
  obtain ⟨_, _, hC⟩ := Kd.R_reads' h.row
  have hz : A = none → ends.length = 0 := by
    rintro rfl
    rcases Nat.eq_zero_or_pos ends.length with h0 | h0
    · exact h0
    · obtain ⟨_, e, _⟩ := hC.2.2 h0
      cases e
  have c2 : w.cell? ⟨g, 2, none⟩ = some (.slice A ends.length c) := (blk_cell h.hg 2).trans rfl
  have HC := Aside0.mk hC
  have HZ := Aside0.mk hz
  clear h hC hz
  generalize ends.length = k at *
  go_enter Tryd.func11, Tryd.ntmps11
  go_wp2_with (go_at_call 36; (with_reducible refine (clone_any A k c ends w HC.out HZ.out hl).mono ?_); rintro e w1 ⟨A1, c1, rfl, hC, hc, hB⟩; have H1 := Aside0.mk hC; have H2 := Aside0.mk hc; have H3 := Aside0.mk hB; clear hC hc hB)
  go_ret
  exact ⟨A1, c1, rfl, H1.out, H2.out, H3.out⟩
set_option maxHeartbeats 2000000 in
set_option maxRecDepth 100000 in
theorem forkfull_any (h : TV w base g m n D B v f last ends) (pid : Int) (hp : (Lit.int .i64 pid).wf = true) (hl : liv f pid = true) (hsz : 64 ≤ Maps.size D) :
    Calls Tryd.prog 7 #[.pointer (some ⟨g, 0, none⟩), .int .i64 pid] w fun e w' => e = .returned (.tuple #[.int .i64 0, .int .i64 4]) ∧ w = w' := by
  have H := Aside0.mk h
  have HP := Aside0.mk hp
  have c0 : w.cell? ⟨g, 0, none⟩ = some (.map (some m)) := (blk_cell h.hg 0).trans rfl
  have hge : decide ((64 : Int) ≤ (Maps.size D : Int)) = true := decide_eq_true (by omega)
  have HO := Aside0.mk h.own
  clear h hp
  go_enter Tryd.func7, Tryd.ntmps7
  go_wp2_with (first
    | (go_at_call 35; (with_reducible refine (liv_ptr H.out pid HP.out).mono ?_); rintro e w1 ⟨rfl, rfl⟩; rw [hl]; simp only [ptr, if_true])
    | (at_len; refine wpList_len_own _ rfl _ 68 rfl 3 63 Tryd.underlying68 Rp m n D rfl HO.out ?_))
  go_ret2
  exact ⟨rfl, rfl⟩
set_option maxHeartbeats 2000000 in
set_option maxRecDepth 100000 in
theorem chi_any (h : TV w base g m n D B v f last ends) (par x : Int) (hq : (Lit.int .i64 par).wf = true) (hp : (Lit.int .i64 x).wf = true) (b2 b3 : Nat) (c2 : w.cell? ⟨b2, 0, none⟩ = some (.pointer (some ⟨g, 0, none⟩))) (c3 : w.cell? ⟨b3, 0, none⟩ = some (.int .i64 par)) :
    Calls Tryd.prog 38 #[.int .i64 x, .pointer (some ⟨b2, 0, none⟩), .pointer (some ⟨b3, 0, none⟩)] w fun e w' => e = .returned (.bool (chB f par x)) ∧ w = w' := by
  have H := Aside0.mk h
  have HP := Aside0.mk hp
  have HQ := Aside0.mk hq
  clear h hp hq
  go_enter Tryd.func38, Tryd.ntmps38
  go_wp2_with (go_at_call 28; (with_reducible refine (child_any H.out par x HP.out HQ.out).mono ?_); rintro e w1 ⟨rfl, rfl⟩)
  go_ret
  exact ⟨rfl, rfl⟩
set_option maxHeartbeats 2000000 in
set_option maxRecDepth 100000 in
theorem som_any (h : TV w base g m n D B v f last ends) (par x : Int) (hq : (Lit.int .i64 par).wf = true) (hp : (Lit.int .i64 x).wf = true) (b1 b2 b3 : Nat) (c1 : w.cell? ⟨b1, 0, none⟩ = some (.func (.func 38) #[] #[.pointer (some ⟨b2, 0, none⟩), .pointer (some ⟨b3, 0, none⟩)])) (c2 : w.cell? ⟨b2, 0, none⟩ = some (.pointer (some ⟨g, 0, none⟩))) (c3 : w.cell? ⟨b3, 0, none⟩ = some (.int .i64 par)) :
    Calls Tryd.prog 61 #[.int .i64 x, .pointer (some ⟨b1, 0, none⟩)] w fun e w' => e = .returned (.bool (!chB f par x)) ∧ w = w' := by
  have H := Aside0.mk h
  have HP := Aside0.mk hp
  have HQ := Aside0.mk hq
  have C2 := Aside0.mk c2
  have C3 := Aside0.mk c3
  clear h hp hq c2 c3
  go_enter Tryd.func61, Tryd.ntmps61
  go_wp2_with ((with_reducible refine (chi_any H.out par x HQ.out HP.out b2 b3 C2.out C3.out).mono ?_); rintro e w1 ⟨rfl, rfl⟩)
  go_ret
  exact ⟨rfl, rfl⟩
/-- The numbers of the kind. -/
abbrev Wf := { x : Int // (Lit.int .i64 x).wf = true }
instance : Inhabited Wf := ⟨⟨0, by decide⟩⟩
def encW (x : Wf) : Value := .int .i64 x.1
theorem below_sorted {W W' : World} {d : Array Wf} {blk k : Nat} {os : Array Obj} (h : Below W.heap.size W W') (hb : W.heap.size ≤ blk) : Below W.heap.size W (sortWorld encW W' blk 0 k d os) :=
  (below_putRow (q := k) (d := d) (enc := encW) h hb).trans ((_root_.Go.Proofs.below_grown (putRow encW (Sort.ahead W' k) blk 0 d) 0 os).mono (by rw [size_putRow]; exact h.size))
theorem delnil_any (fv : Value) (W : World) : Calls Tryd.prog 58 #[.slice none 0 0, fv] W fun e w' => e = .returned (.slice none 0 0) ∧ W = w' := by
  go_enter Tryd.func58, Tryd.ntmps58
  go_wp2_with (go_at_call 65; (with_reducible refine (Tryd.slices_IndexFunc_empty (α := Int) none 0 fv W).mono ?_); rintro e w1 ⟨rfl, rfl⟩)
  go_ret
  exact ⟨rfl, rfl⟩
theorem pmap_val {p : Int → Prop} : ∀ (L : List Int) (h : ∀ x ∈ L, p x), (L.pmap (fun x hx => (⟨x, hx⟩ : { x : Int // p x })) h).map (·.1) = L := by
  intro L h
  rw [List.map_pmap]
  simp
theorem del_any (h : TV w base g m n D B v f last ends) (par : Int) (hq : (Lit.int .i64 par).wf = true) (b1 b2 b3 : Nat) (c1 : w.cell? ⟨b1, 0, none⟩ = some (.func (.func 38) #[] #[.pointer (some ⟨b2, 0, none⟩), .pointer (some ⟨b3, 0, none⟩)])) (c2 : w.cell? ⟨b2, 0, none⟩ = some (.pointer (some ⟨g, 0, none⟩))) (c3 : w.cell? ⟨b3, 0, none⟩ = some (.int .i64 par))
    (W : World) (hB : Below w.heap.size w W) (blk cap : Nat) (L : List Int) (hL : ∀ x ∈ L, (Lit.int .i64 x).wf = true) (hblk : w.heap.size ≤ blk) (hH : Holds encZ W blk 0 L.toArray) (hcap : L.length ≤ cap) (hlen : L.length ≤ 1000000) :
    Calls Tryd.prog 58 #[.slice (some ⟨blk, 0, none⟩) L.length cap, .func (.func 61) #[] #[.pointer (some ⟨b1, 0, none⟩)]] W fun e w' =>
      ∃ A n1 q1, e = .returned (.slice A n1 q1) ∧ (Kd.int .i64).C w' A n1 (L.filter (chB f par)) ∧ n1 ≤ q1 ∧ Below w.heap.size w w' := by
  obtain ⟨d, hd⟩ : ∃ d : Array Wf, d.toList.map (·.1) = L := ⟨(L.pmap (fun x hx => (⟨x, hx⟩ : Wf)) hL).toArray, by rw [List.toList_toArray]; exact pmap_val L hL⟩
  have hds : d.size = L.length := by rw [← hd, List.length_map, Array.length_toList]
  have hget : ∀ j, (hj : j < d.size) → (d[j]!).1 = L.toArray[j]! := by
    intro j hj
    have hj2 : j < L.length := by omega
    rw [getElem!_pos d j hj, getElem!_pos L.toArray j (by simpa using hj2)]
    simp only [List.getElem_toArray]
    have : (d.toList.map (·.1))[j]'(by simpa using hj) = L[j] := by simp only [hd]
    rw [← this]
    simp
  have hp : PredAt Tryd.prog 61 #[.pointer (some ⟨b1, 0, none⟩)] encW (fun x => !chB f par x.1) W := fun W' x hb' => by
    have hbb := hB.trans (hb'.mono hB.size)
    refine (som_any (h.below hbb) par x.1 hq x.2 b1 b2 b3 (pw_cell_below hbb c1) (pw_cell_below hbb c2) (pw_cell_below hbb c3)).mono ?_
    rintro e w' ⟨rfl, rfl⟩
    exact ⟨rfl, 0, rfl⟩
  have hpo : PredOver Tryd.prog 61 #[.pointer (some ⟨b1, 0, none⟩)] encW (fun x => !chB f par x.1) blk 0 d.size W := fun k os dk x _ => by
    have hbb : Below w.heap.size w (sortWorld encW W blk 0 k dk os) := below_sorted hB hblk
    refine (som_any (h.below hbb) par x.1 hq x.2 b1 b2 b3 (pw_cell_below hbb c1) (pw_cell_below hbb c2) (pw_cell_below hbb c3)).mono ?_
    rintro e w' ⟨rfl, rfl⟩
    exact ⟨rfl, 0, rfl⟩
  have hH' : Holds encW W blk 0 d := fun j hj => by
    have := hH j (by simpa using (show j < L.length by omega))
    rw [← hget j hj] at this
    exact this
  have hcon := Tryd.slices_DeleteFunc encW (fun _ => rfl) (fun x => !chB f par x.1) 61 #[.pointer (some ⟨b1, 0, none⟩)] (enters_of Tryd.func61 (by kernel_rfl) rfl) ⟨0, by decide⟩ Tryd.zeroValue3 blk 0 cap d W hp hpo hH' (by omega) (by omega)
  rw [hds] at hcon
  refine hcon.mono ?_
  rintro e w' ⟨rfl, q, rfl⟩
  have hfl : (d.toList.filter fun x : Wf => !(!chB f par x.1)).map (·.1) = L.filter (chB f par) := by
    rw [← hd, List.filter_map]
    congr 2
    funext x
    simp
  have hle : (d.toList.filter fun x : Wf => !(!chB f par x.1)).length ≤ d.size := by
    have := List.length_filter_le (fun x : Wf => !(!chB f par x.1)) d.toList
    rwa [Array.length_toList] at this
  rw [hds] at hle
  generalize (d.toList.filter fun x : Wf => !(!chB f par x.1)) = F at *
  refine ⟨some ⟨blk, 0, none⟩, F.length, cap, rfl, ⟨by rw [← hfl, List.length_map], by omega, fun hpos => ⟨_, rfl, fun j p hj => ⟨[.int .i64 p], rfl, rfl, ?_⟩⟩⟩, by omega, below_putRow hB hblk⟩
  intro i u hu
  obtain ⟨rfl, rfl⟩ : i = 0 ∧ Value.int .i64 p = u := by
    cases i with
    | zero => simpa using hu
    | succ i => simp at hu
  rw [← hfl, List.getElem?_map] at hj
  obtain ⟨x, hx, rfl⟩ := Option.map_eq_some_iff.1 hj
  have hjl : j < F.length := (List.getElem?_eq_some_iff.1 hx).1
  have key := cell?_putRow encW (Sort.ahead W q) blk 0 d ((F ++ List.replicate (L.length - F.length) (⟨0, by decide⟩ : Wf)).toArray) hH' (by simp; omega) j (by simp; omega)
  rw [show j * (Kd.int .i64).sz + 0 = j by show j * 1 + 0 = j; omega, show (⟨blk, 0, none⟩ : Addr).add j = ⟨blk, 0 + j, none⟩ by unfold Addr.add; by_cases h0 : j = 0 <;> simp [h0]]
  refine key.trans ?_
  rw [getElem!_pos _ j (by simp; omega), List.getElem_toArray, List.getElem_append_left hjl]
  rw [List.getElem?_eq_getElem hjl] at hx
  rw [Option.some.inj hx]
  rfl
/-- A row of numbers that is handed back. -/
def FilOut (w w' : World) (e : Ending) (l : List Int) : Prop := ∃ A n q, e = .returned (.slice A n q) ∧ (Kd.int .i64).C w' A n l ∧ n ≤ q ∧ Below w.heap.size w w'
theorem del_row (h : TV w base g m n D B v f last ends) (par : Int) (hq : (Lit.int .i64 par).wf = true) (b1 b2 b3 : Nat) (c1 : w.cell? ⟨b1, 0, none⟩ = some (.func (.func 38) #[] #[.pointer (some ⟨b2, 0, none⟩), .pointer (some ⟨b3, 0, none⟩)])) (c2 : w.cell? ⟨b2, 0, none⟩ = some (.pointer (some ⟨g, 0, none⟩))) (c3 : w.cell? ⟨b3, 0, none⟩ = some (.int .i64 par))
    (W : World) (hB : Below w.heap.size w W) (u : Value) (L : List Int) (hL : ∀ x ∈ L, (Lit.int .i64 x).wf = true) (hrow : W.ownsRow w.heap.size 3 1 u L.length (L.map encZ)) (hlen : L.length ≤ 1000000) :
    Calls Tryd.prog 58 #[u, .func (.func 61) #[] #[.pointer (some ⟨b1, 0, none⟩)]] W fun e w' => FilOut w w' e (L.filter (chB f par)) := by
  rcases hrow.2 with ⟨rfl, hz⟩ | ⟨gb, cap, cur, rfl, hbase, hgb, r1, r2, r3, r4⟩
  · obtain rfl : L = [] := List.eq_nil_of_length_eq_zero hz
    refine (delnil_any _ W).mono ?_
    rintro e w' ⟨rfl, rfl⟩
    exact ⟨none, 0, 0, rfl, ⟨rfl, by omega, fun h => absurd h (Nat.lt_irrefl 0)⟩, Nat.le_refl _, hB⟩
  · refine (del_any h par hq b1 b2 b3 c1 c2 c3 W hB gb cap L hL hbase (holds_of_block_i hgb (by simpa using r4)) r1 hlen).mono ?_
    rintro e w' ⟨A, n1, q1, rfl, h1, h2, h3⟩
    exact ⟨A, n1, q1, rfl, h1, h2, h3⟩
theorem sortsA (k : Nat) : AnyZI.SortsIn Tryd.prog Tryd.sortedA_ren Fence.wide k :=
  ⟨fun blk off cap ss W hH hblk hsz => callsIn_wide.2 (Tryd.slices_Sort_int blk off cap ss W hH hblk hsz), fun p cap W => callsIn_wide.2 (Tryd.slices_Sort_int_none p cap W)⟩
theorem keys_call (mb : Option Nat) (W : World) : Calls Tryd.prog 60 #[.map mb] W fun e w' => e = .returned (.func (.func 68) #[] #[.pointer (some ⟨W.heap.size, 0, none⟩)]) ∧ w' = W.alloc (.cells #[.map mb] 68) :=
  callsIn_wide.1 (AnyZI.keys_in Tryd.keysA Fence.wide 5 trivial rfl mb W)
/-- A row that is the keys, sorted. -/
def SortOut (w w' : World) (e : Ending) (D : Dm) : Prop := ∃ (u : Value) (L : List Int), e = .returned u ∧ L.Perm (intKeys D) ∧ L.Pairwise (fun x y => x ≤ y) ∧ w'.ownsRow w.heap.size 3 1 u L.length (L.map encZ) ∧ Below w.heap.size w w'
set_option maxHeartbeats 1000000 in
theorem sorted_call (h : TV w base g m n D B v f last ends) : Calls Tryd.prog 59 #[.func (.func 68) #[] #[.pointer (some ⟨w.heap.size, 0, none⟩)]] (w.alloc (.cells #[.map (some m)] 68)) fun e w' => SortOut (w.alloc (.cells #[.map (some m)] 68)) w' e D := by
  have hbl := h.own.lt
  have hsz : Maps.size D ≤ 1000000 := Nat.le_trans h.own.size_le (by have := h.cnt; have := h.lmt; omega)
  have hown2 : (w.alloc (.cells #[.map (some m)] 68)).ownsMap Tryd.prog 3 Rp m n D := own_below h.own (below_alloc (Below.refl _ _) _)
  have hseq : SeqGives Fence.wide 2 Tryd.prog 68 #[.pointer (some ⟨w.heap.size, 0, none⟩)] encZ (fun ss => ss.Perm (intKeys D)) (Maps.size D) (w.alloc (.cells #[.map (some m)] 68)) :=
    AnyZI.keys_gives (ρ := Tryd.keysA_ren) { Tryd.keysA with } Fence.wide _ trivial rfl (by omega) w.heap.size m n D _ (by simp) (by simp) hown2
  have cS := AnyZI.sorted_in Tryd.sortedA Fence.wide 5 trivial trivial trivial trivial rfl (by omega) (sortsA _) (enters_of Tryd.func67 (by kernel_rfl) rfl) 68 #[.pointer (some ⟨w.heap.size, 0, none⟩)] trivial (enters_of Tryd.func68 (by kernel_rfl) rfl) _ _ (by unfold maxLen; omega) (by omega) _ hseq
  change CallsIn _ _ Tryd.prog 59 _ _ _ at cS
  refine (callsIn_wide.1 cS).mono ?_
  rintro e w' ⟨u, ss, rfl, hS, hrow, _, hb⟩
  have hlen : ss.length = (ss.mergeSort fun x y => decide (x ≤ y)).length := (List.length_mergeSort _).symm
  refine ⟨u, ss.mergeSort (fun x y => decide (x ≤ y)), rfl, (List.mergeSort_perm _ _).trans hS, ?_, by rw [← hlen]; exact hrow, hb⟩
  refine (List.pairwise_mergeSort (le := fun x y => decide (x ≤ y)) ?_ ?_ ss).imp ?_
  · intro a b c h1 h2
    simp only [decide_eq_true_eq] at *
    exact Int.le_trans h1 h2
  · intro a b
    simp only [Bool.or_eq_true, decide_eq_true_eq]
    exact Int.le_total a b
  · intro a b h1
    exact of_decide_eq_true h1
theorem keys_len (D : Dm) : (intKeys D).length = Maps.size D := by
  cases D <;> simp [intKeys, Maps.size]
/-- The keys that are such, sorted. -/
def KeysOut (w w' : World) (e : Ending) (p : Int → Bool) (D : Dm) : Prop := ∃ (A : Option Addr) (n q : Nat) (L : List Int), e = .returned (.slice A n q) ∧ (Kd.int .i64).C w' A n (L.filter p) ∧ n ≤ q ∧ L.Perm (intKeys D) ∧ L.Pairwise (fun x y => x ≤ y) ∧ Below w.heap.size w w'
set_option maxHeartbeats 2000000 in
set_option maxRecDepth 100000 in
theorem some_ch (h : TV w base g m n D B v f last ends) (par : Int) (hq : (Lit.int .i64 par).wf = true) (b2 b3 : Nat) (c2 : w.cell? ⟨b2, 0, none⟩ = some (.pointer (some ⟨g, 0, none⟩))) (c3 : w.cell? ⟨b3, 0, none⟩ = some (.int .i64 par)) :
    Calls Tryd.prog 37 #[.pointer (some ⟨g, 0, none⟩), .func (.func 38) #[] #[.pointer (some ⟨b2, 0, none⟩), .pointer (some ⟨b3, 0, none⟩)]] w fun e w' => KeysOut w w' e (chB f par) D := by
  have HQ := Aside0.mk hq
  have hB1 := below_alloc (Below.refl w.heap.size w) (.cells #[.func (.func 38) #[] #[.pointer (some ⟨b2, 0, none⟩), .pointer (some ⟨b3, 0, none⟩)]] 55)
  have HG1 := Aside0.mk (blk_new w (.cells #[.func (.func 38) #[] #[.pointer (some ⟨b2, 0, none⟩), .pointer (some ⟨b3, 0, none⟩)]] 55))
  have HT1 := Aside0.mk (h.below hB1)
  have C2 := Aside0.mk (pw_cell_below hB1 c2)
  have C3 := Aside0.mk (pw_cell_below hB1 c3)
  have HB1 := Aside0.mk hB1
  clear h hq c2 c3 hB1
  go_enter Tryd.func37, Tryd.ntmps37
  go_upto_region 1 with (fail)
  generalize w.alloc (.cells #[.func (.func 38) #[] #[.pointer (some ⟨b2, 0, none⟩), .pointer (some ⟨b3, 0, none⟩)]] 55) = w1 at *
  have c0 : w1.cell? ⟨g, 0, none⟩ = some (.map (some m)) := (blk_cell HT1.out.hg 0).trans rfl
  have HB2 := Aside0.mk (below_alloc (Below.refl w1.heap.size w1) (.cells #[.map (some m)] 68))
  have C1 := Aside0.mk ((blk_cell HG1.out 0).trans rfl : w1.cell? ⟨w.heap.size, 0, none⟩ = some (.func (.func 38) #[] #[.pointer (some ⟨b2, 0, none⟩), .pointer (some ⟨b3, 0, none⟩)]))
  go_wp2_with (first
    | (go_at_call 60; (with_reducible refine (keys_call (some m) w1).mono ?_); rintro e w2 ⟨rfl, rfl⟩)
    | (go_at_call 59; (with_reducible refine (sorted_call HT1.out).mono ?_); rintro e w3 ⟨u, L, rfl, hP, hW, hrow, hb⟩; have H1 := Aside0.mk hP; have H2 := Aside0.mk hW; have H3 := Aside0.mk hrow; have H4 := Aside0.mk hb; clear hP hW hrow hb)
    | (go_at_call 58; (with_reducible refine (del_row (HT1.out.below HB2.out) par HQ.out w.heap.size b2 b3 (pw_cell_below HB2.out C1.out) (pw_cell_below HB2.out C2.out) (pw_cell_below HB2.out C3.out) w3 H4.out u L (fun x hx => intKeys_wf HT1.out.own Tryd.underlying3 x (H1.out.mem_iff.1 hx)) H3.out (by rw [H1.out.length_eq, keys_len]; exact Nat.le_trans HT1.out.own.size_le (by have := HT1.out.cnt; have := HT1.out.lmt; omega))).mono ?_); rintro e w4 ⟨A, n1, q1, rfl, hC, hq, hb⟩; have H5 := Aside0.mk hC; have H6 := Aside0.mk hq; have H7 := Aside0.mk hb; clear hC hq hb))
  go_ret
  exact ⟨A, n1, q1, L, rfl, H5.out, H6.out, H1.out, H2.out, HB1.out.trans ((HB2.out.trans (H7.out.mono HB2.out.size)).mono HB1.out.size)⟩
set_option maxHeartbeats 2000000 in
set_option maxRecDepth 100000 in
theorem children_any (h : TV w base g m n D B v f last ends) (par : Int) (hq : (Lit.int .i64 par).wf = true) :
    Calls Tryd.prog 12 #[.pointer (some ⟨g, 0, none⟩), .int .i64 par] w fun e w' => KeysOut w w' e (chB f par) D := by
  have hB := below_alloc (below_alloc (Below.refl w.heap.size w) (.cells #[.pointer (some ⟨g, 0, none⟩)] 23)) (.cells #[.int .i64 par] 3)
  have HT1 := Aside0.mk (h.below hB)
  have hG2 := blk_below (blk_new w (.cells #[.pointer (some ⟨g, 0, none⟩)] 23)) (below_alloc (Below.refl _ _) (.cells #[.int .i64 par] 3))
  have hG3 := blk_new (w.alloc (.cells #[.pointer (some ⟨g, 0, none⟩)] 23)) (.cells #[.int .i64 par] 3)
  rw [show (w.alloc (.cells #[.pointer (some ⟨g, 0, none⟩)] 23)).heap.size = w.heap.size + 1 by simp] at hG3
  have HQ := Aside0.mk hq
  have HB := Aside0.mk hB
  clear h hq hB
  go_enter Tryd.func12, Tryd.ntmps12
  go_upto_region 1 with (fail)
  generalize (w.alloc (.cells #[.pointer (some ⟨g, 0, none⟩)] 23)).alloc (.cells #[.int .i64 par] 3) = w1 at *
  have c2 : w1.cell? ⟨w.heap.size, 0, none⟩ = some (.pointer (some ⟨g, 0, none⟩)) := (blk_cell hG2 0).trans rfl
  have c3 : w1.cell? ⟨w.heap.size + 1, 0, none⟩ = some (.int .i64 par) := (blk_cell hG3 0).trans rfl
  clear hG2 hG3
  generalize w.heap.size + 1 = b3 at *
  go_wp2_with (go_at_call 37; (with_reducible refine (some_ch HT1.out par HQ.out w.heap.size b3 c2 c3).mono ?_); rintro e w2 ⟨A, n1, q1, L, rfl, hC, hq, hP, hW, hb⟩; have H1 := Aside0.mk hC; have H2 := Aside0.mk hq; have H3 := Aside0.mk hP; have H4 := Aside0.mk hW; have H5 := Aside0.mk hb; clear hC hq hP hW hb)
  go_ret
  exact ⟨A, n1, q1, L, rfl, H1.out, H2.out, H3.out, H4.out, HB.out.trans (H5.out.mono HB.out.size)⟩
end
end Go.Proofs.YtbgodajbdbgdfaaDoor.Kern
