/- texts of this claim, one behind the other: ProcProcs TwinPure -/
import Derived.Test.YtbgodajbdbgdfaaDoorG2
/- kern: Procs: its contract. -/
namespace Go.Proofs.YtbgodajbdbgdfaaDoor.Kern
open Go.RowKit Go.Proofs.YtbgodajbdbgdfaaDoorW.PrintWords Go.Proofs.YtbgodajbdbgdfaaDoorW.PrintLast Go.Proofs.YtbgodajbdbgdfaaDoor.Sig Go.Proofs.YtbgodajbdbgdfaaDoor.Base Go.Proofs.YtbgodajbdbgdfaaDoor.Seq Go.Maps Go.Sort Go.Lib
set_option linter.unusedVariables false
set_option linter.unusedSimpArgs false
section
variable {w : World} {base g m n : Nat} {X : Gh} {D : Dm} {B : Int → Nat} {v : Value} {f : Tb} {last : Int} {ends : List (Int × Int)}
set_option maxHeartbeats 2000000 in
set_option maxRecDepth 100000 in
theorem soml_any (h : TV w base X g m n D B v f last ends) (x : Int) (hp : (Lit.int .i64 x).wf = true) (b1 : Nat) (c1 : w.cell? ⟨b1, 0, none⟩ = some (.func (.func 24) #[.pointer (some ⟨g, 0, none⟩)] #[])) :
    Calls Tryd.prog 61 #[.int .i64 x, .pointer (some ⟨b1, 0, none⟩)] w fun e w' => e = .returned (.bool (!liv f x)) ∧ w = w' := by
  have H := Aside0.mk h
  have HP := Aside0.mk hp
  clear h hp
  go_enter Tryd.func61, Tryd.ntmps61
  go_wp2_with ((with_reducible refine (liv_any H.out x HP.out).mono ?_); rintro e w1 ⟨rfl, rfl⟩)
  go_ret
  exact ⟨rfl, rfl⟩
theorem dell_any (h : TV w base X g m n D B v f last ends) (b1 : Nat) (c1 : w.cell? ⟨b1, 0, none⟩ = some (.func (.func 24) #[.pointer (some ⟨g, 0, none⟩)] #[]))
    (W : World) (hB : Below w.heap.size w W) (blk cap : Nat) (L : List Int) (hL : ∀ x ∈ L, (Lit.int .i64 x).wf = true) (hblk : w.heap.size ≤ blk) (hH : Holds encZ W blk 0 L.toArray) (hcap : L.length ≤ cap) (hlen : L.length ≤ 1000000) :
    Calls Tryd.prog 58 #[.slice (some ⟨blk, 0, none⟩) L.length cap, .func (.func 61) #[] #[.pointer (some ⟨b1, 0, none⟩)]] W fun e w' =>
      ∃ A n1 q1, e = .returned (.slice A n1 q1) ∧ (Kd.int .i64).C w' A n1 (L.filter (liv f)) ∧ n1 ≤ q1 ∧ Below w.heap.size w w' := by
  obtain ⟨d, hd⟩ : ∃ d : Array Wf, d.toList.map (·.1) = L := ⟨(L.pmap (fun x hx => (⟨x, hx⟩ : Wf)) hL).toArray, by rw [List.toList_toArray]; exact pmap_val L hL⟩
  have hds : d.size = L.length := by rw [← hd, List.length_map, Array.length_toList]
  have hget : ∀ j, (hj : j < d.size) → (d[j]!).1 = L.toArray[j]! := by
    intro j hj
    have hj2 : j < L.length := by omega
    rw [getElem!_pos d j hj, getElem!_pos L.toArray j (by simpa using hj2)]
    simp only [List.getElem_toArray]
    have : (d.toList.map (·.1))[j]'(by simpa using hj) = L[j] := by simp only [hd]
    rw [← this]
    simp
  have hp : PredAt Tryd.prog 61 #[.pointer (some ⟨b1, 0, none⟩)] encW (fun x => !liv f x.1) W := fun W' x hb' => by
    have hbb := hB.trans (hb'.mono hB.size)
    refine (soml_any (h.below hbb) x.1 x.2 b1 (pw_cell_below hbb c1)).mono ?_
    rintro e w' ⟨rfl, rfl⟩
    exact ⟨rfl, 0, rfl⟩
  have hpo : PredOver Tryd.prog 61 #[.pointer (some ⟨b1, 0, none⟩)] encW (fun x => !liv f x.1) blk 0 d.size W := fun k os dk x _ => by
    have hbb : Below w.heap.size w (sortWorld encW W blk 0 k dk os) := below_sorted hB hblk
    refine (soml_any (h.below hbb) x.1 x.2 b1 (pw_cell_below hbb c1)).mono ?_
    rintro e w' ⟨rfl, rfl⟩
    exact ⟨rfl, 0, rfl⟩
  have hH' : Holds encW W blk 0 d := fun j hj => by
    have := hH j (by simpa using (show j < L.length by omega))
    rw [← hget j hj] at this
    exact this
  have hcon := Tryd.slices_DeleteFunc encW (fun _ => rfl) (fun x => !liv f x.1) 61 #[.pointer (some ⟨b1, 0, none⟩)] (enters_of Tryd.func61 (by kernel_rfl) rfl) ⟨0, by decide⟩ Tryd.zeroValue3 blk 0 cap d W hp hpo hH' (by omega) (by omega)
  rw [hds] at hcon
  refine hcon.mono ?_
  rintro e w' ⟨rfl, q, rfl⟩
  have hfl : (d.toList.filter fun x : Wf => !(!liv f x.1)).map (·.1) = L.filter (liv f) := by
    rw [← hd, List.filter_map]
    congr 2
    funext x
    simp
  have hle : (d.toList.filter fun x : Wf => !(!liv f x.1)).length ≤ d.size := by
    have := List.length_filter_le (fun x : Wf => !(!liv f x.1)) d.toList
    rwa [Array.length_toList] at this
  rw [hds] at hle
  generalize (d.toList.filter fun x : Wf => !(!liv f x.1)) = F at *
  refine ⟨some ⟨blk, 0, none⟩, F.length, cap, rfl, ⟨by rw [← hfl, List.length_map], by omega, fun hpos => ⟨_, rfl, fun j p hj => ⟨[.int .i64 p], rfl, rfl, ?_⟩⟩⟩, by omega, below_putRow hB hblk⟩
  intro i u hu
  obtain ⟨rfl, rfl⟩ : i = 0 ∧ Value.int .i64 p = u := by
    cases i with
    | zero => simpa using hu
    | succ i => simp at hu
  rw [← hfl, List.getElem?_map] at hj
  obtain ⟨x, hx, rfl⟩ := Option.map_eq_some_iff.1 hj
  have hjl : j < F.length := (List.getElem?_eq_some_iff.1 hx).1
  have key := cell?_putRow encW (Sort.ahead W q) blk 0 d ((F ++ List.replicate (L.length - F.length) (⟨0, by decide⟩ : Wf)).toArray) hH' (by simp; omega) j (by simp; omega)
  rw [show j * (Kd.int .i64).sz + 0 = j by show j * 1 + 0 = j; omega, show (⟨blk, 0, none⟩ : Addr).add j = ⟨blk, 0 + j, none⟩ by unfold Addr.add; by_cases h0 : j = 0 <;> simp [h0]]
  refine key.trans ?_
  rw [getElem!_pos _ j (by simp; omega), List.getElem_toArray, List.getElem_append_left hjl]
  rw [List.getElem?_eq_getElem hjl] at hx
  rw [Option.some.inj hx]
  rfl
theorem dell_row (h : TV w base X g m n D B v f last ends) (b1 : Nat) (c1 : w.cell? ⟨b1, 0, none⟩ = some (.func (.func 24) #[.pointer (some ⟨g, 0, none⟩)] #[]))
    (W : World) (hB : Below w.heap.size w W) (u : Value) (L : List Int) (hL : ∀ x ∈ L, (Lit.int .i64 x).wf = true) (hrow : W.ownsRow w.heap.size 3 1 u L.length (L.map encZ)) (hlen : L.length ≤ 1000000) :
    Calls Tryd.prog 58 #[u, .func (.func 61) #[] #[.pointer (some ⟨b1, 0, none⟩)]] W fun e w' => FilOut w w' e (L.filter (liv f)) := by
  rcases hrow.2 with ⟨rfl, hz⟩ | ⟨gb, cap, cur, rfl, hbase, hgb, r1, r2, r3, r4⟩
  · obtain rfl : L = [] := List.eq_nil_of_length_eq_zero hz
    refine (delnil_any _ W).mono ?_
    rintro e w' ⟨rfl, rfl⟩
    exact ⟨none, 0, 0, rfl, ⟨rfl, by omega, fun h => absurd h (Nat.lt_irrefl 0)⟩, Nat.le_refl _, hB⟩
  · refine (dell_any h b1 c1 W hB gb cap L hL hbase (holds_of_block_i hgb (by simpa using r4)) r1 hlen).mono ?_
    rintro e w' ⟨A, n1, q1, rfl, h1, h2, h3⟩
    exact ⟨A, n1, q1, rfl, h1, h2, h3⟩
set_option maxHeartbeats 2000000 in
set_option maxRecDepth 100000 in
theorem some_lv (h : TV w base X g m n D B v f last ends) :
    Calls Tryd.prog 37 #[.pointer (some ⟨g, 0, none⟩), .func (.func 24) #[.pointer (some ⟨g, 0, none⟩)] #[]] w fun e w' => KeysOut w w' e (liv f) D := by
  have hB1 := below_alloc (Below.refl w.heap.size w) (.cells #[.func (.func 24) #[.pointer (some ⟨g, 0, none⟩)] #[]] 55)
  have HG1 := Aside0.mk (blk_new w (.cells #[.func (.func 24) #[.pointer (some ⟨g, 0, none⟩)] #[]] 55))
  have HT1 := Aside0.mk (h.below hB1)
  have HB1 := Aside0.mk hB1
  clear h hB1
  go_enter Tryd.func37, Tryd.ntmps37
  go_upto_region 1 with (fail)
  generalize w.alloc (.cells #[.func (.func 24) #[.pointer (some ⟨g, 0, none⟩)] #[]] 55) = w1 at *
  have c0 : w1.cell? ⟨g, 0, none⟩ = some (.map (some m)) := (blk_cell HT1.out.hg 0).trans rfl
  have HB2 := Aside0.mk (below_alloc (Below.refl w1.heap.size w1) (.cells #[.map (some m)] 68))
  have C1 := Aside0.mk ((blk_cell HG1.out 0).trans rfl : w1.cell? ⟨w.heap.size, 0, none⟩ = some (.func (.func 24) #[.pointer (some ⟨g, 0, none⟩)] #[]))
  go_wp2_with (first
    | (go_at_call 60; (with_reducible refine (keys_call (some m) w1).mono ?_); rintro e w2 ⟨rfl, rfl⟩)
    | (go_at_call 59; (with_reducible refine (sorted_call HT1.out).mono ?_); rintro e w3 ⟨u, L, rfl, hP, hW, hrow, hb⟩; have H1 := Aside0.mk hP; have H2 := Aside0.mk hW; have H3 := Aside0.mk hrow; have H4 := Aside0.mk hb; clear hP hW hrow hb)
    | (go_at_call 58; (with_reducible refine (dell_row (HT1.out.below HB2.out) w.heap.size (pw_cell_below HB2.out C1.out) w3 H4.out u L (fun x hx => intKeys_wf HT1.out.own Tryd.underlying3 x (H1.out.mem_iff.1 hx)) H3.out (by rw [H1.out.length_eq, keys_len]; exact Nat.le_trans HT1.out.own.size_le (by have := HT1.out.cnt; have := HT1.out.lmt; omega))).mono ?_); rintro e w4 ⟨A, n1, q1, rfl, hC, hq, hb⟩; have H5 := Aside0.mk hC; have H6 := Aside0.mk hq; have H7 := Aside0.mk hb; clear hC hq hb))
  go_ret
  exact ⟨A, n1, q1, L, rfl, H5.out, H6.out, H1.out, H2.out, HB1.out.trans ((HB2.out.trans (H7.out.mono HB2.out.size)).mono HB1.out.size)⟩
set_option maxHeartbeats 2000000 in
set_option maxRecDepth 100000 in
theorem procs_any (h : TV w base X g m n D B v f last ends) :
    Calls Tryd.prog 43 #[.pointer (some ⟨g, 0, none⟩)] w fun e w' => KeysOut w w' e (liv f) D := by
  have HT := Aside0.mk h
  clear h
  go_enter Tryd.func43, Tryd.ntmps43
  go_wp2_with (go_at_call 37; (with_reducible refine (some_lv HT.out).mono ?_); rintro e w2 ⟨A, n1, q1, L, rfl, hC, hq, hP, hW, hb⟩; have H1 := Aside0.mk hC; have H2 := Aside0.mk hq; have H3 := Aside0.mk hP; have H4 := Aside0.mk hW; have H5 := Aside0.mk hb; clear hC hq hP hW hb)
  go_ret
  exact ⟨A, n1, q1, L, rfl, H1.out, H2.out, H3.out, H4.out, H5.out⟩
end
end Go.Proofs.YtbgodajbdbgdfaaDoor.Kern
/- kern beside the document: the sorted keys are the list's pids; the rows of ends are the same. -/
namespace Go.Proofs.YtbgodajbdbgdfaaDoor.Kern
open Go.RowKit Go.Proofs.YtbgodajbdbgdfaaDoorW.PrintWords Go.Proofs.YtbgodajbdbgdfaaDoorW.PrintLast Go.Proofs.YtbgodajbdbgdfaaDoor.Sig Go.Proofs.YtbgodajbdbgdfaaDoor.Base Go.Proofs.YtbgodajbdbgdfaaDoor.Seq Go.Proofs.YtbgodajbdbgdfaaDoor.V Go.Maps
set_option linter.unusedVariables false
set_option linter.unusedSimpArgs false
abbrev pidsL (L : List S) : List Int := L.map (fun x => x.f0)
section
variable {w : World} {base g m n : Nat} {X : Gh} {D : Dm} {B : Int → Nat} {v : Value} {f : Tb} {last : Int} {ends : List (Int × Int)} {L : List S} {es : List SE}
theorem pids_lt (h : Rel f L) : (pidsL L).Pairwise (fun x y => x < y) := by
  rw [List.pairwise_map]
  exact h.asc
theorem pids_nodup (h : Rel f L) : (pidsL L).Nodup := by
  rw [List.nodup_iff_pairwise_ne]
  exact (pids_lt h).imp (fun hxy e => by rw [e] at hxy; exact Int.lt_irrefl _ hxy)
theorem pids_mem (h : Rel f L) : ∀ q, q ∈ pidsL L ↔ f q ≠ none := by
  intro q
  rw [List.mem_map]
  constructor
  · rintro ⟨x, hx, rfl⟩
    obtain ⟨q, r, hf, rfl⟩ := (h.mem x).1 hx
    show f q ≠ none
    rw [hf]; simp
  · intro hq
    cases hf : f q with
    | none => exact absurd hf hq
    | some r => exact ⟨mkS q r, (h.mem _).2 ⟨q, r, hf, rfl⟩, rfl⟩
theorem keysP (hT : TV w base X g m n D B v f last ends) (l : List Int) (hnd : l.Nodup) (hL : ∀ q, q ∈ l ↔ f q ≠ none) : l.Perm (intKeys D) := by
  obtain ⟨es, e, hap, hk⟩ := keys_int hT
  have hhas : ∀ q, Maps.has D (.int .i64 q) = true ↔ f q ≠ none := by
    intro q
    constructor
    · intro h1 h2
      rw [hT.no q h2] at h1
      cases h1
    · intro h1
      cases hf : f q with
      | none => exact absurd hf h1
      | some r => exact has_true_of_atKey (hT.yes q r hf).key
  rw [e]
  refine perm_intKeys hap hk hnd (fun x => ?_)
  rw [hL x, ← hhas x, e]
theorem keys_eq (hT : TV w base X g m n D B v f last ends) (h : Rel f L) {l : List Int} (hp : l.Perm (intKeys D)) (hs : l.Pairwise (fun x y => x ≤ y)) : l = pidsL L := by
  refine List.Perm.eq_of_pairwise (le := fun x y => x ≤ y) (fun a b _ _ h1 h2 => Int.le_antisymm h1 h2) hs ((pids_lt h).imp (fun hxy => Int.le_of_lt hxy)) ?_
  exact hp.trans (keysP hT _ (pids_nodup h) (pids_mem h)).symm
theorem size_eqL (hT : TV w base X g m n D B v f last ends) (h : Rel f L) : Maps.size D = L.length := by
  have := size_of hT (pidsL L) (pids_nodup h) (pids_mem h)
  rwa [List.length_map] at this
theorem procs_eq (h : Rel f L) : (pidsL L).filter (liv f) = (L.filter (fun x => x.f3)).map (fun x => x.f0) := by
  unfold pidsL
  rw [List.filter_map]
  congr 1
  refine List.filter_congr ?_
  intro x hx
  exact rel_live h hx
theorem chil_eq (par : Int) : (pidsL L).filter (chB f par) = (L.filter (fun x => chB f par x.f0)).map (fun x => x.f0) := by
  unfold pidsL
  rw [List.filter_map]
  rfl
abbrev prE (x : SE) : Int × Int := (x.f0, x.f1)
theorem ends_C {A : Option Addr} {k : Nat} (h : kEnd.C w A k (es.map prE)) : Kd.C k73 w A k es := by
  obtain ⟨h1, h2, h3⟩ := h
  refine ⟨by rw [← h1, List.length_map], h2, fun hk => ?_⟩
  obtain ⟨ad, e1, e2⟩ := h3 hk
  refine ⟨ad, e1, fun j p hj => ?_⟩
  exact e2 j (prE p) (by rw [List.getElem?_map, hj]; rfl)
set_option maxHeartbeats 2000000 in
theorem ends_any2 (h : TV w base X g m n D B v f last (es.map prE)) (hl : es.length ≤ 1000000) :
    Calls Tryd.prog 11 #[.pointer (some ⟨g, 0, none⟩)] w fun e w' => ∃ A n c, e = .returned (.slice A n c) ∧ Kd.C k73 w' A n es ∧ n ≤ c ∧ Below w.heap.size w w' := by
  refine (ends_any h (by rw [List.length_map]; exact hl)).mono ?_
  rintro e w' ⟨A, c, rfl, hC, hc, hB⟩
  exact ⟨A, _, c, rfl, ends_C hC, hc, hB⟩
end
theorem sints_any (l : List Int) (hl : l.length ≤ 1000000) (w : World) (A B : Option Addr) (n k c d : Nat) (h1 : (Kd.int .i64).C w A n l) (hc : n ≤ c) (h2 : (Kd.int .i64).C w B k l) (hd : k ≤ d) :
    Calls Tryd.prog 42 #[.slice A n c, .slice B k d] w fun e w' => e = .returned (.bool true) ∧ Below w.heap.size w w' := by
  obtain rfl := h1.1
  obtain rfl := h2.1
  obtain ⟨K, hK⟩ := sints_ev l hl
  exact (deadfallref12_SameInts.calls K A c l B d l true w h1 hc h2 hd (hK K (Nat.le_refl _))).mono fun e w' q => ⟨q.1, q.2.below⟩
theorem sends_any (l : List SE) (hl : l.length ≤ 1000000) (w : World) (A B : Option Addr) (n k c d : Nat) (h1 : Kd.C k73 w A n l) (hc : n ≤ c) (h2 : Kd.C k73 w B k l) (hd : k ≤ d) :
    Calls Tryd.prog 45 #[.slice A n c, .slice B k d] w fun e w' => e = .returned (.bool true) ∧ Below w.heap.size w w' := by
  obtain rfl := h1.1
  obtain rfl := h2.1
  obtain ⟨K, hK⟩ := sends_ev l hl
  exact (deadfallref12_SameEnds.calls K A c l B d l true w h1 hc h2 hd (hK K (Nat.le_refl _))).mono fun e w' q => ⟨q.1, q.2.below⟩
end Go.Proofs.YtbgodajbdbgdfaaDoor.Kern
