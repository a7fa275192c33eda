/- Types that are nested in each other: what holds of a kind over the fixed point holds over some depth, and the other way round. -/
import Derived.Test.YtbgodajbdbgdfaaDoorWWords
namespace Go.Proofs.YtbgodajbdbgdfaaDoor.Nest
open Go.RowKit Go.Proofs.YtbgodajbdbgdfaaDoorW.PrintWords
set_option linter.unusedVariables false
/-- What holds over the fixed point holds at some depth. -/
structure Cont {α β : Type} (F : Kd α → Kd α) (sz : Nat) (E : List Nat) (hs : ∀ n, (Kd.upto F sz E n).sz = sz) (hE : ∀ n q, q ∈ (Kd.upto F sz E n).E → q ∈ E) (G : Kd α → Kd β) : Prop where
  K : ∀ {w x cs}, (G (Kd.fix F sz E hs hE)).K w x cs → ∃ n, (G (Kd.upto F sz E n)).K w x cs
  M : ∀ {w base ok x cs}, (G (Kd.fix F sz E hs hE)).M w base ok x cs → ∃ n, (G (Kd.upto F sz E n)).M w base ok x cs
section
variable {α β γ : Type} {F : Kd α → Kd α} {sz : Nat} {E : List Nat} {hs : ∀ n, (Kd.upto F sz E n).sz = sz} {hE : ∀ n q, q ∈ (Kd.upto F sz E n).E → q ∈ E}
theorem G_K_le {G : Kd α → Kd β} (hm : Kd.Mono F) (hs : ∀ n, (Kd.upto F sz E n).sz = sz) (hG : Kd.Mono G) {n m : Nat} (hnm : n ≤ m) {w x cs} (h : (G (Kd.upto F sz E n)).K w x cs) : (G (Kd.upto F sz E m)).K w x cs :=
  hG.K _ _ (by rw [hs n, hs m]) (fun _ _ _ hp => Kd.upto_K_le hm hs hnm hp) _ _ _ h
theorem G_M_le {G : Kd α → Kd β} (hm : Kd.Mono F) (hs : ∀ n, (Kd.upto F sz E n).sz = sz) (hG : Kd.Mono G) {n m : Nat} (hnm : n ≤ m) {w base ok x cs} (h : (G (Kd.upto F sz E n)).M w base ok x cs) : (G (Kd.upto F sz E m)).M w base ok x cs :=
  hG.M _ _ (by rw [hs n, hs m]) (fun _ _ _ _ _ hp => Kd.upto_M_le hm hs hnm hp) _ _ _ _ _ h
theorem cont_const (k : Kd β) : Cont F sz E hs hE (fun _ : Kd α => k) := ⟨fun h => ⟨0, h⟩, fun h => ⟨0, h⟩⟩
theorem cont_id : Cont F sz E hs hE (fun d : Kd α => d) := ⟨fun h => h, fun h => h⟩
theorem cont_iso {G : Kd α → Kd β} (f : γ → β) (hG : Cont F sz E hs hE G) : Cont F sz E hs hE (fun d => Kd.iso (G d) f) := ⟨fun h => hG.K h, fun h => hG.M h⟩
theorem cont_pair {G : Kd α → Kd β} {H : Kd α → Kd γ} (hm : Kd.Mono F) (mG : Kd.Mono G) (mH : Kd.Mono H) (hG : Cont F sz E hs hE G) (hH : Cont F sz E hs hE H) : Cont F sz E hs hE (fun d => Kd.pair (G d) (H d)) := by
  refine ⟨?_, ?_⟩
  · rintro w x cs ⟨c0, c1, rfl, h0, h1⟩
    obtain ⟨n, h0⟩ := hG.K h0
    obtain ⟨m, h1⟩ := hH.K h1
    exact ⟨max n m, c0, c1, rfl, G_K_le hm hs mG (Nat.le_max_left _ _) h0, G_K_le hm hs mH (Nat.le_max_right _ _) h1⟩
  · rintro w base ok x cs ⟨c0, c1, rfl, h0, h1⟩
    obtain ⟨n, h0⟩ := hG.M h0
    obtain ⟨m, h1⟩ := hH.M h1
    exact ⟨max n m, c0, c1, rfl, G_M_le hm hs mG (Nat.le_max_left _ _) h0, G_M_le hm hs mH (Nat.le_max_right _ _) h1⟩
theorem fixG_C {G : Kd α → Kd β} (hG : Kd.Mono G) {n : Nat} {w : World} {A : Option Addr} {m : Nat} {xs : List β} (h : (G (Kd.upto F sz E n)).C w A m xs) : (G (Kd.fix F sz E hs hE)).C w A m xs :=
  Kd.C_imp (hG.sz _ _ (hs n)) (hG.K _ _ (hs n) (fun w x cs hp => (⟨n, hp⟩ : ∃ n, (Kd.upto F sz E n).K w x cs))) h
theorem fixG_R {G : Kd α → Kd β} (hG : Kd.Mono G) {n : Nat} {e : Nat} {w : World} {base : Nat} {ok : Nat → Prop} {v : Value} {xs : List β} (h : (G (Kd.upto F sz E n)).R e w base ok v xs) : (G (Kd.fix F sz E hs hE)).R e w base ok v xs :=
  Kd.R_imp (hG.sz _ _ (hs n)) (hG.M _ _ (hs n) (fun w base ok x cs hp => (⟨n, hp⟩ : ∃ n, (Kd.upto F sz E n).M w base ok x cs))) h
theorem back_R {G : Kd α → Kd β} (hm : Kd.Mono F) (mG : Kd.Mono G) (hG : Cont F sz E hs hE G) {e : Nat} {w : World} {base : Nat} {ok : Nat → Prop} {v : Value} {xs : List β} (h : (G (Kd.fix F sz E hs hE)).R e w base ok v xs) : ∃ n, (G (Kd.upto F sz E n)).R e w base ok v xs := by
  obtain ⟨h0, inner, ho, hr⟩ := h
  obtain ⟨N, hN⟩ := Kd.reps_bounded (R := fun n p c => (G (Kd.upto F sz E n)).M w base (fun k => ok k ∧ some k ≠ v.ownBlock) p c) (fun n m p c hnm hp => G_M_le hm hs mG hnm hp) (hr.imp_ (fun _ _ hp => hG.M hp))
  have e1 : (G (Kd.upto F sz E N)).sz = (G (Kd.fix F sz E hs hE)).sz := mG.sz _ _ (hs N)
  refine ⟨N, h0, inner, ?_, ?_⟩
  · rw [e1]; exact ho
  · rw [e1]; exact hN
theorem back_C {G : Kd α → Kd β} (hm : Kd.Mono F) (mG : Kd.Mono G) (hG : Cont F sz E hs hE G) {w : World} {A : Option Addr} {m : Nat} {xs : List β} (h : (G (Kd.fix F sz E hs hE)).C w A m xs) : ∃ n, (G (Kd.upto F sz E n)).C w A m xs := by
  rcases Nat.eq_zero_or_pos m with hz | hpos
  · subst hz
    exact ⟨0, h.1, h.2.1, fun hp => absurd hp (Nat.lt_irrefl 0)⟩
  · obtain ⟨ad, e, hc⟩ := h.2.2 hpos
    have e1 : ∀ N, (G (Kd.upto F sz E N)).sz = (G (Kd.fix F sz E hs hE)).sz := fun N => mG.sz _ _ (hs N)
    obtain ⟨N, hN⟩ := Kd.bounded (P := fun n j => ∀ p, xs[j]? = some p → ∃ c, c.length = (G (Kd.fix F sz E hs hE)).sz ∧ (G (Kd.upto F sz E n)).K w p c ∧ ∀ i u, c[i]? = some u → w.cell? (ad.add (j * (G (Kd.fix F sz E hs hE)).sz + i)) = some u)
      (fun n n' j hnm hp p hj => by
        obtain ⟨c, h1, h2, h3⟩ := hp p hj
        exact ⟨c, h1, G_K_le hm hs mG hnm h2, h3⟩) xs.length
      (fun j hj => by
        obtain ⟨c, h1, h2, h3⟩ := hc j _ (List.getElem?_eq_getElem hj)
        obtain ⟨n, h2⟩ := hG.K h2
        refine ⟨n, fun p hp => ?_⟩
        rw [List.getElem?_eq_getElem hj] at hp
        injection hp with hp
        rw [← hp]
        exact ⟨c, h1, h2, h3⟩)
    refine ⟨N, h.1, h.2.1, fun _ => ⟨ad, e, fun j p hj => ?_⟩⟩
    rw [e1 N]
    exact hN j (List.getElem?_eq_some_iff.1 hj).1 p hj
theorem le_R {G : Kd α → Kd β} (hm : Kd.Mono F) (hs : ∀ n, (Kd.upto F sz E n).sz = sz) (mG : Kd.Mono G) {n m : Nat} (hnm : n ≤ m) {e : Nat} {w : World} {base : Nat} {ok : Nat → Prop} {v : Value} {xs : List β} (h : (G (Kd.upto F sz E n)).R e w base ok v xs) : (G (Kd.upto F sz E m)).R e w base ok v xs :=
  Kd.R_imp (mG.sz _ _ (by rw [hs n, hs m])) (fun _ _ _ _ _ hp => G_M_le hm hs mG hnm hp) h
theorem le_C {G : Kd α → Kd β} (hm : Kd.Mono F) (hs : ∀ n, (Kd.upto F sz E n).sz = sz) (mG : Kd.Mono G) {n m : Nat} (hnm : n ≤ m) {w : World} {A : Option Addr} {l : Nat} {xs : List β} (h : (G (Kd.upto F sz E n)).C w A l xs) : (G (Kd.upto F sz E m)).C w A l xs :=
  Kd.C_imp (mG.sz _ _ (by rw [hs n, hs m])) (fun _ _ _ hp => G_K_le hm hs mG hnm hp) h
theorem cont_slice (e : Nat) {G : Kd α → Kd β} (hm : Kd.Mono F) (mG : Kd.Mono G) (hG : Cont F sz E hs hE G) : Cont F sz E hs hE (fun d => Kd.slice e (G d)) := by
  refine ⟨?_, ?_⟩
  · rintro w x cs ⟨A, c, rfl, hl, hr⟩
    obtain ⟨n, hr⟩ := back_C hm mG hG hr
    exact ⟨n, A, c, rfl, hl, hr⟩
  · rintro w base ok x cs ⟨v, rfl, hr⟩
    obtain ⟨n, hr⟩ := back_R hm mG hG hr
    exact ⟨n, v, rfl, hr⟩
end
end Go.Proofs.YtbgodajbdbgdfaaDoor.Nest
