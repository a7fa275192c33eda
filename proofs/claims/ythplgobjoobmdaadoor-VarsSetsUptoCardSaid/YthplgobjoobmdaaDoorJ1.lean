/- texts of this claim, one behind the other: WMore -/
import Derived.Test.YthplgobjoobmdaaDoorJ0
namespace Go.Proofs.YthplgobjoobmdaaDoorW.PrintMore
open Go.RowKit Go.Proofs.YthplgobjoobmdaaDoorW.PrintWords
namespace Kd
open Go.Proofs.YthplgobjoobmdaaDoorW.PrintWords.Kd
end Kd
namespace Kd
open Go.Proofs.YthplgobjoobmdaaDoorW.PrintWords.Kd
section
variable {α : Type} {d : Kd α} {e base g N : Nat} {ok : Nat → Prop} {W w1 : World} {u v : Value} {xs : List α}
end
end Kd
end Go.Proofs.YthplgobjoobmdaaDoorW.PrintMore
namespace Go.Proofs.YthplgobjoobmdaaDoorW.PrintWords
open Go.RowKit
section
variable {P : Program} {ops : Array Oper} {rest : List Oper} {o : Oper} {a : Act} {Q : Exit → Act → World → Prop} {W : World}
end
namespace Kd
section
variable {α : Type} {d : Kd α} {e base : Nat} {ok : Nat → Prop} {W w1 : World} {v : Value} {xs : List α}
theorem R_grown1 (h : d.R e W base ok v xs) (hE : d.E = []) {row : Option Nat} (hg : W.grownBy w1 row) (hne : row ≠ v.ownBlock) : d.R e w1 base ok v xs :=
  R_mono (R_grown (R_tight hE h) hg (fun _ hk e_ => hne (e_.symm.trans hk))) (fun k hk => h.1 k hk.symm)
end
section
variable {α : Type} {d : Kd α} {e base g n cap : Nat} {ok oki okp : Nat → Prop} {W : World} {xs : List α} {i : Int} {c : List Value}
end
section
variable {α : Type} {d : Kd α} {e base b b' g N : Nat} {ok ok1 : Nat → Prop} {W W2 w1 : World} {u v : Value} {xs ys : List α} {S : Nat → Prop}
theorem own_raise {n size : Nat} {cs : List Value} (h : W.ownsRow b e size v n cs) (hb : ∀ k, v.ownBlock = some k → b' ≤ k) : W.ownsRow b' e size v n cs := by
  obtain ⟨h1, h2⟩ := h
  refine ⟨h1, ?_⟩
  rcases h2 with h2 | ⟨g, cap, cur, rfl, _, r⟩
  · exact .inl h2
  · exact .inr ⟨g, cap, cur, rfl, hb g (by simp [Value.ownBlock]), r⟩
theorem R_raise (hM : ∀ w ok x cs, d.M w b ok x cs → d.M w b' ok x cs) (h : d.R e W b ok v xs) (hb : ∀ k, v.ownBlock = some k → b' ≤ k) : d.R e W b' ok v xs := by
  obtain ⟨h0, inner, ho, hr⟩ := h
  exact ⟨h0, inner, own_raise ho hb, hr.imp_ (fun _ _ hp => hM _ _ _ _ hp)⟩
end
end Kd
end Go.Proofs.YthplgobjoobmdaaDoorW.PrintWords
namespace Go.Proofs.YthplgobjoobmdaaDoorW.PrintWords
open Go.RowKit
namespace Kd
def V {α : Type} (d : Kd α) (_e : Nat) (W : World) (_base : Nat) (ok : Nat → Prop) (v : Value) (xs : List α) : Prop := ∃ A c, v = .slice A xs.length c ∧ xs.length ≤ c ∧ F d W ok A xs.length xs
section
variable {α β : Type} {d : Kd α} {e base base' n m c g N' lo hi : Nat} {ok ok' S : Nat → Prop} {w W w1 : World} {A : Option Addr} {ad : Addr} {u v v1 : Value} {xs : List α}
end
end Kd
end Go.Proofs.YthplgobjoobmdaaDoorW.PrintWords
