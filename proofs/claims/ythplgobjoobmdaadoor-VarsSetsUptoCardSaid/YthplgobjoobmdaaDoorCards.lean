/-
  DERIVED. GIVEN WITH THE SEED: THE CARDS: each row of YthplgobjoobmdaaDoorRows.lean that lists a variable, with what it lists TIED to the program's text (the seventh form; the later family's looks); each row that meets fmt, with fmt's text TOLD by the authors' own Lean function (tested against real Go, not proved from fmt's source: count such statements apart). THE CARD IS WHAT COUNTS. Prove the row's statement (the work); the ties are given (YthplgobjoobmdaaDoorTie.lean); close each card by the builder's one call (the guide's Derived/Test/ToyasCard.lean, 'card_holds'). Laid BY PROGRAM, IN A SANDBOX (cutbox-door.mjs). By AI agents, Wed Nov 11 2026. No macro, syntax, notation, axiom, sorry.
-/
import Derived.Test.YthplgobjoobmdaaDoorRows
import GoSem.ClaimSeven
namespace Go.Proofs.YthplgobjoobmdaaDoor
namespace Rows

/-- THE TIED CARD OF 'deadfalllaw09.VarsSets'. -/
def varsSetsCard : Claim7 := { stood := { row := varsSetsRow, standIns := [], harness := (true, "f913e1a4f1e7dffce9861cffd2979500c3f019a9cee5df765efdf981611e8a03"), looks := true }, kinds := [], alts := [], laidByText := true, laidKinds := [.data, .data, .data, .sentinel, .sentinel], laidTests := true, laidLooks := .later }
def VarsSetsCardSaid : Prop := Claim7.holds Tryd.pinned (.plain (OpenSpec.ofChange varsSetsSpec)) varsSetsCard

/-- THE SECOND FORM's CARD OF 'deadfalllaw09.VarsSets'. -/
def varsSetsUptoCard : Claim7 := { stood := { row := varsSetsUptoRow, standIns := [], harness := (true, "f913e1a4f1e7dffce9861cffd2979500c3f019a9cee5df765efdf981611e8a03"), looks := true }, kinds := [], alts := [], laidByText := true, laidKinds := [.data, .data, .data, .sentinel, .sentinel], laidTests := true, laidLooks := .later }
def VarsSetsUptoCardSaid : Prop := Claim7.holds Tryd.pinned (.plain (OpenSpec.upto varsSetsSpec)) varsSetsUptoCard
end Rows
end Go.Proofs.YthplgobjoobmdaaDoor
