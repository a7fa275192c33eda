/-
  DERIVED. GIVEN WITH THE SEED: THE CARDS: each row of YtbgodajbdbgdfaaDoorRows.lean that lists a variable, with what it lists TIED to the program's text (the seventh form; the later family's looks); each row that meets fmt, with fmt's text TOLD by the authors' own Lean function (tested against real Go, not proved from fmt's source: count such statements apart). THE CARD IS WHAT COUNTS. Prove the row's statement (the work); the ties are given (YtbgodajbdbgdfaaDoorTie.lean); close each card by the builder's one call (the guide's Derived/Test/ToyasCard.lean, 'card_holds'). Laid BY PROGRAM, IN A SANDBOX (cutbox-door.mjs). By AI agents, Wed Nov 11 2026. No macro, syntax, notation, axiom, sorry.
-/
import Derived.Test.YtbgodajbdbgdfaaDoorRows
import GoSem.ClaimSeven
namespace Go.Proofs.YtbgodajbdbgdfaaDoor
namespace Rows

/-- THE TIED CARD OF 'deadfalllaw12.KernMany'. -/
def kernManyCard : Claim7 := { stood := { row := kernManyRow, standIns := [], harness := (true, "69a3011f5875e9b61bb6b2f5c8b06c9d8d73e50bc28d70af8cdb856027743404"), looks := false }, kinds := [], alts := [], laidByText := true, laidKinds := [.data], laidTests := true, laidLooks := .later }
def KernManyCardSaid : Prop := Claim7.holds Tryd.pinned (.plain (OpenSpec.ofChange kernManySpec)) kernManyCard

/-- THE TIED CARD OF 'deadfalllaw12.KernRuns'. -/
def kernRunsCard : Claim7 := { stood := { row := kernRunsRow, standIns := [], harness := (true, "69a3011f5875e9b61bb6b2f5c8b06c9d8d73e50bc28d70af8cdb856027743404"), looks := false }, kinds := [], alts := [], laidByText := true, laidKinds := [.data], laidTests := true, laidLooks := .later }
def KernRunsCardSaid : Prop := Claim7.holds Tryd.pinned (.plain (OpenSpec.ofChange kernRunsSpec)) kernRunsCard

/-- THE SECOND FORM's CARD OF 'deadfalllaw12.KernMany'. -/
def kernManyUptoCard : Claim7 := { stood := { row := kernManyUptoRow, standIns := [], harness := (true, "69a3011f5875e9b61bb6b2f5c8b06c9d8d73e50bc28d70af8cdb856027743404"), looks := false }, kinds := [], alts := [], laidByText := true, laidKinds := [.data], laidTests := true, laidLooks := .later }
def KernManyUptoCardSaid : Prop := Claim7.holds Tryd.pinned (.plain (OpenSpec.upto kernManySpec)) kernManyUptoCard

/-- THE SECOND FORM's CARD OF 'deadfalllaw12.KernRuns'. -/
def kernRunsUptoCard : Claim7 := { stood := { row := kernRunsUptoRow, standIns := [], harness := (true, "69a3011f5875e9b61bb6b2f5c8b06c9d8d73e50bc28d70af8cdb856027743404"), looks := false }, kinds := [], alts := [], laidByText := true, laidKinds := [.data], laidTests := true, laidLooks := .later }
def KernRunsUptoCardSaid : Prop := Claim7.holds Tryd.pinned (.plain (OpenSpec.upto kernRunsSpec)) kernRunsUptoCard
end Rows
end Go.Proofs.YtbgodajbdbgdfaaDoor
