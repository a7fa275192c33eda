/-
  DERIVED. GIVEN WITH THE SEED: THE CARDS: each row of YtkecpfjmdokieaaDoorRows.lean that lists a variable, with what it lists TIED to the program's text (the seventh form; the later family's looks); each row that meets fmt, with fmt's text TOLD by the authors' own Lean function (tested against real Go, not proved from fmt's source: count such statements apart). THE CARD IS WHAT COUNTS. Prove the row's statement (the work); the ties are given (YtkecpfjmdokieaaDoorTie.lean); close each card by the builder's one call (the guide's Derived/Test/ToyasCard.lean, 'card_holds'). Laid BY PROGRAM, IN A SANDBOX (cutbox-door.mjs). By AI agents, Wed Nov 11 2026. No macro, syntax, notation, axiom, sorry.
-/
import Derived.Test.YtkecpfjmdokieaaDoorRows
import GoSem.ClaimSeven
namespace Go.Proofs.YtkecpfjmdokieaaDoor
namespace Rows

/-- THE TIED CARD OF 'deadfalllaw03.WordTells'. -/
def wordTellsCard : Claim7 := { stood := { row := wordTellsRow, standIns := [], harness := (true, "d7c8ea5a395ae472993517a0e6983a3ca7ffa6d3b7f4a3261fa0a56531d6764a"), looks := false }, kinds := [], alts := [], laidByText := true, laidKinds := [.data, .pinned], laidTests := true, laidLooks := .later }
def WordTellsCardSaid : Prop := Claim7.holds Tryd.pinned (.plain (OpenSpec.ofChange wordTellsSpec)) wordTellsCard

/-- THE TIED CARD OF 'deadfalllaw03.WordApart'. -/
def wordApartCard : Claim7 := { stood := { row := wordApartRow, standIns := [], harness := (true, "d7c8ea5a395ae472993517a0e6983a3ca7ffa6d3b7f4a3261fa0a56531d6764a"), looks := false }, kinds := [], alts := [], laidByText := true, laidKinds := [.data, .pinned], laidTests := true, laidLooks := .later }
def WordApartCardSaid : Prop := Claim7.holds Tryd.pinned (.plain (OpenSpec.ofChange wordApartSpec)) wordApartCard

/-- THE TIED CARD OF 'deadfalllaw03.WordSplits'. -/
def wordSplitsCard : Claim7 := { stood := { row := wordSplitsRow, standIns := [], harness := (true, "d7c8ea5a395ae472993517a0e6983a3ca7ffa6d3b7f4a3261fa0a56531d6764a"), looks := false }, kinds := [], alts := [], laidByText := true, laidKinds := [.data, .pinned], laidTests := true, laidLooks := .later }
def WordSplitsCardSaid : Prop := Claim7.holds Tryd.pinned (.plain (OpenSpec.ofChange wordSplitsSpec)) wordSplitsCard

/-- THE SECOND FORM's CARD OF 'deadfalllaw03.WordTells'. -/
def wordTellsUptoCard : Claim7 := { stood := { row := wordTellsUptoRow, standIns := [], harness := (true, "d7c8ea5a395ae472993517a0e6983a3ca7ffa6d3b7f4a3261fa0a56531d6764a"), looks := false }, kinds := [], alts := [], laidByText := true, laidKinds := [.data, .pinned], laidTests := true, laidLooks := .later }
def WordTellsUptoCardSaid : Prop := Claim7.holds Tryd.pinned (.plain (OpenSpec.upto wordTellsSpec)) wordTellsUptoCard

/-- THE SECOND FORM's CARD OF 'deadfalllaw03.WordApart'. -/
def wordApartUptoCard : Claim7 := { stood := { row := wordApartUptoRow, standIns := [], harness := (true, "d7c8ea5a395ae472993517a0e6983a3ca7ffa6d3b7f4a3261fa0a56531d6764a"), looks := false }, kinds := [], alts := [], laidByText := true, laidKinds := [.data, .pinned], laidTests := true, laidLooks := .later }
def WordApartUptoCardSaid : Prop := Claim7.holds Tryd.pinned (.plain (OpenSpec.upto wordApartSpec)) wordApartUptoCard

/-- THE SECOND FORM's CARD OF 'deadfalllaw03.WordSplits'. -/
def wordSplitsUptoCard : Claim7 := { stood := { row := wordSplitsUptoRow, standIns := [], harness := (true, "d7c8ea5a395ae472993517a0e6983a3ca7ffa6d3b7f4a3261fa0a56531d6764a"), looks := false }, kinds := [], alts := [], laidByText := true, laidKinds := [.data, .pinned], laidTests := true, laidLooks := .later }
def WordSplitsUptoCardSaid : Prop := Claim7.holds Tryd.pinned (.plain (OpenSpec.upto wordSplitsSpec)) wordSplitsUptoCard
end Rows
end Go.Proofs.YtkecpfjmdokieaaDoor
