/-
  DERIVED. GIVEN WITH THE SEED: THE CARDS: each row of YtdglcnchdhojnaaDoorRows.lean that lists a variable, with what it lists TIED to the program's text (the seventh form; the later family's looks); each row that meets fmt, with fmt's text TOLD by the authors' own Lean function (tested against real Go, not proved from fmt's source: count such statements apart). THE CARD IS WHAT COUNTS. Prove the row's statement (the work); the ties are given (YtdglcnchdhojnaaDoorTie.lean); close each card by the builder's one call (the guide's Derived/Test/ToyasCard.lean, 'card_holds'). Laid BY PROGRAM, IN A SANDBOX (cutbox-door.mjs). By AI agents, Wed Nov 11 2026. No macro, syntax, notation, axiom, sorry.
-/
import Derived.Test.YtdglcnchdhojnaaDoorRows
import GoSem.ClaimSeven
namespace Go.Proofs.YtdglcnchdhojnaaDoor
namespace Rows

/-- THE TIED CARD OF 'deadfalllaw12.KernSafe'. -/
def kernSafeCard : Claim7 := { stood := { row := kernSafeRow, standIns := [], harness := (true, "4728ae4a038ba6485bec36362c8422ce9025123079ae5e665cbec68a0ffb2858"), looks := true }, kinds := [], alts := [], laidByText := true, laidKinds := [.data], laidTests := true, laidLooks := .later }
def KernSafeCardSaid : Prop := Claim7.holds Tryd.pinned (.plain (OpenSpec.ofChange kernSafeSpec)) kernSafeCard

/-- THE TIED CARD OF 'deadfalllaw01.SigNames'. -/
def sigNamesCard : Claim7 := { stood := { row := sigNamesRow, standIns := [], harness := (true, "4728ae4a038ba6485bec36362c8422ce9025123079ae5e665cbec68a0ffb2858"), looks := true }, kinds := [], alts := [], laidByText := true, laidKinds := [.data, .data, .data, .sentinel, .sentinel, .widerDeep], laidTests := true, laidLooks := .later }
def SigNamesCardSaid : Prop := Claim7.holds Tryd.pinned (.plain (OpenSpec.ofChange sigNamesSpec)) sigNamesCard

/-- THE TIED CARD OF 'deadfalllaw12.KernMany'. -/
def kernManyCard : Claim7 := { stood := { row := kernManyRow, standIns := [], harness := (true, "4728ae4a038ba6485bec36362c8422ce9025123079ae5e665cbec68a0ffb2858"), looks := true }, kinds := [], alts := [], laidByText := true, laidKinds := [.data], laidTests := true, laidLooks := .later }
def KernManyCardSaid : Prop := Claim7.holds Tryd.pinned (.plain (OpenSpec.ofChange kernManySpec)) kernManyCard

/-- THE TIED CARD OF 'deadfalllaw01.SigBack'. -/
def sigBackCard : Claim7 := { stood := { row := sigBackRow, standIns := [], harness := (true, "4728ae4a038ba6485bec36362c8422ce9025123079ae5e665cbec68a0ffb2858"), looks := true }, kinds := [], alts := [], laidByText := true, laidKinds := [.data, .data, .data, .sentinel, .sentinel, .widerDeep], laidTests := true, laidLooks := .later }
def SigBackCardSaid : Prop := Claim7.holds Tryd.pinned (.plain (OpenSpec.ofChange sigBackSpec)) sigBackCard

/-- THE TIED CARD OF 'deadfalllaw12.KernRuns'. -/
def kernRunsCard : Claim7 := { stood := { row := kernRunsRow, standIns := [], harness := (true, "4728ae4a038ba6485bec36362c8422ce9025123079ae5e665cbec68a0ffb2858"), looks := true }, kinds := [], alts := [], laidByText := true, laidKinds := [.data], laidTests := true, laidLooks := .later }
def KernRunsCardSaid : Prop := Claim7.holds Tryd.pinned (.plain (OpenSpec.ofChange kernRunsSpec)) kernRunsCard

/-- THE TIED CARD OF 'deadfalllaw14.NumberReads'. -/
def numberReadsCard : Claim7 := { stood := { row := numberReadsRow, standIns := [], harness := (true, "4728ae4a038ba6485bec36362c8422ce9025123079ae5e665cbec68a0ffb2858"), looks := true }, kinds := [], alts := [], laidByText := true, laidKinds := [.data, .data, .data, .data, .sentinel, .sentinel, .pinned], laidTests := true, laidLooks := .later }
def NumberReadsCardSaid : Prop := Claim7.holds Tryd.pinned (.plain (OpenSpec.ofChange numberReadsSpec)) numberReadsCard

/-- THE TIED CARD OF 'deadfalllaw14.NumberBack'. -/
def numberBackCard : Claim7 := { stood := { row := numberBackRow, standIns := [], harness := (true, "4728ae4a038ba6485bec36362c8422ce9025123079ae5e665cbec68a0ffb2858"), looks := true }, kinds := [], alts := [], laidByText := true, laidKinds := [.data, .data, .data, .data, .sentinel, .sentinel, .pinned], laidTests := true, laidLooks := .later }
def NumberBackCardSaid : Prop := Claim7.holds Tryd.pinned (.plain (OpenSpec.ofChange numberBackSpec)) numberBackCard

/-- THE TIED CARD OF 'deadfalllaw09.VarsSets'. -/
def varsSetsCard : Claim7 := { stood := { row := varsSetsRow, standIns := [], harness := (true, "4728ae4a038ba6485bec36362c8422ce9025123079ae5e665cbec68a0ffb2858"), looks := true }, kinds := [], alts := [], laidByText := true, laidKinds := [.data, .data, .data, .sentinel, .sentinel], laidTests := true, laidLooks := .later }
def VarsSetsCardSaid : Prop := Claim7.holds Tryd.pinned (.plain (OpenSpec.ofChange varsSetsSpec)) varsSetsCard

/-- THE SECOND FORM's CARD OF 'deadfalllaw12.KernSafe'. -/
def kernSafeUptoCard : Claim7 := { stood := { row := kernSafeUptoRow, standIns := [], harness := (true, "4728ae4a038ba6485bec36362c8422ce9025123079ae5e665cbec68a0ffb2858"), looks := true }, kinds := [], alts := [], laidByText := true, laidKinds := [.data], laidTests := true, laidLooks := .later }
def KernSafeUptoCardSaid : Prop := Claim7.holds Tryd.pinned (.plain (OpenSpec.upto kernSafeSpec)) kernSafeUptoCard

/-- THE SECOND FORM's CARD OF 'deadfalllaw01.SigNames'. -/
def sigNamesUptoCard : Claim7 := { stood := { row := sigNamesUptoRow, standIns := [], harness := (true, "4728ae4a038ba6485bec36362c8422ce9025123079ae5e665cbec68a0ffb2858"), looks := true }, kinds := [], alts := [], laidByText := true, laidKinds := [.data, .data, .data, .sentinel, .sentinel, .widerDeep], laidTests := true, laidLooks := .later }
def SigNamesUptoCardSaid : Prop := Claim7.holds Tryd.pinned (.plain (OpenSpec.upto sigNamesSpec)) sigNamesUptoCard

/-- THE SECOND FORM's CARD OF 'deadfalllaw12.KernMany'. -/
def kernManyUptoCard : Claim7 := { stood := { row := kernManyUptoRow, standIns := [], harness := (true, "4728ae4a038ba6485bec36362c8422ce9025123079ae5e665cbec68a0ffb2858"), looks := true }, kinds := [], alts := [], laidByText := true, laidKinds := [.data], laidTests := true, laidLooks := .later }
def KernManyUptoCardSaid : Prop := Claim7.holds Tryd.pinned (.plain (OpenSpec.upto kernManySpec)) kernManyUptoCard

/-- THE SECOND FORM's CARD OF 'deadfalllaw01.SigBack'. -/
def sigBackUptoCard : Claim7 := { stood := { row := sigBackUptoRow, standIns := [], harness := (true, "4728ae4a038ba6485bec36362c8422ce9025123079ae5e665cbec68a0ffb2858"), looks := true }, kinds := [], alts := [], laidByText := true, laidKinds := [.data, .data, .data, .sentinel, .sentinel, .widerDeep], laidTests := true, laidLooks := .later }
def SigBackUptoCardSaid : Prop := Claim7.holds Tryd.pinned (.plain (OpenSpec.upto sigBackSpec)) sigBackUptoCard

/-- THE SECOND FORM's CARD OF 'deadfalllaw12.KernRuns'. -/
def kernRunsUptoCard : Claim7 := { stood := { row := kernRunsUptoRow, standIns := [], harness := (true, "4728ae4a038ba6485bec36362c8422ce9025123079ae5e665cbec68a0ffb2858"), looks := true }, kinds := [], alts := [], laidByText := true, laidKinds := [.data], laidTests := true, laidLooks := .later }
def KernRunsUptoCardSaid : Prop := Claim7.holds Tryd.pinned (.plain (OpenSpec.upto kernRunsSpec)) kernRunsUptoCard

/-- THE SECOND FORM's CARD OF 'deadfalllaw14.NumberReads'. -/
def numberReadsUptoCard : Claim7 := { stood := { row := numberReadsUptoRow, standIns := [], harness := (true, "4728ae4a038ba6485bec36362c8422ce9025123079ae5e665cbec68a0ffb2858"), looks := true }, kinds := [], alts := [], laidByText := true, laidKinds := [.data, .data, .data, .data, .sentinel, .sentinel, .pinned], laidTests := true, laidLooks := .later }
def NumberReadsUptoCardSaid : Prop := Claim7.holds Tryd.pinned (.plain (OpenSpec.upto numberReadsSpec)) numberReadsUptoCard

/-- THE SECOND FORM's CARD OF 'deadfalllaw14.NumberBack'. -/
def numberBackUptoCard : Claim7 := { stood := { row := numberBackUptoRow, standIns := [], harness := (true, "4728ae4a038ba6485bec36362c8422ce9025123079ae5e665cbec68a0ffb2858"), looks := true }, kinds := [], alts := [], laidByText := true, laidKinds := [.data, .data, .data, .data, .sentinel, .sentinel, .pinned], laidTests := true, laidLooks := .later }
def NumberBackUptoCardSaid : Prop := Claim7.holds Tryd.pinned (.plain (OpenSpec.upto numberBackSpec)) numberBackUptoCard

/-- THE SECOND FORM's CARD OF 'deadfalllaw09.VarsSets'. -/
def varsSetsUptoCard : Claim7 := { stood := { row := varsSetsUptoRow, standIns := [], harness := (true, "4728ae4a038ba6485bec36362c8422ce9025123079ae5e665cbec68a0ffb2858"), looks := true }, kinds := [], alts := [], laidByText := true, laidKinds := [.data, .data, .data, .sentinel, .sentinel], laidTests := true, laidLooks := .later }
def VarsSetsUptoCardSaid : Prop := Claim7.holds Tryd.pinned (.plain (OpenSpec.upto varsSetsSpec)) varsSetsUptoCard
end Rows
end Go.Proofs.YtdglcnchdhojnaaDoor
