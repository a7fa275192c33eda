/-
  NARROWER THAN 'FOR EVERY INPUT', by the rows' own cells (each row's printed sentence says how): FrameLoops: loops · FrameRuns: loops.
  DERIVED. THE GIVEN ROWS OF THIS SEAT. 11 by the template 'for every input the law returns true; each argument reads behind the call as it read before'; 0 by the template 'total and deterministic' (their statements: YtkepmbkghmkodaaTotals.lean).
  GIVEN WITH THE SEED: the statements are not yours to turn. If you find one false, say at which input.
  Laid BY PROGRAM, IN A SANDBOX (cutbox-rows.mjs): the forced cells as the released guide's own fill.sh prints them over the translation d0d0b33981f337d2… (all of the seat's roots in one cut). By AI agents, Wed Nov 11 2026. No macro, syntax, notation, axiom, sorry.
-/
import Derived.Test.YtkepmbkghmkodaaChecked
import GoSem.Claim
import GoSem.ClaimJoined
import GoSem.ClaimMapViews
import Derived.JoinedTies
import Derived.KernelRfl
namespace Go.Proofs.Ytkepmbkghmkodaa
/- THE CELL 'sum', in the pinned program and in every row, IS THE sha256 OF THE DUMP (.gsa) THAT YtkepmbkghmkodaaProg.lean LOADS. Nothing in Lean hashes anything: it is a label: what it is worth is what the hold of that sum in a sandbox is worth. -/
noncomputable def Try.pinned : Pinned := { name := "ytkepmbkghmkodaa", sum := "d0d0b33981f337d2cfbfda8a8590fb0edcb9f85e566afc5ab5c757d2acdf4acf", checked := Try.checked }
namespace Rows
def none {H : Type} : Left H := { results := [], args := [] }

/-- 'deadfalllaw10.FieldParts': WHATEVER THE INPUT: true; the input reads as it did. -/
def fieldPartsSpec : ChangeSpec := { name := "fieldParts", fn := fun _ => fun
  | [d1, d2] => { results := [.lit (.bool true)], args := [d1, d2] }
  | _ => none }
def fieldPartsRow : OpenClaim := { program := "ytkepmbkghmkodaa", sum := "d0d0b33981f337d2cfbfda8a8590fb0edcb9f85e566afc5ab5c757d2acdf4acf", func := "deadfall/deadfalllaw10.FieldParts", spec := "fieldParts", plainKeys := false, apart := false }
def FieldPartsSaid : Prop := fieldPartsRow.holds Try.pinned (OpenSpec.ofChange fieldPartsSpec)

/-- ITS FALSE NEIGHBOUR: 'it returns false'. Refute it at one input. -/
def fieldPartsWrong : ChangeSpec := { name := "fieldParts", fn := fun _ => fun
  | [d1, d2] => { results := [.lit (.bool false)], args := [d1, d2] }
  | _ => none }
def FieldPartsWrongFalsely : Prop := fieldPartsRow.holds Try.pinned (OpenSpec.ofChange fieldPartsWrong)

/-- 'deadfalllaw23.TellParts': WHATEVER THE INPUT: true; the input reads as it did. -/
def tellPartsSpec : ChangeSpec := { name := "tellParts", fn := fun _ => fun
  | [d] => { results := [.lit (.bool true)], args := [d] }
  | _ => none }
def tellPartsRow : OpenClaim := { program := "ytkepmbkghmkodaa", sum := "d0d0b33981f337d2cfbfda8a8590fb0edcb9f85e566afc5ab5c757d2acdf4acf", func := "deadfall/deadfalllaw23.TellParts", spec := "tellParts", plainKeys := false, apart := false }
def TellPartsSaid : Prop := tellPartsRow.holds Try.pinned (OpenSpec.ofChange tellPartsSpec)

/-- ITS FALSE NEIGHBOUR: 'it returns false'. Refute it at one input. -/
def tellPartsWrong : ChangeSpec := { name := "tellParts", fn := fun _ => fun
  | [d] => { results := [.lit (.bool false)], args := [d] }
  | _ => none }
def TellPartsWrongFalsely : Prop := tellPartsRow.holds Try.pinned (OpenSpec.ofChange tellPartsWrong)

/-- 'deadfalllaw10.FieldQuotes': WHATEVER THE INPUT: true; the input reads as it did. -/
def fieldQuotesSpec : ChangeSpec := { name := "fieldQuotes", fn := fun _ => fun
  | [d] => { results := [.lit (.bool true)], args := [d] }
  | _ => none }
def fieldQuotesRow : OpenClaim := { program := "ytkepmbkghmkodaa", sum := "d0d0b33981f337d2cfbfda8a8590fb0edcb9f85e566afc5ab5c757d2acdf4acf", func := "deadfall/deadfalllaw10.FieldQuotes", spec := "fieldQuotes", inPlace := ["internal/abi.NoEscape"], plainKeys := false, apart := false }
def FieldQuotesSaid : Prop := fieldQuotesRow.holds Try.pinned (OpenSpec.ofChange fieldQuotesSpec)

/-- ITS FALSE NEIGHBOUR: 'it returns false'. Refute it at one input. -/
def fieldQuotesWrong : ChangeSpec := { name := "fieldQuotes", fn := fun _ => fun
  | [d] => { results := [.lit (.bool false)], args := [d] }
  | _ => none }
def FieldQuotesWrongFalsely : Prop := fieldQuotesRow.holds Try.pinned (OpenSpec.ofChange fieldQuotesWrong)

/-- 'deadfalllaw15.FrameLoops': WHATEVER THE INPUT: true; the input reads as it did. -/
def frameLoopsSpec : ChangeSpec := { name := "frameLoops", fn := fun _ => fun
  | [d1, d2, d3] => { results := [.lit (.bool true)], args := [d1, d2, d3] }
  | _ => none }
def frameLoopsRow : OpenClaim := { program := "ytkepmbkghmkodaa", sum := "d0d0b33981f337d2cfbfda8a8590fb0edcb9f85e566afc5ab5c757d2acdf4acf", func := "deadfall/deadfalllaw15.FrameLoops", spec := "frameLoops", unfollowed := true, recurses := true, loops := true, plainKeys := false, apart := false }
def FrameLoopsSaid : Prop := frameLoopsRow.holds Try.pinned (OpenSpec.ofChange frameLoopsSpec)

/-- ITS FALSE NEIGHBOUR: 'it returns false'. Refute it at one input. -/
def frameLoopsWrong : ChangeSpec := { name := "frameLoops", fn := fun _ => fun
  | [d1, d2, d3] => { results := [.lit (.bool false)], args := [d1, d2, d3] }
  | _ => none }
def FrameLoopsWrongFalsely : Prop := frameLoopsRow.holds Try.pinned (OpenSpec.ofChange frameLoopsWrong)

/-- 'deadfalllaw10.FieldSplits': WHATEVER THE INPUT: true; the input reads as it did. -/
def fieldSplitsSpec : ChangeSpec := { name := "fieldSplits", fn := fun _ => fun
  | [d] => { results := [.lit (.bool true)], args := [d] }
  | _ => none }
def fieldSplitsRow : OpenClaim := { program := "ytkepmbkghmkodaa", sum := "d0d0b33981f337d2cfbfda8a8590fb0edcb9f85e566afc5ab5c757d2acdf4acf", func := "deadfall/deadfalllaw10.FieldSplits", spec := "fieldSplits", inPlace := ["internal/abi.NoEscape"], plainKeys := false, apart := false }
def FieldSplitsSaid : Prop := fieldSplitsRow.holds Try.pinned (OpenSpec.ofChange fieldSplitsSpec)

/-- ITS FALSE NEIGHBOUR: 'it returns false'. Refute it at one input. -/
def fieldSplitsWrong : ChangeSpec := { name := "fieldSplits", fn := fun _ => fun
  | [d] => { results := [.lit (.bool false)], args := [d] }
  | _ => none }
def FieldSplitsWrongFalsely : Prop := fieldSplitsRow.holds Try.pinned (OpenSpec.ofChange fieldSplitsWrong)

/-- 'deadfalllaw15.FrameRuns': WHATEVER THE INPUT: true; the input reads as it did. -/
def frameRunsSpec : ChangeSpec := { name := "frameRuns", fn := fun _ => fun
  | [d] => { results := [.lit (.bool true)], args := [d] }
  | _ => none }
def frameRunsRow : OpenClaim := { program := "ytkepmbkghmkodaa", sum := "d0d0b33981f337d2cfbfda8a8590fb0edcb9f85e566afc5ab5c757d2acdf4acf", func := "deadfall/deadfalllaw15.FrameRuns", spec := "frameRuns", unfollowed := true, recurses := true, loops := true, plainKeys := false, apart := false }
def FrameRunsSaid : Prop := frameRunsRow.holds Try.pinned (OpenSpec.ofChange frameRunsSpec)

/-- ITS FALSE NEIGHBOUR: 'it returns false'. Refute it at one input. -/
def frameRunsWrong : ChangeSpec := { name := "frameRuns", fn := fun _ => fun
  | [d] => { results := [.lit (.bool false)], args := [d] }
  | _ => none }
def FrameRunsWrongFalsely : Prop := frameRunsRow.holds Try.pinned (OpenSpec.ofChange frameRunsWrong)

/-- 'deadfalllaw08.PatternMatches': WHATEVER THE INPUT: true; the input reads as it did. -/
def patternMatchesSpec : ChangeSpec := { name := "patternMatches", fn := fun _ => fun
  | [d1, d2] => { results := [.lit (.bool true)], args := [d1, d2] }
  | _ => none }
def patternMatchesRow : OpenClaim := { program := "ytkepmbkghmkodaa", sum := "d0d0b33981f337d2cfbfda8a8590fb0edcb9f85e566afc5ab5c757d2acdf4acf", func := "deadfall/deadfalllaw08.PatternMatches", spec := "patternMatches", unfollowed := true, recurses := true, plainKeys := false, apart := false }
def PatternMatchesSaid : Prop := patternMatchesRow.holds Try.pinned (OpenSpec.ofChange patternMatchesSpec)

/-- ITS FALSE NEIGHBOUR: 'it returns false'. Refute it at one input. -/
def patternMatchesWrong : ChangeSpec := { name := "patternMatches", fn := fun _ => fun
  | [d1, d2] => { results := [.lit (.bool false)], args := [d1, d2] }
  | _ => none }
def PatternMatchesWrongFalsely : Prop := patternMatchesRow.holds Try.pinned (OpenSpec.ofChange patternMatchesWrong)

/-- 'deadfalllaw08.PatternParts': WHATEVER THE INPUT: true; the input reads as it did. -/
def patternPartsSpec : ChangeSpec := { name := "patternParts", fn := fun _ => fun
  | [d1, d2, d3] => { results := [.lit (.bool true)], args := [d1, d2, d3] }
  | _ => none }
def patternPartsRow : OpenClaim := { program := "ytkepmbkghmkodaa", sum := "d0d0b33981f337d2cfbfda8a8590fb0edcb9f85e566afc5ab5c757d2acdf4acf", func := "deadfall/deadfalllaw08.PatternParts", spec := "patternParts", unfollowed := true, recurses := true, plainKeys := false, apart := false }
def PatternPartsSaid : Prop := patternPartsRow.holds Try.pinned (OpenSpec.ofChange patternPartsSpec)

/-- ITS FALSE NEIGHBOUR: 'it returns false'. Refute it at one input. -/
def patternPartsWrong : ChangeSpec := { name := "patternParts", fn := fun _ => fun
  | [d1, d2, d3] => { results := [.lit (.bool false)], args := [d1, d2, d3] }
  | _ => none }
def PatternPartsWrongFalsely : Prop := patternPartsRow.holds Try.pinned (OpenSpec.ofChange patternPartsWrong)

/-- 'deadfalllaw02.ClassBytes': WHATEVER THE INPUT: true; the input reads as it did. -/
def classBytesSpec : ChangeSpec := { name := "classBytes", fn := fun _ => fun
  | [d] => { results := [.lit (.bool true)], args := [d] }
  | _ => none }
def classBytesRow : OpenClaim := { program := "ytkepmbkghmkodaa", sum := "d0d0b33981f337d2cfbfda8a8590fb0edcb9f85e566afc5ab5c757d2acdf4acf", func := "deadfall/deadfalllaw02.ClassBytes", spec := "classBytes", inPlace := ["internal/bytealg.IndexByteString", "internal/bytealg.IndexString"], unfollowed := true, recurses := true, named := ["internal/bytealg.MaxLen"], plainKeys := false, apart := false }
def ClassBytesSaid : Prop := classBytesRow.holds Try.pinned (OpenSpec.ofChange classBytesSpec)

/-- ITS FALSE NEIGHBOUR: 'it returns false'. Refute it at one input. -/
def classBytesWrong : ChangeSpec := { name := "classBytes", fn := fun _ => fun
  | [d] => { results := [.lit (.bool false)], args := [d] }
  | _ => none }
def ClassBytesWrongFalsely : Prop := classBytesRow.holds Try.pinned (OpenSpec.ofChange classBytesWrong)

/-- 'deadfalllaw02.ClassParts': WHATEVER THE INPUT: true; the input reads as it did. -/
def classPartsSpec : ChangeSpec := { name := "classParts", fn := fun _ => fun
  | [d1, d2] => { results := [.lit (.bool true)], args := [d1, d2] }
  | _ => none }
def classPartsRow : OpenClaim := { program := "ytkepmbkghmkodaa", sum := "d0d0b33981f337d2cfbfda8a8590fb0edcb9f85e566afc5ab5c757d2acdf4acf", func := "deadfall/deadfalllaw02.ClassParts", spec := "classParts", inPlace := ["internal/bytealg.IndexByteString", "internal/bytealg.IndexString"], unfollowed := true, recurses := true, named := ["internal/bytealg.MaxLen"], plainKeys := false, apart := false }
def ClassPartsSaid : Prop := classPartsRow.holds Try.pinned (OpenSpec.ofChange classPartsSpec)

/-- ITS FALSE NEIGHBOUR: 'it returns false'. Refute it at one input. -/
def classPartsWrong : ChangeSpec := { name := "classParts", fn := fun _ => fun
  | [d1, d2] => { results := [.lit (.bool false)], args := [d1, d2] }
  | _ => none }
def ClassPartsWrongFalsely : Prop := classPartsRow.holds Try.pinned (OpenSpec.ofChange classPartsWrong)

/-- 'deadfalllaw02.ClassTexts': WHATEVER THE INPUT: true; the input reads as it did. -/
def classTextsSpec : ChangeSpec := { name := "classTexts", fn := fun _ => fun
  | [d] => { results := [.lit (.bool true)], args := [d] }
  | _ => none }
def classTextsRow : OpenClaim := { program := "ytkepmbkghmkodaa", sum := "d0d0b33981f337d2cfbfda8a8590fb0edcb9f85e566afc5ab5c757d2acdf4acf", func := "deadfall/deadfalllaw02.ClassTexts", spec := "classTexts", inPlace := ["internal/bytealg.IndexByteString", "internal/bytealg.IndexString"], unfollowed := true, recurses := true, named := ["internal/bytealg.MaxLen"], plainKeys := false, apart := false }
def ClassTextsSaid : Prop := classTextsRow.holds Try.pinned (OpenSpec.ofChange classTextsSpec)

/-- ITS FALSE NEIGHBOUR: 'it returns false'. Refute it at one input. -/
def classTextsWrong : ChangeSpec := { name := "classTexts", fn := fun _ => fun
  | [d] => { results := [.lit (.bool false)], args := [d] }
  | _ => none }
def ClassTextsWrongFalsely : Prop := classTextsRow.holds Try.pinned (OpenSpec.ofChange classTextsWrong)

/- THE SECOND FORM. 'bulk': how many values and letters a reading holds, each counted each time it is reached (what is shared counts as often as it is met; a slice's spare places count too). A statement '..UptoSaid' is the law's where the arguments, and the package variables that the reading takes, are together of bulk at most 1048576: NARROWER than '..Said'. Prove '..Said' where nothing that the law and all that it calls make is longer than what came in: it says more and counts as full. Else prove '..UptoSaid'. A law counts once. -/
mutual
def uptoBulk {H : Type} : DataW H → Nat
  | .lit (.string bytes) => bytes.length + 1
  | .lit _ => 1
  | .nil => 1
  | .ptr d => uptoBulk d + 1
  | .slice elems spare => uptoBulkAll elems + uptoBulkAll spare + 1
  | .agg parts => uptoBulkAll parts + 1
  | .iface _ d => uptoBulk d + 1
  | .map entries => uptoBulkEntries entries + 1
  | .held _ => 1
def uptoBulkAll {H : Type} : List (DataW H) → Nat
  | [] => 0
  | d :: r => uptoBulk d + uptoBulkAll r
def uptoBulkEntries {H : Type} : List (Lit × DataW H) → Nat
  | [] => 0
  | x :: r => uptoBulkEntry x + uptoBulkEntries r
def uptoBulkEntry {H : Type} : Lit × DataW H → Nat
  | (.string bytes, d) => bytes.length + uptoBulk d + 1
  | (_, d) => uptoBulk d + 1
 end
def uptoSmall : (H : Type) → List (DataW H) → Bool := fun _ ds => decide (uptoBulkAll ds ≤ 1048576)
def OpenSpec.upto (s : _root_.Go.ChangeSpec) : _root_.Go.OpenSpec := { _root_.Go.OpenSpec.ofChange s with cond := some uptoSmall }

/-- 'deadfalllaw10.FieldParts', WHERE WHAT IT READS IS OF BULK AT MOST 1048576: true; the input reads as it did. -/
def fieldPartsUptoRow : OpenClaim := { program := "ytkepmbkghmkodaa", sum := "d0d0b33981f337d2cfbfda8a8590fb0edcb9f85e566afc5ab5c757d2acdf4acf", func := "deadfall/deadfalllaw10.FieldParts", spec := "fieldParts", plainKeys := false, apart := false, narrowed := true }
def FieldPartsUptoSaid : Prop := fieldPartsUptoRow.holds Try.pinned (OpenSpec.upto fieldPartsSpec)

/-- 'deadfalllaw23.TellParts', WHERE WHAT IT READS IS OF BULK AT MOST 1048576: true; the input reads as it did. -/
def tellPartsUptoRow : OpenClaim := { program := "ytkepmbkghmkodaa", sum := "d0d0b33981f337d2cfbfda8a8590fb0edcb9f85e566afc5ab5c757d2acdf4acf", func := "deadfall/deadfalllaw23.TellParts", spec := "tellParts", plainKeys := false, apart := false, narrowed := true }
def TellPartsUptoSaid : Prop := tellPartsUptoRow.holds Try.pinned (OpenSpec.upto tellPartsSpec)

/-- 'deadfalllaw10.FieldQuotes', WHERE WHAT IT READS IS OF BULK AT MOST 1048576: true; the input reads as it did. -/
def fieldQuotesUptoRow : OpenClaim := { program := "ytkepmbkghmkodaa", sum := "d0d0b33981f337d2cfbfda8a8590fb0edcb9f85e566afc5ab5c757d2acdf4acf", func := "deadfall/deadfalllaw10.FieldQuotes", spec := "fieldQuotes", inPlace := ["internal/abi.NoEscape"], plainKeys := false, apart := false, narrowed := true }
def FieldQuotesUptoSaid : Prop := fieldQuotesUptoRow.holds Try.pinned (OpenSpec.upto fieldQuotesSpec)

/-- 'deadfalllaw15.FrameLoops', WHERE WHAT IT READS IS OF BULK AT MOST 1048576: true; the input reads as it did. -/
def frameLoopsUptoRow : OpenClaim := { program := "ytkepmbkghmkodaa", sum := "d0d0b33981f337d2cfbfda8a8590fb0edcb9f85e566afc5ab5c757d2acdf4acf", func := "deadfall/deadfalllaw15.FrameLoops", spec := "frameLoops", unfollowed := true, recurses := true, loops := true, plainKeys := false, apart := false, narrowed := true }
def FrameLoopsUptoSaid : Prop := frameLoopsUptoRow.holds Try.pinned (OpenSpec.upto frameLoopsSpec)

/-- 'deadfalllaw10.FieldSplits', WHERE WHAT IT READS IS OF BULK AT MOST 1048576: true; the input reads as it did. -/
def fieldSplitsUptoRow : OpenClaim := { program := "ytkepmbkghmkodaa", sum := "d0d0b33981f337d2cfbfda8a8590fb0edcb9f85e566afc5ab5c757d2acdf4acf", func := "deadfall/deadfalllaw10.FieldSplits", spec := "fieldSplits", inPlace := ["internal/abi.NoEscape"], plainKeys := false, apart := false, narrowed := true }
def FieldSplitsUptoSaid : Prop := fieldSplitsUptoRow.holds Try.pinned (OpenSpec.upto fieldSplitsSpec)

/-- 'deadfalllaw15.FrameRuns', WHERE WHAT IT READS IS OF BULK AT MOST 1048576: true; the input reads as it did. -/
def frameRunsUptoRow : OpenClaim := { program := "ytkepmbkghmkodaa", sum := "d0d0b33981f337d2cfbfda8a8590fb0edcb9f85e566afc5ab5c757d2acdf4acf", func := "deadfall/deadfalllaw15.FrameRuns", spec := "frameRuns", unfollowed := true, recurses := true, loops := true, plainKeys := false, apart := false, narrowed := true }
def FrameRunsUptoSaid : Prop := frameRunsUptoRow.holds Try.pinned (OpenSpec.upto frameRunsSpec)

/-- 'deadfalllaw08.PatternMatches', WHERE WHAT IT READS IS OF BULK AT MOST 1048576: true; the input reads as it did. -/
def patternMatchesUptoRow : OpenClaim := { program := "ytkepmbkghmkodaa", sum := "d0d0b33981f337d2cfbfda8a8590fb0edcb9f85e566afc5ab5c757d2acdf4acf", func := "deadfall/deadfalllaw08.PatternMatches", spec := "patternMatches", unfollowed := true, recurses := true, plainKeys := false, apart := false, narrowed := true }
def PatternMatchesUptoSaid : Prop := patternMatchesUptoRow.holds Try.pinned (OpenSpec.upto patternMatchesSpec)

/-- 'deadfalllaw08.PatternParts', WHERE WHAT IT READS IS OF BULK AT MOST 1048576: true; the input reads as it did. -/
def patternPartsUptoRow : OpenClaim := { program := "ytkepmbkghmkodaa", sum := "d0d0b33981f337d2cfbfda8a8590fb0edcb9f85e566afc5ab5c757d2acdf4acf", func := "deadfall/deadfalllaw08.PatternParts", spec := "patternParts", unfollowed := true, recurses := true, plainKeys := false, apart := false, narrowed := true }
def PatternPartsUptoSaid : Prop := patternPartsUptoRow.holds Try.pinned (OpenSpec.upto patternPartsSpec)

/-- 'deadfalllaw02.ClassBytes', WHERE WHAT IT READS IS OF BULK AT MOST 1048576: true; the input reads as it did. -/
def classBytesUptoRow : OpenClaim := { program := "ytkepmbkghmkodaa", sum := "d0d0b33981f337d2cfbfda8a8590fb0edcb9f85e566afc5ab5c757d2acdf4acf", func := "deadfall/deadfalllaw02.ClassBytes", spec := "classBytes", inPlace := ["internal/bytealg.IndexByteString", "internal/bytealg.IndexString"], unfollowed := true, recurses := true, named := ["internal/bytealg.MaxLen"], plainKeys := false, apart := false, narrowed := true }
def ClassBytesUptoSaid : Prop := classBytesUptoRow.holds Try.pinned (OpenSpec.upto classBytesSpec)

/-- 'deadfalllaw02.ClassParts', WHERE WHAT IT READS IS OF BULK AT MOST 1048576: true; the input reads as it did. -/
def classPartsUptoRow : OpenClaim := { program := "ytkepmbkghmkodaa", sum := "d0d0b33981f337d2cfbfda8a8590fb0edcb9f85e566afc5ab5c757d2acdf4acf", func := "deadfall/deadfalllaw02.ClassParts", spec := "classParts", inPlace := ["internal/bytealg.IndexByteString", "internal/bytealg.IndexString"], unfollowed := true, recurses := true, named := ["internal/bytealg.MaxLen"], plainKeys := false, apart := false, narrowed := true }
def ClassPartsUptoSaid : Prop := classPartsUptoRow.holds Try.pinned (OpenSpec.upto classPartsSpec)

/-- 'deadfalllaw02.ClassTexts', WHERE WHAT IT READS IS OF BULK AT MOST 1048576: true; the input reads as it did. -/
def classTextsUptoRow : OpenClaim := { program := "ytkepmbkghmkodaa", sum := "d0d0b33981f337d2cfbfda8a8590fb0edcb9f85e566afc5ab5c757d2acdf4acf", func := "deadfall/deadfalllaw02.ClassTexts", spec := "classTexts", inPlace := ["internal/bytealg.IndexByteString", "internal/bytealg.IndexString"], unfollowed := true, recurses := true, named := ["internal/bytealg.MaxLen"], plainKeys := false, apart := false, narrowed := true }
def ClassTextsUptoSaid : Prop := classTextsUptoRow.holds Try.pinned (OpenSpec.upto classTextsSpec)

end Rows
end Go.Proofs.Ytkepmbkghmkodaa
