-- printed by a program of this session (wip/pp): a Lean function and a proof for each Go function
import Derived.Test.YtbgodajbdbgdfaaDoorProg
import Derived.Below
import Derived.Deep.Draws
import Derived.Deep.AppendLies
import Derived.Maps.AppendAt
import Derived.OwnWalk
import Derived.Laws.BytesArg
import Derived.Laws.MakeOwn
import Derived.Laws.OwnMore
import Derived.Deep.OwnRows
import Derived.Tactics
import Derived.Lib.ConvBytes
import Derived.Laws.Slices
import Derived.WalkKit
import Derived.KernelRfl
import Derived.RowKit3
import Derived.Deep.LoopGhost
import Derived.Deep.QuietTactic
import Derived.BigQuiet
import Derived.WideLaws
import Derived.Deep.DeepCutAuto
import Derived.Deep.CutBlock
import Derived.Deep.RegionHeld3
import Derived.Laws.Rows
import Derived.Lib.AppendStr
import Derived.ArgAppend
import Derived.Laws.IdiomCopy
import Derived.OrdersHeld
import Derived.Laws.BitsLemmas
import Derived.RowKit
import Derived.Test.YtbgodajbdbgdfaaDoorNest
import Derived.Test.YtbgodajbdbgdfaaDoorWWords
import Derived.Test.YtbgodajbdbgdfaaDoorWLast
import Derived.Test.YtbgodajbdbgdfaaDoorWTab
import Derived.Test.YtbgodajbdbgdfaaDoorWFour
import Derived.Test.YtbgodajbdbgdfaaDoorWQPut
import Derived.Test.YtbgodajbdbgdfaaDoorWApart
import Derived.Test.YtbgodajbdbgdfaaDoorWArr
import Derived.Test.YtbgodajbdbgdfaaDoorWZeros
import Derived.Test.YtbgodajbdbgdfaaDoorWFoot
import Derived.Test.YtbgodajbdbgdfaaDoorWKept
import Derived.Test.YtbgodajbdbgdfaaDoorWShare
import Derived.Test.YtbgodajbdbgdfaaDoorWN
import Derived.Test.YtbgodajbdbgdfaaDoorWFootNe
import Derived.Test.YtbgodajbdbgdfaaDoorWAt
import Derived.Test.YtbgodajbdbgdfaaDoorWEqStruct
import Derived.Test.YtbgodajbdbgdfaaDoorWRepsOne
import Derived.Test.YtbgodajbdbgdfaaDoorWInv
import Derived.Test.YtbgodajbdbgdfaaDoorWInvWords
import Derived.Test.YtbgodajbdbgdfaaDoorWGuard
import Derived.Test.YtbgodajbdbgdfaaDoorWNEv
import Derived.Test.YtbgodajbdbgdfaaDoorWMore
namespace Go.Proofs.YtbgodajbdbgdfaaDoor.R
open Go.RowKit Go.Proofs.YtbgodajbdbgdfaaDoorW.PrintWords Go.Proofs.YtbgodajbdbgdfaaDoorW.PrintLast Go.Proofs.YtbgodajbdbgdfaaDoorW.PrintMore
attribute [local go_sem] max2_int min2_int max_two min_two max_three min_three max_four min_four   -- for this text's walks alone
set_option linter.unusedVariables false
set_option linter.unusedSimpArgs false




def errW : Option Int → Value
  | none => .nilIface
  | some c => .iface 0 (.int .i64 c)
theorem errW_none : errW none = .nilIface := rfl
theorem errW_some (c : Int) : errW (some c) = .iface 0 (.int .i64 c) := rfl

-- the values' own types

end Go.Proofs.YtbgodajbdbgdfaaDoor.R
