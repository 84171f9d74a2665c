/- Functions of a Go program as Lean functions, each with its walk, or the row of a law. Written by a program of this session after the pattern of the print. -/
import Derived.Test.YtgaikembekkfiaaProg
import Derived.Test.YtgaikembekkfiaaDiv
import Derived.Test.YtgaikembekkfiaaShelf
import Derived.Lib.Mul64
import Derived.Laws.Bits64b
import Derived.Lib.ItoaNum
import Derived.Lib.BitFns
import Derived.Outline
import Derived.Below
import Derived.Deep.Draws
import Derived.Deep.AppendLies
import Derived.Maps.AppendAt
import Derived.OwnWalk
import Derived.Laws.BytesArg
import Derived.Laws.MakeOwn
import Derived.Laws.OwnMore
import Derived.Deep.OwnRows
import Derived.Tactics
import Derived.Lib.ConvBytes
import Derived.Laws.Slices
import Derived.WalkKit
import Derived.KernelRfl
import Derived.RowKit3
import Derived.Deep.LoopGhost
import Derived.Deep.QuietTactic
import Derived.BigQuiet
import Derived.WideLaws
import Derived.Deep.DeepCutAuto
import Derived.Deep.CutBlock
import Derived.Deep.RegionHeld3
import Derived.Laws.Rows
import Derived.Lib.AppendStr
import Derived.ArgAppend
import Derived.Laws.IdiomCopy
import Derived.OrdersHeld
import Derived.Laws.BitsLemmas
import Derived.RowKit
import Derived.Test.YtgaikembekkfiaaWWords
import Derived.Test.YtgaikembekkfiaaWLast
import Derived.Test.YtgaikembekkfiaaWTab
import Derived.Test.YtgaikembekkfiaaWFour
import Derived.Test.YtgaikembekkfiaaWQPut
import Derived.Test.YtgaikembekkfiaaWApart
import Derived.Test.YtgaikembekkfiaaWArr
import Derived.Test.YtgaikembekkfiaaWZeros
import Derived.Test.YtgaikembekkfiaaWFoot
import Derived.Test.YtgaikembekkfiaaWKept
import Derived.Test.YtgaikembekkfiaaWShare
import Derived.Test.YtgaikembekkfiaaWN
import Derived.Test.YtgaikembekkfiaaWFootNe
import Derived.Test.YtgaikembekkfiaaWAt
import Derived.Test.YtgaikembekkfiaaWEqStruct
import Derived.Test.YtgaikembekkfiaaWRepsOne
import Derived.Test.YtgaikembekkfiaaWInv
import Derived.Test.YtgaikembekkfiaaWInvWords
import Derived.Test.YtgaikembekkfiaaWGuard
import Derived.Test.YtgaikembekkfiaaWNEv
import Derived.Test.YtgaikembekkfiaaWMore
namespace Go.Proofs.Ytgaikembekkfiaa.QPlaneSays
open Go.RowKit Go.Proofs.YtgaikembekkfiaaW.PrintWords Go.Proofs.YtgaikembekkfiaaW.PrintLast Go.Proofs.YtgaikembekkfiaaW.PrintMore
attribute [local go_sem] max2_int min2_int max_two min_two max_three min_three max_four min_four   -- for this text's walks alone
set_option linter.unusedVariables false
set_option linter.unusedSimpArgs false



def errW : Option Int → Value
  | none => .nilIface
  | some c => .iface 0 (.int .i64 c)
theorem errW_none : errW none = .nilIface := rfl
theorem errW_some (c : Int) : errW (some c) = .iface 0 (.int .i64 c) := rfl

-- the values' own types

end Go.Proofs.Ytgaikembekkfiaa.QPlaneSays
