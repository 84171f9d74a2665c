/- Functions of a Go program as Lean functions, each with its walk, or the row of a law. Written by a program of this session after the pattern of the print. -/
import Derived.Test.YtmbcokndaaelaaaProg
import Derived.Test.YtmbcokndaaelaaaDiv
import Derived.Test.YtmbcokndaaelaaaShelf
import Derived.Lib.Mul64
import Derived.Laws.Bits64b
import Derived.Lib.ItoaNum
import Derived.Lib.BitFns
import Derived.Outline
import Derived.ChangeKeysEq
import Derived.LoopN
import Derived.Below
import Derived.Deep.Draws
import Derived.Deep.AppendLies
import Derived.Maps.AppendAt
import Derived.OwnWalk
import Derived.Laws.BytesArg
import Derived.Laws.MakeOwn
import Derived.Laws.OwnMore
import Derived.Deep.OwnRows
import Derived.Tactics
import Derived.Lib.ConvBytes
import Derived.Laws.Slices
import Derived.WalkKit
import Derived.KernelRfl
import Derived.RowKit3
import Derived.Deep.LoopGhost
import Derived.Deep.QuietTactic
import Derived.BigQuiet
import Derived.WideLaws
import Derived.Deep.DeepCutAuto
import Derived.Deep.CutBlock
import Derived.Deep.RegionHeld3
import Derived.Laws.Rows
import Derived.Lib.AppendStr
import Derived.ArgAppend
import Derived.Laws.IdiomCopy
import Derived.OrdersHeld
import Derived.Laws.BitsLemmas
import Derived.RowKit
import Derived.Test.YtmbcokndaaelaaaWWords
import Derived.Test.YtmbcokndaaelaaaWLast
import Derived.Test.YtmbcokndaaelaaaWTab
import Derived.Test.YtmbcokndaaelaaaWFour
import Derived.Test.YtmbcokndaaelaaaWQPut
import Derived.Test.YtmbcokndaaelaaaWApart
import Derived.Test.YtmbcokndaaelaaaWArr
import Derived.Test.YtmbcokndaaelaaaWZeros
import Derived.Test.YtmbcokndaaelaaaWFoot
import Derived.Test.YtmbcokndaaelaaaWKept
import Derived.Test.YtmbcokndaaelaaaWShare
import Derived.Test.YtmbcokndaaelaaaWN
import Derived.Test.YtmbcokndaaelaaaWFootNe
import Derived.Test.YtmbcokndaaelaaaWAt
import Derived.Test.YtmbcokndaaelaaaWEqStruct
import Derived.Test.YtmbcokndaaelaaaWRepsOne
import Derived.Test.YtmbcokndaaelaaaWInv
import Derived.Test.YtmbcokndaaelaaaWInvWords
import Derived.Test.YtmbcokndaaelaaaWGuard
import Derived.Test.YtmbcokndaaelaaaWNEv
import Derived.Test.YtmbcokndaaelaaaWMore
namespace Go.Proofs.Ytmbcokndaaelaaa.QPaintEnds
open Go.RowKit Go.Proofs.YtmbcokndaaelaaaW.PrintWords Go.Proofs.YtmbcokndaaelaaaW.PrintLast Go.Proofs.YtmbcokndaaelaaaW.PrintMore
attribute [local go_sem] max2_int min2_int max_two min_two max_three min_three max_four min_four   -- for this text's walks alone
set_option linter.unusedVariables false
set_option linter.unusedSimpArgs false



def errW : Option Int → Value
  | none => .nilIface
  | some c => .iface 0 (.int .i64 c)
theorem errW_none : errW none = .nilIface := rfl
theorem errW_some (c : Int) : errW (some c) = .iface 0 (.int .i64 c) := rfl

theorem eqItems_cons (P : Program) (d : Nat) (e : TypeId) (c : Nat) (xs ys : Array Value) (i : Nat) (is : List Nat) (w : World) (a b : Value) (r : Bool)
    (ha : (part e xs (i * c)).run P w = .ok a w) (hb : (part e ys (i * c)).run P w = .ok b w) (hr : (Op.equalIn d e a b).run P w = .ok r w) {z : Bool} (hz : (Op.eqItems d e c xs ys is).run P w = .ok z w) :
    (Op.eqItems d e c xs ys (i :: is)).run P w = .ok (r && z) w := by
  simp only [Op.eqItems, Sem.run_bind, ha, hb, hr, Result.andThen_ok]
  cases r
  · simp
  · simpa using hz
theorem eqItems_nil (P : Program) (d : Nat) (e : TypeId) (c : Nat) (xs ys : Array Value) (w : World) : (Op.eqItems d e c xs ys []).run P w = .ok true w := by simp [Op.eqItems]
-- the values' own types

end Go.Proofs.Ytmbcokndaaelaaa.QPaintEnds
