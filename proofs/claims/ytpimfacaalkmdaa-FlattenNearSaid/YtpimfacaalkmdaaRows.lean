/-
  No cell of these rows narrows 'for every input' (looked for: loops, veiled, ifaces, maps, wideKeys, modest, calm, conditions, laid).
  DERIVED. THE GIVEN ROWS OF THIS SEAT. 13 by the template 'for every input the law returns true; each argument reads behind the call as it read before'; 0 by the template 'total and deterministic' (their statements: YtpimfacaalkmdaaTotals.lean).
  GIVEN WITH THE SEED: the statements are not yours to turn. If you find one false, say at which input.
  Laid BY PROGRAM, IN A SANDBOX (cutbox-rows.mjs): the forced cells as the released guide's own fill.sh prints them over the translation 155dde03bdc01863… (all of the seat's roots in one cut). By AI agents, Wed Nov 11 2026. No macro, syntax, notation, axiom, sorry.
-/
import Derived.Test.YtpimfacaalkmdaaChecked
import GoSem.Claim
import GoSem.ClaimJoined
import GoSem.ClaimMapViews
import Derived.JoinedTies
import Derived.KernelRfl
namespace Go.Proofs.Ytpimfacaalkmdaa
/- THE CELL 'sum', in the pinned program and in every row, IS THE sha256 OF THE DUMP (.gsa) THAT YtpimfacaalkmdaaProg.lean LOADS. Nothing in Lean hashes anything: it is a label: what it is worth is what the hold of that sum in a sandbox is worth. -/
noncomputable def Try.pinned : Pinned := { name := "ytpimfacaalkmdaa", sum := "155dde03bdc018631e8398e1957c186cee801d884353aa58ca3ceea531466b6e", checked := Try.checked }
namespace Rows
def none {H : Type} : Left H := { results := [], args := [] }

/-- 'glyphiclaw23.StrokeMoves': WHATEVER THE INPUT: true; the input reads as it did. -/
def strokeMovesSpec : ChangeSpec := { name := "strokeMoves", fn := fun _ => fun
  | [d1, d2, d3, d4] => { results := [.lit (.bool true)], args := [d1, d2, d3, d4] }
  | _ => none }
def strokeMovesRow : OpenClaim := { program := "ytpimfacaalkmdaa", sum := "155dde03bdc018631e8398e1957c186cee801d884353aa58ca3ceea531466b6e", func := "glyphic/glyphiclaw23.StrokeMoves", spec := "strokeMoves", unfollowed := true, recurses := true, apart := false }
def StrokeMovesSaid : Prop := strokeMovesRow.holds Try.pinned (OpenSpec.ofChange strokeMovesSpec)

/-- ITS FALSE NEIGHBOUR: 'it returns false'. Refute it at one input. -/
def strokeMovesWrong : ChangeSpec := { name := "strokeMoves", fn := fun _ => fun
  | [d1, d2, d3, d4] => { results := [.lit (.bool false)], args := [d1, d2, d3, d4] }
  | _ => none }
def StrokeMovesWrongFalsely : Prop := strokeMovesRow.holds Try.pinned (OpenSpec.ofChange strokeMovesWrong)

/-- 'glyphiclaw23.StrokeSays': WHATEVER THE INPUT: true; the input reads as it did. -/
def strokeSaysSpec : ChangeSpec := { name := "strokeSays", fn := fun _ => fun
  | [d1, d2, d3, d4] => { results := [.lit (.bool true)], args := [d1, d2, d3, d4] }
  | _ => none }
def strokeSaysRow : OpenClaim := { program := "ytpimfacaalkmdaa", sum := "155dde03bdc018631e8398e1957c186cee801d884353aa58ca3ceea531466b6e", func := "glyphic/glyphiclaw23.StrokeSays", spec := "strokeSays", unfollowed := true, recurses := true, apart := false }
def StrokeSaysSaid : Prop := strokeSaysRow.holds Try.pinned (OpenSpec.ofChange strokeSaysSpec)

/-- ITS FALSE NEIGHBOUR: 'it returns false'. Refute it at one input. -/
def strokeSaysWrong : ChangeSpec := { name := "strokeSays", fn := fun _ => fun
  | [d1, d2, d3, d4] => { results := [.lit (.bool false)], args := [d1, d2, d3, d4] }
  | _ => none }
def StrokeSaysWrongFalsely : Prop := strokeSaysRow.holds Try.pinned (OpenSpec.ofChange strokeSaysWrong)

/-- 'glyphiclaw23.StrokeBoxes': WHATEVER THE INPUT: true; the input reads as it did. -/
def strokeBoxesSpec : ChangeSpec := { name := "strokeBoxes", fn := fun _ => fun
  | [d1, d2, d3, d4, d5] => { results := [.lit (.bool true)], args := [d1, d2, d3, d4, d5] }
  | _ => none }
def strokeBoxesRow : OpenClaim := { program := "ytpimfacaalkmdaa", sum := "155dde03bdc018631e8398e1957c186cee801d884353aa58ca3ceea531466b6e", func := "glyphic/glyphiclaw23.StrokeBoxes", spec := "strokeBoxes", unfollowed := true, recurses := true, apart := false }
def StrokeBoxesSaid : Prop := strokeBoxesRow.holds Try.pinned (OpenSpec.ofChange strokeBoxesSpec)

/-- ITS FALSE NEIGHBOUR: 'it returns false'. Refute it at one input. -/
def strokeBoxesWrong : ChangeSpec := { name := "strokeBoxes", fn := fun _ => fun
  | [d1, d2, d3, d4, d5] => { results := [.lit (.bool false)], args := [d1, d2, d3, d4, d5] }
  | _ => none }
def StrokeBoxesWrongFalsely : Prop := strokeBoxesRow.holds Try.pinned (OpenSpec.ofChange strokeBoxesWrong)

/-- 'glyphiclaw21.FlattenRows': WHATEVER THE INPUT: true; the input reads as it did. -/
def flattenRowsSpec : ChangeSpec := { name := "flattenRows", fn := fun _ => fun
  | [d1, d2, d3] => { results := [.lit (.bool true)], args := [d1, d2, d3] }
  | _ => none }
def flattenRowsRow : OpenClaim := { program := "ytpimfacaalkmdaa", sum := "155dde03bdc018631e8398e1957c186cee801d884353aa58ca3ceea531466b6e", func := "glyphic/glyphiclaw21.FlattenRows", spec := "flattenRows", unfollowed := true, recurses := true, apart := false }
def FlattenRowsSaid : Prop := flattenRowsRow.holds Try.pinned (OpenSpec.ofChange flattenRowsSpec)

/-- ITS FALSE NEIGHBOUR: 'it returns false'. Refute it at one input. -/
def flattenRowsWrong : ChangeSpec := { name := "flattenRows", fn := fun _ => fun
  | [d1, d2, d3] => { results := [.lit (.bool false)], args := [d1, d2, d3] }
  | _ => none }
def FlattenRowsWrongFalsely : Prop := flattenRowsRow.holds Try.pinned (OpenSpec.ofChange flattenRowsWrong)

/-- 'glyphiclaw21.FlattenSays': WHATEVER THE INPUT: true; the input reads as it did. -/
def flattenSaysSpec : ChangeSpec := { name := "flattenSays", fn := fun _ => fun
  | [d1, d2, d3, d4] => { results := [.lit (.bool true)], args := [d1, d2, d3, d4] }
  | _ => none }
def flattenSaysRow : OpenClaim := { program := "ytpimfacaalkmdaa", sum := "155dde03bdc018631e8398e1957c186cee801d884353aa58ca3ceea531466b6e", func := "glyphic/glyphiclaw21.FlattenSays", spec := "flattenSays", unfollowed := true, recurses := true, apart := false }
def FlattenSaysSaid : Prop := flattenSaysRow.holds Try.pinned (OpenSpec.ofChange flattenSaysSpec)

/-- ITS FALSE NEIGHBOUR: 'it returns false'. Refute it at one input. -/
def flattenSaysWrong : ChangeSpec := { name := "flattenSays", fn := fun _ => fun
  | [d1, d2, d3, d4] => { results := [.lit (.bool false)], args := [d1, d2, d3, d4] }
  | _ => none }
def FlattenSaysWrongFalsely : Prop := flattenSaysRow.holds Try.pinned (OpenSpec.ofChange flattenSaysWrong)

/-- 'glyphiclaw21.FlattenNear': WHATEVER THE INPUT: true; the input reads as it did. -/
def flattenNearSpec : ChangeSpec := { name := "flattenNear", fn := fun _ => fun
  | [d1, d2, d3] => { results := [.lit (.bool true)], args := [d1, d2, d3] }
  | _ => none }
def flattenNearRow : OpenClaim := { program := "ytpimfacaalkmdaa", sum := "155dde03bdc018631e8398e1957c186cee801d884353aa58ca3ceea531466b6e", func := "glyphic/glyphiclaw21.FlattenNear", spec := "flattenNear", unfollowed := true, recurses := true, apart := false }
def FlattenNearSaid : Prop := flattenNearRow.holds Try.pinned (OpenSpec.ofChange flattenNearSpec)

/-- ITS FALSE NEIGHBOUR: 'it returns false'. Refute it at one input. -/
def flattenNearWrong : ChangeSpec := { name := "flattenNear", fn := fun _ => fun
  | [d1, d2, d3] => { results := [.lit (.bool false)], args := [d1, d2, d3] }
  | _ => none }
def FlattenNearWrongFalsely : Prop := flattenNearRow.holds Try.pinned (OpenSpec.ofChange flattenNearWrong)

/-- 'glyphiclaw24.SweepSquares': WHATEVER THE INPUT: true; the input reads as it did. -/
def sweepSquaresSpec : ChangeSpec := { name := "sweepSquares", fn := fun _ => fun
  | [d1, d2, d3, d4] => { results := [.lit (.bool true)], args := [d1, d2, d3, d4] }
  | _ => none }
def sweepSquaresRow : OpenClaim := { program := "ytpimfacaalkmdaa", sum := "155dde03bdc018631e8398e1957c186cee801d884353aa58ca3ceea531466b6e", func := "glyphic/glyphiclaw24.SweepSquares", spec := "sweepSquares", unfollowed := true, recurses := true, apart := false }
def SweepSquaresSaid : Prop := sweepSquaresRow.holds Try.pinned (OpenSpec.ofChange sweepSquaresSpec)

/-- ITS FALSE NEIGHBOUR: 'it returns false'. Refute it at one input. -/
def sweepSquaresWrong : ChangeSpec := { name := "sweepSquares", fn := fun _ => fun
  | [d1, d2, d3, d4] => { results := [.lit (.bool false)], args := [d1, d2, d3, d4] }
  | _ => none }
def SweepSquaresWrongFalsely : Prop := sweepSquaresRow.holds Try.pinned (OpenSpec.ofChange sweepSquaresWrong)

/-- 'glyphiclaw24.SweepSays': WHATEVER THE INPUT: true; the input reads as it did. -/
def sweepSaysSpec : ChangeSpec := { name := "sweepSays", fn := fun _ => fun
  | [d1, d2, d3, d4, d5, d6] => { results := [.lit (.bool true)], args := [d1, d2, d3, d4, d5, d6] }
  | _ => none }
def sweepSaysRow : OpenClaim := { program := "ytpimfacaalkmdaa", sum := "155dde03bdc018631e8398e1957c186cee801d884353aa58ca3ceea531466b6e", func := "glyphic/glyphiclaw24.SweepSays", spec := "sweepSays", unfollowed := true, recurses := true, apart := false }
def SweepSaysSaid : Prop := sweepSaysRow.holds Try.pinned (OpenSpec.ofChange sweepSaysSpec)

/-- ITS FALSE NEIGHBOUR: 'it returns false'. Refute it at one input. -/
def sweepSaysWrong : ChangeSpec := { name := "sweepSays", fn := fun _ => fun
  | [d1, d2, d3, d4, d5, d6] => { results := [.lit (.bool false)], args := [d1, d2, d3, d4, d5, d6] }
  | _ => none }
def SweepSaysWrongFalsely : Prop := sweepSaysRow.holds Try.pinned (OpenSpec.ofChange sweepSaysWrong)

/-- 'glyphiclaw24.SweepMoves': WHATEVER THE INPUT: true; the input reads as it did. -/
def sweepMovesSpec : ChangeSpec := { name := "sweepMoves", fn := fun _ => fun
  | [d1, d2, d3] => { results := [.lit (.bool true)], args := [d1, d2, d3] }
  | _ => none }
def sweepMovesRow : OpenClaim := { program := "ytpimfacaalkmdaa", sum := "155dde03bdc018631e8398e1957c186cee801d884353aa58ca3ceea531466b6e", func := "glyphic/glyphiclaw24.SweepMoves", spec := "sweepMoves", unfollowed := true, recurses := true, apart := false }
def SweepMovesSaid : Prop := sweepMovesRow.holds Try.pinned (OpenSpec.ofChange sweepMovesSpec)

/-- ITS FALSE NEIGHBOUR: 'it returns false'. Refute it at one input. -/
def sweepMovesWrong : ChangeSpec := { name := "sweepMoves", fn := fun _ => fun
  | [d1, d2, d3] => { results := [.lit (.bool false)], args := [d1, d2, d3] }
  | _ => none }
def SweepMovesWrongFalsely : Prop := sweepMovesRow.holds Try.pinned (OpenSpec.ofChange sweepMovesWrong)

/-- 'glyphiclaw24.SweepRows': WHATEVER THE INPUT: true; the input reads as it did. -/
def sweepRowsSpec : ChangeSpec := { name := "sweepRows", fn := fun _ => fun
  | [d1, d2, d3, d4, d5] => { results := [.lit (.bool true)], args := [d1, d2, d3, d4, d5] }
  | _ => none }
def sweepRowsRow : OpenClaim := { program := "ytpimfacaalkmdaa", sum := "155dde03bdc018631e8398e1957c186cee801d884353aa58ca3ceea531466b6e", func := "glyphic/glyphiclaw24.SweepRows", spec := "sweepRows", unfollowed := true, recurses := true, apart := false }
def SweepRowsSaid : Prop := sweepRowsRow.holds Try.pinned (OpenSpec.ofChange sweepRowsSpec)

/-- ITS FALSE NEIGHBOUR: 'it returns false'. Refute it at one input. -/
def sweepRowsWrong : ChangeSpec := { name := "sweepRows", fn := fun _ => fun
  | [d1, d2, d3, d4, d5] => { results := [.lit (.bool false)], args := [d1, d2, d3, d4, d5] }
  | _ => none }
def SweepRowsWrongFalsely : Prop := sweepRowsRow.holds Try.pinned (OpenSpec.ofChange sweepRowsWrong)

/-- 'glyphiclaw24.SweepParts': WHATEVER THE INPUT: true; the input reads as it did. -/
def sweepPartsSpec : ChangeSpec := { name := "sweepParts", fn := fun _ => fun
  | [d1, d2, d3] => { results := [.lit (.bool true)], args := [d1, d2, d3] }
  | _ => none }
def sweepPartsRow : OpenClaim := { program := "ytpimfacaalkmdaa", sum := "155dde03bdc018631e8398e1957c186cee801d884353aa58ca3ceea531466b6e", func := "glyphic/glyphiclaw24.SweepParts", spec := "sweepParts", unfollowed := true, recurses := true, apart := false }
def SweepPartsSaid : Prop := sweepPartsRow.holds Try.pinned (OpenSpec.ofChange sweepPartsSpec)

/-- ITS FALSE NEIGHBOUR: 'it returns false'. Refute it at one input. -/
def sweepPartsWrong : ChangeSpec := { name := "sweepParts", fn := fun _ => fun
  | [d1, d2, d3] => { results := [.lit (.bool false)], args := [d1, d2, d3] }
  | _ => none }
def SweepPartsWrongFalsely : Prop := sweepPartsRow.holds Try.pinned (OpenSpec.ofChange sweepPartsWrong)

/-- 'glyphiclaw25.PaintSays': WHATEVER THE INPUT: true; the input reads as it did. -/
def paintSaysSpec : ChangeSpec := { name := "paintSays", fn := fun _ => fun
  | [d1, d2, d3, d4, d5, d6] => { results := [.lit (.bool true)], args := [d1, d2, d3, d4, d5, d6] }
  | _ => none }
def paintSaysRow : OpenClaim := { program := "ytpimfacaalkmdaa", sum := "155dde03bdc018631e8398e1957c186cee801d884353aa58ca3ceea531466b6e", func := "glyphic/glyphiclaw25.PaintSays", spec := "paintSays", unfollowed := true, recurses := true, named := ["math/bits.divideError", "math/bits.overflowError"], apart := false }
def PaintSaysSaid : Prop := paintSaysRow.holds Try.pinned (OpenSpec.ofChange paintSaysSpec)

/-- ITS FALSE NEIGHBOUR: 'it returns false'. Refute it at one input. -/
def paintSaysWrong : ChangeSpec := { name := "paintSays", fn := fun _ => fun
  | [d1, d2, d3, d4, d5, d6] => { results := [.lit (.bool false)], args := [d1, d2, d3, d4, d5, d6] }
  | _ => none }
def PaintSaysWrongFalsely : Prop := paintSaysRow.holds Try.pinned (OpenSpec.ofChange paintSaysWrong)

/-- 'glyphiclaw24.SweepOrder': WHATEVER THE INPUT: true; the input reads as it did. -/
def sweepOrderSpec : ChangeSpec := { name := "sweepOrder", fn := fun _ => fun
  | [d] => { results := [.lit (.bool true)], args := [d] }
  | _ => none }
def sweepOrderRow : OpenClaim := { program := "ytpimfacaalkmdaa", sum := "155dde03bdc018631e8398e1957c186cee801d884353aa58ca3ceea531466b6e", func := "glyphic/glyphiclaw24.SweepOrder", spec := "sweepOrder", unfollowed := true, recurses := true, apart := false }
def SweepOrderSaid : Prop := sweepOrderRow.holds Try.pinned (OpenSpec.ofChange sweepOrderSpec)

/-- ITS FALSE NEIGHBOUR: 'it returns false'. Refute it at one input. -/
def sweepOrderWrong : ChangeSpec := { name := "sweepOrder", fn := fun _ => fun
  | [d] => { results := [.lit (.bool false)], args := [d] }
  | _ => none }
def SweepOrderWrongFalsely : Prop := sweepOrderRow.holds Try.pinned (OpenSpec.ofChange sweepOrderWrong)

/- THE SECOND FORM. 'bulk': how many values and letters a reading holds, each counted each time it is reached (what is shared counts as often as it is met; a slice's spare places count too). A statement '..UptoSaid' is the law's where the arguments, and the package variables that the reading takes, are together of bulk at most 1048576: NARROWER than '..Said'. Prove '..Said' where nothing that the law and all that it calls make is longer than what came in: it says more and counts as full. Else prove '..UptoSaid'. A law counts once. -/
mutual
def uptoBulk {H : Type} : DataW H → Nat
  | .lit (.string bytes) => bytes.length + 1
  | .lit _ => 1
  | .nil => 1
  | .ptr d => uptoBulk d + 1
  | .slice elems spare => uptoBulkAll elems + uptoBulkAll spare + 1
  | .agg parts => uptoBulkAll parts + 1
  | .iface _ d => uptoBulk d + 1
  | .map entries => uptoBulkEntries entries + 1
  | .held _ => 1
def uptoBulkAll {H : Type} : List (DataW H) → Nat
  | [] => 0
  | d :: r => uptoBulk d + uptoBulkAll r
def uptoBulkEntries {H : Type} : List (Lit × DataW H) → Nat
  | [] => 0
  | x :: r => uptoBulkEntry x + uptoBulkEntries r
def uptoBulkEntry {H : Type} : Lit × DataW H → Nat
  | (.string bytes, d) => bytes.length + uptoBulk d + 1
  | (_, d) => uptoBulk d + 1
 end
def uptoSmall : (H : Type) → List (DataW H) → Bool := fun _ ds => decide (uptoBulkAll ds ≤ 1048576)
def OpenSpec.upto (s : _root_.Go.ChangeSpec) : _root_.Go.OpenSpec := { _root_.Go.OpenSpec.ofChange s with cond := some uptoSmall }

/-- 'glyphiclaw23.StrokeMoves', WHERE WHAT IT READS IS OF BULK AT MOST 1048576: true; the input reads as it did. -/
def strokeMovesUptoRow : OpenClaim := { program := "ytpimfacaalkmdaa", sum := "155dde03bdc018631e8398e1957c186cee801d884353aa58ca3ceea531466b6e", func := "glyphic/glyphiclaw23.StrokeMoves", spec := "strokeMoves", unfollowed := true, recurses := true, apart := false, narrowed := true }
def StrokeMovesUptoSaid : Prop := strokeMovesUptoRow.holds Try.pinned (OpenSpec.upto strokeMovesSpec)

/-- 'glyphiclaw23.StrokeSays', WHERE WHAT IT READS IS OF BULK AT MOST 1048576: true; the input reads as it did. -/
def strokeSaysUptoRow : OpenClaim := { program := "ytpimfacaalkmdaa", sum := "155dde03bdc018631e8398e1957c186cee801d884353aa58ca3ceea531466b6e", func := "glyphic/glyphiclaw23.StrokeSays", spec := "strokeSays", unfollowed := true, recurses := true, apart := false, narrowed := true }
def StrokeSaysUptoSaid : Prop := strokeSaysUptoRow.holds Try.pinned (OpenSpec.upto strokeSaysSpec)

/-- 'glyphiclaw23.StrokeBoxes', WHERE WHAT IT READS IS OF BULK AT MOST 1048576: true; the input reads as it did. -/
def strokeBoxesUptoRow : OpenClaim := { program := "ytpimfacaalkmdaa", sum := "155dde03bdc018631e8398e1957c186cee801d884353aa58ca3ceea531466b6e", func := "glyphic/glyphiclaw23.StrokeBoxes", spec := "strokeBoxes", unfollowed := true, recurses := true, apart := false, narrowed := true }
def StrokeBoxesUptoSaid : Prop := strokeBoxesUptoRow.holds Try.pinned (OpenSpec.upto strokeBoxesSpec)

/-- 'glyphiclaw21.FlattenRows', WHERE WHAT IT READS IS OF BULK AT MOST 1048576: true; the input reads as it did. -/
def flattenRowsUptoRow : OpenClaim := { program := "ytpimfacaalkmdaa", sum := "155dde03bdc018631e8398e1957c186cee801d884353aa58ca3ceea531466b6e", func := "glyphic/glyphiclaw21.FlattenRows", spec := "flattenRows", unfollowed := true, recurses := true, apart := false, narrowed := true }
def FlattenRowsUptoSaid : Prop := flattenRowsUptoRow.holds Try.pinned (OpenSpec.upto flattenRowsSpec)

/-- 'glyphiclaw21.FlattenSays', WHERE WHAT IT READS IS OF BULK AT MOST 1048576: true; the input reads as it did. -/
def flattenSaysUptoRow : OpenClaim := { program := "ytpimfacaalkmdaa", sum := "155dde03bdc018631e8398e1957c186cee801d884353aa58ca3ceea531466b6e", func := "glyphic/glyphiclaw21.FlattenSays", spec := "flattenSays", unfollowed := true, recurses := true, apart := false, narrowed := true }
def FlattenSaysUptoSaid : Prop := flattenSaysUptoRow.holds Try.pinned (OpenSpec.upto flattenSaysSpec)

/-- 'glyphiclaw21.FlattenNear', WHERE WHAT IT READS IS OF BULK AT MOST 1048576: true; the input reads as it did. -/
def flattenNearUptoRow : OpenClaim := { program := "ytpimfacaalkmdaa", sum := "155dde03bdc018631e8398e1957c186cee801d884353aa58ca3ceea531466b6e", func := "glyphic/glyphiclaw21.FlattenNear", spec := "flattenNear", unfollowed := true, recurses := true, apart := false, narrowed := true }
def FlattenNearUptoSaid : Prop := flattenNearUptoRow.holds Try.pinned (OpenSpec.upto flattenNearSpec)

/-- 'glyphiclaw24.SweepSquares', WHERE WHAT IT READS IS OF BULK AT MOST 1048576: true; the input reads as it did. -/
def sweepSquaresUptoRow : OpenClaim := { program := "ytpimfacaalkmdaa", sum := "155dde03bdc018631e8398e1957c186cee801d884353aa58ca3ceea531466b6e", func := "glyphic/glyphiclaw24.SweepSquares", spec := "sweepSquares", unfollowed := true, recurses := true, apart := false, narrowed := true }
def SweepSquaresUptoSaid : Prop := sweepSquaresUptoRow.holds Try.pinned (OpenSpec.upto sweepSquaresSpec)

/-- 'glyphiclaw24.SweepSays', WHERE WHAT IT READS IS OF BULK AT MOST 1048576: true; the input reads as it did. -/
def sweepSaysUptoRow : OpenClaim := { program := "ytpimfacaalkmdaa", sum := "155dde03bdc018631e8398e1957c186cee801d884353aa58ca3ceea531466b6e", func := "glyphic/glyphiclaw24.SweepSays", spec := "sweepSays", unfollowed := true, recurses := true, apart := false, narrowed := true }
def SweepSaysUptoSaid : Prop := sweepSaysUptoRow.holds Try.pinned (OpenSpec.upto sweepSaysSpec)

/-- 'glyphiclaw24.SweepMoves', WHERE WHAT IT READS IS OF BULK AT MOST 1048576: true; the input reads as it did. -/
def sweepMovesUptoRow : OpenClaim := { program := "ytpimfacaalkmdaa", sum := "155dde03bdc018631e8398e1957c186cee801d884353aa58ca3ceea531466b6e", func := "glyphic/glyphiclaw24.SweepMoves", spec := "sweepMoves", unfollowed := true, recurses := true, apart := false, narrowed := true }
def SweepMovesUptoSaid : Prop := sweepMovesUptoRow.holds Try.pinned (OpenSpec.upto sweepMovesSpec)

/-- 'glyphiclaw24.SweepRows', WHERE WHAT IT READS IS OF BULK AT MOST 1048576: true; the input reads as it did. -/
def sweepRowsUptoRow : OpenClaim := { program := "ytpimfacaalkmdaa", sum := "155dde03bdc018631e8398e1957c186cee801d884353aa58ca3ceea531466b6e", func := "glyphic/glyphiclaw24.SweepRows", spec := "sweepRows", unfollowed := true, recurses := true, apart := false, narrowed := true }
def SweepRowsUptoSaid : Prop := sweepRowsUptoRow.holds Try.pinned (OpenSpec.upto sweepRowsSpec)

/-- 'glyphiclaw24.SweepParts', WHERE WHAT IT READS IS OF BULK AT MOST 1048576: true; the input reads as it did. -/
def sweepPartsUptoRow : OpenClaim := { program := "ytpimfacaalkmdaa", sum := "155dde03bdc018631e8398e1957c186cee801d884353aa58ca3ceea531466b6e", func := "glyphic/glyphiclaw24.SweepParts", spec := "sweepParts", unfollowed := true, recurses := true, apart := false, narrowed := true }
def SweepPartsUptoSaid : Prop := sweepPartsUptoRow.holds Try.pinned (OpenSpec.upto sweepPartsSpec)

/-- 'glyphiclaw25.PaintSays', WHERE WHAT IT READS IS OF BULK AT MOST 1048576: true; the input reads as it did. -/
def paintSaysUptoRow : OpenClaim := { program := "ytpimfacaalkmdaa", sum := "155dde03bdc018631e8398e1957c186cee801d884353aa58ca3ceea531466b6e", func := "glyphic/glyphiclaw25.PaintSays", spec := "paintSays", unfollowed := true, recurses := true, named := ["math/bits.divideError", "math/bits.overflowError"], apart := false, narrowed := true }
def PaintSaysUptoSaid : Prop := paintSaysUptoRow.holds Try.pinned (OpenSpec.upto paintSaysSpec)

/-- 'glyphiclaw24.SweepOrder', WHERE WHAT IT READS IS OF BULK AT MOST 1048576: true; the input reads as it did. -/
def sweepOrderUptoRow : OpenClaim := { program := "ytpimfacaalkmdaa", sum := "155dde03bdc018631e8398e1957c186cee801d884353aa58ca3ceea531466b6e", func := "glyphic/glyphiclaw24.SweepOrder", spec := "sweepOrder", unfollowed := true, recurses := true, apart := false, narrowed := true }
def SweepOrderUptoSaid : Prop := sweepOrderUptoRow.holds Try.pinned (OpenSpec.upto sweepOrderSpec)

end Rows
end Go.Proofs.Ytpimfacaalkmdaa
