/-
  No cell of these rows narrows 'for every input' (looked for: loops, veiled, ifaces, maps, wideKeys, modest, calm, conditions, laid).
  DERIVED. THE GIVEN ROWS OF THIS SEAT. 9 by the template 'for every input the law returns true; each argument reads behind the call as it read before'; 0 by the template 'total and deterministic' (their statements: YtijjgmkhgcofiaaTotals.lean).
  GIVEN WITH THE SEED: the statements are not yours to turn. If you find one false, say at which input.
  Laid BY PROGRAM, IN A SANDBOX (cutbox-rows.mjs): the forced cells as the released guide's own fill.sh prints them over the translation 1c3f3766ed3cc71f… (all of the seat's roots in one cut). By AI agents, Wed Nov 11 2026. No macro, syntax, notation, axiom, sorry.
-/
import Derived.Test.YtijjgmkhgcofiaaChecked
import GoSem.Claim
import GoSem.ClaimJoined
import GoSem.ClaimMapViews
import Derived.JoinedTies
import Derived.KernelRfl
namespace Go.Proofs.Ytijjgmkhgcofiaa
/- THE CELL 'sum', in the pinned program and in every row, IS THE sha256 OF THE DUMP (.gsa) THAT YtijjgmkhgcofiaaProg.lean LOADS. Nothing in Lean hashes anything: it is a label: what it is worth is what the hold of that sum in a sandbox is worth. -/
noncomputable def Try.pinned : Pinned := { name := "ytijjgmkhgcofiaa", sum := "1c3f3766ed3cc71f76dfce119ac0dc849344be89adc18573205ed8920e608b5c", checked := Try.checked }
namespace Rows
def none {H : Type} : Left H := { results := [], args := [] }

/-- 'glyphiclaw23.StrokeMoves': WHATEVER THE INPUT: true; the input reads as it did. -/
def strokeMovesSpec : ChangeSpec := { name := "strokeMoves", fn := fun _ => fun
  | [d1, d2, d3, d4] => { results := [.lit (.bool true)], args := [d1, d2, d3, d4] }
  | _ => none }
def strokeMovesRow : OpenClaim := { program := "ytijjgmkhgcofiaa", sum := "1c3f3766ed3cc71f76dfce119ac0dc849344be89adc18573205ed8920e608b5c", func := "glyphic/glyphiclaw23.StrokeMoves", spec := "strokeMoves", unfollowed := true, recurses := true, apart := false }
def StrokeMovesSaid : Prop := strokeMovesRow.holds Try.pinned (OpenSpec.ofChange strokeMovesSpec)

/-- ITS FALSE NEIGHBOUR: 'it returns false'. Refute it at one input. -/
def strokeMovesWrong : ChangeSpec := { name := "strokeMoves", fn := fun _ => fun
  | [d1, d2, d3, d4] => { results := [.lit (.bool false)], args := [d1, d2, d3, d4] }
  | _ => none }
def StrokeMovesWrongFalsely : Prop := strokeMovesRow.holds Try.pinned (OpenSpec.ofChange strokeMovesWrong)

/-- 'glyphiclaw23.StrokeSays': WHATEVER THE INPUT: true; the input reads as it did. -/
def strokeSaysSpec : ChangeSpec := { name := "strokeSays", fn := fun _ => fun
  | [d1, d2, d3, d4] => { results := [.lit (.bool true)], args := [d1, d2, d3, d4] }
  | _ => none }
def strokeSaysRow : OpenClaim := { program := "ytijjgmkhgcofiaa", sum := "1c3f3766ed3cc71f76dfce119ac0dc849344be89adc18573205ed8920e608b5c", func := "glyphic/glyphiclaw23.StrokeSays", spec := "strokeSays", unfollowed := true, recurses := true, apart := false }
def StrokeSaysSaid : Prop := strokeSaysRow.holds Try.pinned (OpenSpec.ofChange strokeSaysSpec)

/-- ITS FALSE NEIGHBOUR: 'it returns false'. Refute it at one input. -/
def strokeSaysWrong : ChangeSpec := { name := "strokeSays", fn := fun _ => fun
  | [d1, d2, d3, d4] => { results := [.lit (.bool false)], args := [d1, d2, d3, d4] }
  | _ => none }
def StrokeSaysWrongFalsely : Prop := strokeSaysRow.holds Try.pinned (OpenSpec.ofChange strokeSaysWrong)

/-- 'glyphiclaw23.StrokeBoxes': WHATEVER THE INPUT: true; the input reads as it did. -/
def strokeBoxesSpec : ChangeSpec := { name := "strokeBoxes", fn := fun _ => fun
  | [d1, d2, d3, d4, d5] => { results := [.lit (.bool true)], args := [d1, d2, d3, d4, d5] }
  | _ => none }
def strokeBoxesRow : OpenClaim := { program := "ytijjgmkhgcofiaa", sum := "1c3f3766ed3cc71f76dfce119ac0dc849344be89adc18573205ed8920e608b5c", func := "glyphic/glyphiclaw23.StrokeBoxes", spec := "strokeBoxes", unfollowed := true, recurses := true, apart := false }
def StrokeBoxesSaid : Prop := strokeBoxesRow.holds Try.pinned (OpenSpec.ofChange strokeBoxesSpec)

/-- ITS FALSE NEIGHBOUR: 'it returns false'. Refute it at one input. -/
def strokeBoxesWrong : ChangeSpec := { name := "strokeBoxes", fn := fun _ => fun
  | [d1, d2, d3, d4, d5] => { results := [.lit (.bool false)], args := [d1, d2, d3, d4, d5] }
  | _ => none }
def StrokeBoxesWrongFalsely : Prop := strokeBoxesRow.holds Try.pinned (OpenSpec.ofChange strokeBoxesWrong)

/-- 'glyphiclaw23.StrokeDots': WHATEVER THE INPUT: true; the input reads as it did. -/
def strokeDotsSpec : ChangeSpec := { name := "strokeDots", fn := fun _ => fun
  | [d1, d2, d3, d4] => { results := [.lit (.bool true)], args := [d1, d2, d3, d4] }
  | _ => none }
def strokeDotsRow : OpenClaim := { program := "ytijjgmkhgcofiaa", sum := "1c3f3766ed3cc71f76dfce119ac0dc849344be89adc18573205ed8920e608b5c", func := "glyphic/glyphiclaw23.StrokeDots", spec := "strokeDots", unfollowed := true, recurses := true, apart := false }
def StrokeDotsSaid : Prop := strokeDotsRow.holds Try.pinned (OpenSpec.ofChange strokeDotsSpec)

/-- ITS FALSE NEIGHBOUR: 'it returns false'. Refute it at one input. -/
def strokeDotsWrong : ChangeSpec := { name := "strokeDots", fn := fun _ => fun
  | [d1, d2, d3, d4] => { results := [.lit (.bool false)], args := [d1, d2, d3, d4] }
  | _ => none }
def StrokeDotsWrongFalsely : Prop := strokeDotsRow.holds Try.pinned (OpenSpec.ofChange strokeDotsWrong)

/-- 'glyphiclaw21.FlattenRows': WHATEVER THE INPUT: true; the input reads as it did. -/
def flattenRowsSpec : ChangeSpec := { name := "flattenRows", fn := fun _ => fun
  | [d1, d2, d3] => { results := [.lit (.bool true)], args := [d1, d2, d3] }
  | _ => none }
def flattenRowsRow : OpenClaim := { program := "ytijjgmkhgcofiaa", sum := "1c3f3766ed3cc71f76dfce119ac0dc849344be89adc18573205ed8920e608b5c", func := "glyphic/glyphiclaw21.FlattenRows", spec := "flattenRows", unfollowed := true, recurses := true, apart := false }
def FlattenRowsSaid : Prop := flattenRowsRow.holds Try.pinned (OpenSpec.ofChange flattenRowsSpec)

/-- ITS FALSE NEIGHBOUR: 'it returns false'. Refute it at one input. -/
def flattenRowsWrong : ChangeSpec := { name := "flattenRows", fn := fun _ => fun
  | [d1, d2, d3] => { results := [.lit (.bool false)], args := [d1, d2, d3] }
  | _ => none }
def FlattenRowsWrongFalsely : Prop := flattenRowsRow.holds Try.pinned (OpenSpec.ofChange flattenRowsWrong)

/-- 'glyphiclaw21.FlattenCounts': WHATEVER THE INPUT: true; the input reads as it did. -/
def flattenCountsSpec : ChangeSpec := { name := "flattenCounts", fn := fun _ => fun
  | [d1, d2, d3, d4, d5] => { results := [.lit (.bool true)], args := [d1, d2, d3, d4, d5] }
  | _ => none }
def flattenCountsRow : OpenClaim := { program := "ytijjgmkhgcofiaa", sum := "1c3f3766ed3cc71f76dfce119ac0dc849344be89adc18573205ed8920e608b5c", func := "glyphic/glyphiclaw21.FlattenCounts", spec := "flattenCounts", unfollowed := true, recurses := true, apart := false }
def FlattenCountsSaid : Prop := flattenCountsRow.holds Try.pinned (OpenSpec.ofChange flattenCountsSpec)

/-- ITS FALSE NEIGHBOUR: 'it returns false'. Refute it at one input. -/
def flattenCountsWrong : ChangeSpec := { name := "flattenCounts", fn := fun _ => fun
  | [d1, d2, d3, d4, d5] => { results := [.lit (.bool false)], args := [d1, d2, d3, d4, d5] }
  | _ => none }
def FlattenCountsWrongFalsely : Prop := flattenCountsRow.holds Try.pinned (OpenSpec.ofChange flattenCountsWrong)

/-- 'glyphiclaw21.FlattenEnds': WHATEVER THE INPUT: true; the input reads as it did. -/
def flattenEndsSpec : ChangeSpec := { name := "flattenEnds", fn := fun _ => fun
  | [d1, d2, d3, d4, d5] => { results := [.lit (.bool true)], args := [d1, d2, d3, d4, d5] }
  | _ => none }
def flattenEndsRow : OpenClaim := { program := "ytijjgmkhgcofiaa", sum := "1c3f3766ed3cc71f76dfce119ac0dc849344be89adc18573205ed8920e608b5c", func := "glyphic/glyphiclaw21.FlattenEnds", spec := "flattenEnds", unfollowed := true, recurses := true, apart := false }
def FlattenEndsSaid : Prop := flattenEndsRow.holds Try.pinned (OpenSpec.ofChange flattenEndsSpec)

/-- ITS FALSE NEIGHBOUR: 'it returns false'. Refute it at one input. -/
def flattenEndsWrong : ChangeSpec := { name := "flattenEnds", fn := fun _ => fun
  | [d1, d2, d3, d4, d5] => { results := [.lit (.bool false)], args := [d1, d2, d3, d4, d5] }
  | _ => none }
def FlattenEndsWrongFalsely : Prop := flattenEndsRow.holds Try.pinned (OpenSpec.ofChange flattenEndsWrong)

/-- 'glyphiclaw21.FlattenSays': WHATEVER THE INPUT: true; the input reads as it did. -/
def flattenSaysSpec : ChangeSpec := { name := "flattenSays", fn := fun _ => fun
  | [d1, d2, d3, d4] => { results := [.lit (.bool true)], args := [d1, d2, d3, d4] }
  | _ => none }
def flattenSaysRow : OpenClaim := { program := "ytijjgmkhgcofiaa", sum := "1c3f3766ed3cc71f76dfce119ac0dc849344be89adc18573205ed8920e608b5c", func := "glyphic/glyphiclaw21.FlattenSays", spec := "flattenSays", unfollowed := true, recurses := true, apart := false }
def FlattenSaysSaid : Prop := flattenSaysRow.holds Try.pinned (OpenSpec.ofChange flattenSaysSpec)

/-- ITS FALSE NEIGHBOUR: 'it returns false'. Refute it at one input. -/
def flattenSaysWrong : ChangeSpec := { name := "flattenSays", fn := fun _ => fun
  | [d1, d2, d3, d4] => { results := [.lit (.bool false)], args := [d1, d2, d3, d4] }
  | _ => none }
def FlattenSaysWrongFalsely : Prop := flattenSaysRow.holds Try.pinned (OpenSpec.ofChange flattenSaysWrong)

/-- 'glyphiclaw21.FlattenNear': WHATEVER THE INPUT: true; the input reads as it did. -/
def flattenNearSpec : ChangeSpec := { name := "flattenNear", fn := fun _ => fun
  | [d1, d2, d3] => { results := [.lit (.bool true)], args := [d1, d2, d3] }
  | _ => none }
def flattenNearRow : OpenClaim := { program := "ytijjgmkhgcofiaa", sum := "1c3f3766ed3cc71f76dfce119ac0dc849344be89adc18573205ed8920e608b5c", func := "glyphic/glyphiclaw21.FlattenNear", spec := "flattenNear", unfollowed := true, recurses := true, apart := false }
def FlattenNearSaid : Prop := flattenNearRow.holds Try.pinned (OpenSpec.ofChange flattenNearSpec)

/-- ITS FALSE NEIGHBOUR: 'it returns false'. Refute it at one input. -/
def flattenNearWrong : ChangeSpec := { name := "flattenNear", fn := fun _ => fun
  | [d1, d2, d3] => { results := [.lit (.bool false)], args := [d1, d2, d3] }
  | _ => none }
def FlattenNearWrongFalsely : Prop := flattenNearRow.holds Try.pinned (OpenSpec.ofChange flattenNearWrong)

/- THE SECOND FORM. 'bulk': how many values and letters a reading holds, each counted each time it is reached (what is shared counts as often as it is met; a slice's spare places count too). A statement '..UptoSaid' is the law's where the arguments, and the package variables that the reading takes, are together of bulk at most 1048576: NARROWER than '..Said'. Prove '..Said' where nothing that the law and all that it calls make is longer than what came in: it says more and counts as full. Else prove '..UptoSaid'. A law counts once. -/
mutual
def uptoBulk {H : Type} : DataW H → Nat
  | .lit (.string bytes) => bytes.length + 1
  | .lit _ => 1
  | .nil => 1
  | .ptr d => uptoBulk d + 1
  | .slice elems spare => uptoBulkAll elems + uptoBulkAll spare + 1
  | .agg parts => uptoBulkAll parts + 1
  | .iface _ d => uptoBulk d + 1
  | .map entries => uptoBulkEntries entries + 1
  | .held _ => 1
def uptoBulkAll {H : Type} : List (DataW H) → Nat
  | [] => 0
  | d :: r => uptoBulk d + uptoBulkAll r
def uptoBulkEntries {H : Type} : List (Lit × DataW H) → Nat
  | [] => 0
  | x :: r => uptoBulkEntry x + uptoBulkEntries r
def uptoBulkEntry {H : Type} : Lit × DataW H → Nat
  | (.string bytes, d) => bytes.length + uptoBulk d + 1
  | (_, d) => uptoBulk d + 1
 end
def uptoSmall : (H : Type) → List (DataW H) → Bool := fun _ ds => decide (uptoBulkAll ds ≤ 1048576)
def OpenSpec.upto (s : _root_.Go.ChangeSpec) : _root_.Go.OpenSpec := { _root_.Go.OpenSpec.ofChange s with cond := some uptoSmall }

/-- 'glyphiclaw23.StrokeMoves', WHERE WHAT IT READS IS OF BULK AT MOST 1048576: true; the input reads as it did. -/
def strokeMovesUptoRow : OpenClaim := { program := "ytijjgmkhgcofiaa", sum := "1c3f3766ed3cc71f76dfce119ac0dc849344be89adc18573205ed8920e608b5c", func := "glyphic/glyphiclaw23.StrokeMoves", spec := "strokeMoves", unfollowed := true, recurses := true, apart := false, narrowed := true }
def StrokeMovesUptoSaid : Prop := strokeMovesUptoRow.holds Try.pinned (OpenSpec.upto strokeMovesSpec)

/-- 'glyphiclaw23.StrokeSays', WHERE WHAT IT READS IS OF BULK AT MOST 1048576: true; the input reads as it did. -/
def strokeSaysUptoRow : OpenClaim := { program := "ytijjgmkhgcofiaa", sum := "1c3f3766ed3cc71f76dfce119ac0dc849344be89adc18573205ed8920e608b5c", func := "glyphic/glyphiclaw23.StrokeSays", spec := "strokeSays", unfollowed := true, recurses := true, apart := false, narrowed := true }
def StrokeSaysUptoSaid : Prop := strokeSaysUptoRow.holds Try.pinned (OpenSpec.upto strokeSaysSpec)

/-- 'glyphiclaw23.StrokeBoxes', WHERE WHAT IT READS IS OF BULK AT MOST 1048576: true; the input reads as it did. -/
def strokeBoxesUptoRow : OpenClaim := { program := "ytijjgmkhgcofiaa", sum := "1c3f3766ed3cc71f76dfce119ac0dc849344be89adc18573205ed8920e608b5c", func := "glyphic/glyphiclaw23.StrokeBoxes", spec := "strokeBoxes", unfollowed := true, recurses := true, apart := false, narrowed := true }
def StrokeBoxesUptoSaid : Prop := strokeBoxesUptoRow.holds Try.pinned (OpenSpec.upto strokeBoxesSpec)

/-- 'glyphiclaw23.StrokeDots', WHERE WHAT IT READS IS OF BULK AT MOST 1048576: true; the input reads as it did. -/
def strokeDotsUptoRow : OpenClaim := { program := "ytijjgmkhgcofiaa", sum := "1c3f3766ed3cc71f76dfce119ac0dc849344be89adc18573205ed8920e608b5c", func := "glyphic/glyphiclaw23.StrokeDots", spec := "strokeDots", unfollowed := true, recurses := true, apart := false, narrowed := true }
def StrokeDotsUptoSaid : Prop := strokeDotsUptoRow.holds Try.pinned (OpenSpec.upto strokeDotsSpec)

/-- 'glyphiclaw21.FlattenRows', WHERE WHAT IT READS IS OF BULK AT MOST 1048576: true; the input reads as it did. -/
def flattenRowsUptoRow : OpenClaim := { program := "ytijjgmkhgcofiaa", sum := "1c3f3766ed3cc71f76dfce119ac0dc849344be89adc18573205ed8920e608b5c", func := "glyphic/glyphiclaw21.FlattenRows", spec := "flattenRows", unfollowed := true, recurses := true, apart := false, narrowed := true }
def FlattenRowsUptoSaid : Prop := flattenRowsUptoRow.holds Try.pinned (OpenSpec.upto flattenRowsSpec)

/-- 'glyphiclaw21.FlattenCounts', WHERE WHAT IT READS IS OF BULK AT MOST 1048576: true; the input reads as it did. -/
def flattenCountsUptoRow : OpenClaim := { program := "ytijjgmkhgcofiaa", sum := "1c3f3766ed3cc71f76dfce119ac0dc849344be89adc18573205ed8920e608b5c", func := "glyphic/glyphiclaw21.FlattenCounts", spec := "flattenCounts", unfollowed := true, recurses := true, apart := false, narrowed := true }
def FlattenCountsUptoSaid : Prop := flattenCountsUptoRow.holds Try.pinned (OpenSpec.upto flattenCountsSpec)

/-- 'glyphiclaw21.FlattenEnds', WHERE WHAT IT READS IS OF BULK AT MOST 1048576: true; the input reads as it did. -/
def flattenEndsUptoRow : OpenClaim := { program := "ytijjgmkhgcofiaa", sum := "1c3f3766ed3cc71f76dfce119ac0dc849344be89adc18573205ed8920e608b5c", func := "glyphic/glyphiclaw21.FlattenEnds", spec := "flattenEnds", unfollowed := true, recurses := true, apart := false, narrowed := true }
def FlattenEndsUptoSaid : Prop := flattenEndsUptoRow.holds Try.pinned (OpenSpec.upto flattenEndsSpec)

/-- 'glyphiclaw21.FlattenSays', WHERE WHAT IT READS IS OF BULK AT MOST 1048576: true; the input reads as it did. -/
def flattenSaysUptoRow : OpenClaim := { program := "ytijjgmkhgcofiaa", sum := "1c3f3766ed3cc71f76dfce119ac0dc849344be89adc18573205ed8920e608b5c", func := "glyphic/glyphiclaw21.FlattenSays", spec := "flattenSays", unfollowed := true, recurses := true, apart := false, narrowed := true }
def FlattenSaysUptoSaid : Prop := flattenSaysUptoRow.holds Try.pinned (OpenSpec.upto flattenSaysSpec)

/-- 'glyphiclaw21.FlattenNear', WHERE WHAT IT READS IS OF BULK AT MOST 1048576: true; the input reads as it did. -/
def flattenNearUptoRow : OpenClaim := { program := "ytijjgmkhgcofiaa", sum := "1c3f3766ed3cc71f76dfce119ac0dc849344be89adc18573205ed8920e608b5c", func := "glyphic/glyphiclaw21.FlattenNear", spec := "flattenNear", unfollowed := true, recurses := true, apart := false, narrowed := true }
def FlattenNearUptoSaid : Prop := flattenNearUptoRow.holds Try.pinned (OpenSpec.upto flattenNearSpec)

end Rows
end Go.Proofs.Ytijjgmkhgcofiaa
