/-
  No cell of these rows narrows 'for every input' (looked for: loops, veiled, ifaces, maps, wideKeys, modest, calm, conditions, laid).
  DERIVED. THE GIVEN ROWS OF THIS SEAT. 18 by the template 'for every input the law returns true; each argument reads behind the call as it read before'; 0 by the template 'total and deterministic' (their statements: YtgaikembekkfiaaTotals.lean).
  GIVEN WITH THE SEED: the statements are not yours to turn. If you find one false, say at which input.
  Laid BY PROGRAM, IN A SANDBOX (cutbox-rows.mjs): the forced cells as the released guide's own fill.sh prints them over the translation 898958384c9ece2e… (all of the seat's roots in one cut). By AI agents, Wed Nov 11 2026. No macro, syntax, notation, axiom, sorry.
-/
import Derived.Test.YtgaikembekkfiaaChecked
import GoSem.Claim
import GoSem.ClaimJoined
import GoSem.ClaimMapViews
import Derived.JoinedTies
import Derived.KernelRfl
namespace Go.Proofs.Ytgaikembekkfiaa
/- THE CELL 'sum', in the pinned program and in every row, IS THE sha256 OF THE DUMP (.gsa) THAT YtgaikembekkfiaaProg.lean LOADS. Nothing in Lean hashes anything: it is a label: what it is worth is what the hold of that sum in a sandbox is worth. -/
noncomputable def Try.pinned : Pinned := { name := "ytgaikembekkfiaa", sum := "898958384c9ece2e3c0b2a0df21ad51e5a1035c88762f7e90331afd0917f15f9", checked := Try.checked }
namespace Rows
def none {H : Type} : Left H := { results := [], args := [] }

/-- 'glyphiclaw15.QuantBack': WHATEVER THE INPUT: true; the input reads as it did. -/
def quantBackSpec : ChangeSpec := { name := "quantBack", fn := fun _ => fun
  | [d1, d2, d3, d4] => { results := [.lit (.bool true)], args := [d1, d2, d3, d4] }
  | _ => none }
def quantBackRow : OpenClaim := { program := "ytgaikembekkfiaa", sum := "898958384c9ece2e3c0b2a0df21ad51e5a1035c88762f7e90331afd0917f15f9", func := "glyphic/glyphiclaw15.QuantBack", spec := "quantBack", apart := false }
def QuantBackSaid : Prop := quantBackRow.holds Try.pinned (OpenSpec.ofChange quantBackSpec)

/-- ITS FALSE NEIGHBOUR: 'it returns false'. Refute it at one input. -/
def quantBackWrong : ChangeSpec := { name := "quantBack", fn := fun _ => fun
  | [d1, d2, d3, d4] => { results := [.lit (.bool false)], args := [d1, d2, d3, d4] }
  | _ => none }
def QuantBackWrongFalsely : Prop := quantBackRow.holds Try.pinned (OpenSpec.ofChange quantBackWrong)

/-- 'glyphiclaw15.QuantWhole': WHATEVER THE INPUT: true; the input reads as it did. -/
def quantWholeSpec : ChangeSpec := { name := "quantWhole", fn := fun _ => fun
  | [d1, d2] => { results := [.lit (.bool true)], args := [d1, d2] }
  | _ => none }
def quantWholeRow : OpenClaim := { program := "ytgaikembekkfiaa", sum := "898958384c9ece2e3c0b2a0df21ad51e5a1035c88762f7e90331afd0917f15f9", func := "glyphic/glyphiclaw15.QuantWhole", spec := "quantWhole", apart := false }
def QuantWholeSaid : Prop := quantWholeRow.holds Try.pinned (OpenSpec.ofChange quantWholeSpec)

/-- ITS FALSE NEIGHBOUR: 'it returns false'. Refute it at one input. -/
def quantWholeWrong : ChangeSpec := { name := "quantWhole", fn := fun _ => fun
  | [d1, d2] => { results := [.lit (.bool false)], args := [d1, d2] }
  | _ => none }
def QuantWholeWrongFalsely : Prop := quantWholeRow.holds Try.pinned (OpenSpec.ofChange quantWholeWrong)

/-- 'glyphiclaw15.QuantSays': WHATEVER THE INPUT: true; the input reads as it did. -/
def quantSaysSpec : ChangeSpec := { name := "quantSays", fn := fun _ => fun
  | [d1, d2, d3, d4] => { results := [.lit (.bool true)], args := [d1, d2, d3, d4] }
  | _ => none }
def quantSaysRow : OpenClaim := { program := "ytgaikembekkfiaa", sum := "898958384c9ece2e3c0b2a0df21ad51e5a1035c88762f7e90331afd0917f15f9", func := "glyphic/glyphiclaw15.QuantSays", spec := "quantSays", apart := false }
def QuantSaysSaid : Prop := quantSaysRow.holds Try.pinned (OpenSpec.ofChange quantSaysSpec)

/-- ITS FALSE NEIGHBOUR: 'it returns false'. Refute it at one input. -/
def quantSaysWrong : ChangeSpec := { name := "quantSays", fn := fun _ => fun
  | [d1, d2, d3, d4] => { results := [.lit (.bool false)], args := [d1, d2, d3, d4] }
  | _ => none }
def QuantSaysWrongFalsely : Prop := quantSaysRow.holds Try.pinned (OpenSpec.ofChange quantSaysWrong)

/-- 'glyphiclaw15.QuantScales': WHATEVER THE INPUT: true; the input reads as it did. -/
def quantScalesSpec : ChangeSpec := { name := "quantScales", fn := fun _ => fun
  | [d1, d2, d3] => { results := [.lit (.bool true)], args := [d1, d2, d3] }
  | _ => none }
def quantScalesRow : OpenClaim := { program := "ytgaikembekkfiaa", sum := "898958384c9ece2e3c0b2a0df21ad51e5a1035c88762f7e90331afd0917f15f9", func := "glyphic/glyphiclaw15.QuantScales", spec := "quantScales", apart := false }
def QuantScalesSaid : Prop := quantScalesRow.holds Try.pinned (OpenSpec.ofChange quantScalesSpec)

/-- ITS FALSE NEIGHBOUR: 'it returns false'. Refute it at one input. -/
def quantScalesWrong : ChangeSpec := { name := "quantScales", fn := fun _ => fun
  | [d1, d2, d3] => { results := [.lit (.bool false)], args := [d1, d2, d3] }
  | _ => none }
def QuantScalesWrongFalsely : Prop := quantScalesRow.holds Try.pinned (OpenSpec.ofChange quantScalesWrong)

/-- 'glyphiclaw1.FixedNearest': WHATEVER THE INPUT: true; the input reads as it did. -/
def fixedNearestSpec : ChangeSpec := { name := "fixedNearest", fn := fun _ => fun
  | [d1, d2] => { results := [.lit (.bool true)], args := [d1, d2] }
  | _ => none }
def fixedNearestRow : OpenClaim := { program := "ytgaikembekkfiaa", sum := "898958384c9ece2e3c0b2a0df21ad51e5a1035c88762f7e90331afd0917f15f9", func := "glyphic/glyphiclaw1.FixedNearest", spec := "fixedNearest", apart := false }
def FixedNearestSaid : Prop := fixedNearestRow.holds Try.pinned (OpenSpec.ofChange fixedNearestSpec)

/-- ITS FALSE NEIGHBOUR: 'it returns false'. Refute it at one input. -/
def fixedNearestWrong : ChangeSpec := { name := "fixedNearest", fn := fun _ => fun
  | [d1, d2] => { results := [.lit (.bool false)], args := [d1, d2] }
  | _ => none }
def FixedNearestWrongFalsely : Prop := fixedNearestRow.holds Try.pinned (OpenSpec.ofChange fixedNearestWrong)

/-- 'glyphiclaw1.FixedRoots': WHATEVER THE INPUT: true; the input reads as it did. -/
def fixedRootsSpec : ChangeSpec := { name := "fixedRoots", fn := fun _ => fun
  | [d1, d2] => { results := [.lit (.bool true)], args := [d1, d2] }
  | _ => none }
def fixedRootsRow : OpenClaim := { program := "ytgaikembekkfiaa", sum := "898958384c9ece2e3c0b2a0df21ad51e5a1035c88762f7e90331afd0917f15f9", func := "glyphic/glyphiclaw1.FixedRoots", spec := "fixedRoots", apart := false }
def FixedRootsSaid : Prop := fixedRootsRow.holds Try.pinned (OpenSpec.ofChange fixedRootsSpec)

/-- ITS FALSE NEIGHBOUR: 'it returns false'. Refute it at one input. -/
def fixedRootsWrong : ChangeSpec := { name := "fixedRoots", fn := fun _ => fun
  | [d1, d2] => { results := [.lit (.bool false)], args := [d1, d2] }
  | _ => none }
def FixedRootsWrongFalsely : Prop := fixedRootsRow.holds Try.pinned (OpenSpec.ofChange fixedRootsWrong)

/-- 'glyphiclaw1.FixedCuts': WHATEVER THE INPUT: true; the input reads as it did. -/
def fixedCutsSpec : ChangeSpec := { name := "fixedCuts", fn := fun _ => fun
  | [d1, d2, d3, d4, d5] => { results := [.lit (.bool true)], args := [d1, d2, d3, d4, d5] }
  | _ => none }
def fixedCutsRow : OpenClaim := { program := "ytgaikembekkfiaa", sum := "898958384c9ece2e3c0b2a0df21ad51e5a1035c88762f7e90331afd0917f15f9", func := "glyphic/glyphiclaw1.FixedCuts", spec := "fixedCuts", apart := false }
def FixedCutsSaid : Prop := fixedCutsRow.holds Try.pinned (OpenSpec.ofChange fixedCutsSpec)

/-- ITS FALSE NEIGHBOUR: 'it returns false'. Refute it at one input. -/
def fixedCutsWrong : ChangeSpec := { name := "fixedCuts", fn := fun _ => fun
  | [d1, d2, d3, d4, d5] => { results := [.lit (.bool false)], args := [d1, d2, d3, d4, d5] }
  | _ => none }
def FixedCutsWrongFalsely : Prop := fixedCutsRow.holds Try.pinned (OpenSpec.ofChange fixedCutsWrong)

/-- 'glyphiclaw4.PlaneStraight': WHATEVER THE INPUT: true; the input reads as it did. -/
def planeStraightSpec : ChangeSpec := { name := "planeStraight", fn := fun _ => fun
  | [d1, d2, d3, d4, d5, d6] => { results := [.lit (.bool true)], args := [d1, d2, d3, d4, d5, d6] }
  | _ => none }
def planeStraightRow : OpenClaim := { program := "ytgaikembekkfiaa", sum := "898958384c9ece2e3c0b2a0df21ad51e5a1035c88762f7e90331afd0917f15f9", func := "glyphic/glyphiclaw4.PlaneStraight", spec := "planeStraight", unfollowed := true, recurses := true, apart := false }
def PlaneStraightSaid : Prop := planeStraightRow.holds Try.pinned (OpenSpec.ofChange planeStraightSpec)

/-- ITS FALSE NEIGHBOUR: 'it returns false'. Refute it at one input. -/
def planeStraightWrong : ChangeSpec := { name := "planeStraight", fn := fun _ => fun
  | [d1, d2, d3, d4, d5, d6] => { results := [.lit (.bool false)], args := [d1, d2, d3, d4, d5, d6] }
  | _ => none }
def PlaneStraightWrongFalsely : Prop := planeStraightRow.holds Try.pinned (OpenSpec.ofChange planeStraightWrong)

/-- 'glyphiclaw4.PlaneSlants': WHATEVER THE INPUT: true; the input reads as it did. -/
def planeSlantsSpec : ChangeSpec := { name := "planeSlants", fn := fun _ => fun
  | [d1, d2, d3, d4] => { results := [.lit (.bool true)], args := [d1, d2, d3, d4] }
  | _ => none }
def planeSlantsRow : OpenClaim := { program := "ytgaikembekkfiaa", sum := "898958384c9ece2e3c0b2a0df21ad51e5a1035c88762f7e90331afd0917f15f9", func := "glyphic/glyphiclaw4.PlaneSlants", spec := "planeSlants", unfollowed := true, recurses := true, apart := false }
def PlaneSlantsSaid : Prop := planeSlantsRow.holds Try.pinned (OpenSpec.ofChange planeSlantsSpec)

/-- ITS FALSE NEIGHBOUR: 'it returns false'. Refute it at one input. -/
def planeSlantsWrong : ChangeSpec := { name := "planeSlants", fn := fun _ => fun
  | [d1, d2, d3, d4] => { results := [.lit (.bool false)], args := [d1, d2, d3, d4] }
  | _ => none }
def PlaneSlantsWrongFalsely : Prop := planeSlantsRow.holds Try.pinned (OpenSpec.ofChange planeSlantsWrong)

/-- 'glyphiclaw4.PlaneSays': WHATEVER THE INPUT: true; the input reads as it did. -/
def planeSaysSpec : ChangeSpec := { name := "planeSays", fn := fun _ => fun
  | [d1, d2, d3, d4] => { results := [.lit (.bool true)], args := [d1, d2, d3, d4] }
  | _ => none }
def planeSaysRow : OpenClaim := { program := "ytgaikembekkfiaa", sum := "898958384c9ece2e3c0b2a0df21ad51e5a1035c88762f7e90331afd0917f15f9", func := "glyphic/glyphiclaw4.PlaneSays", spec := "planeSays", unfollowed := true, recurses := true, apart := false }
def PlaneSaysSaid : Prop := planeSaysRow.holds Try.pinned (OpenSpec.ofChange planeSaysSpec)

/-- ITS FALSE NEIGHBOUR: 'it returns false'. Refute it at one input. -/
def planeSaysWrong : ChangeSpec := { name := "planeSays", fn := fun _ => fun
  | [d1, d2, d3, d4] => { results := [.lit (.bool false)], args := [d1, d2, d3, d4] }
  | _ => none }
def PlaneSaysWrongFalsely : Prop := planeSaysRow.holds Try.pinned (OpenSpec.ofChange planeSaysWrong)

/-- 'glyphiclaw4.PlaneTurns': WHATEVER THE INPUT: true; the input reads as it did. -/
def planeTurnsSpec : ChangeSpec := { name := "planeTurns", fn := fun _ => fun
  | [d1, d2, d3, d4, d5, d6] => { results := [.lit (.bool true)], args := [d1, d2, d3, d4, d5, d6] }
  | _ => none }
def planeTurnsRow : OpenClaim := { program := "ytgaikembekkfiaa", sum := "898958384c9ece2e3c0b2a0df21ad51e5a1035c88762f7e90331afd0917f15f9", func := "glyphic/glyphiclaw4.PlaneTurns", spec := "planeTurns", unfollowed := true, recurses := true, apart := false }
def PlaneTurnsSaid : Prop := planeTurnsRow.holds Try.pinned (OpenSpec.ofChange planeTurnsSpec)

/-- ITS FALSE NEIGHBOUR: 'it returns false'. Refute it at one input. -/
def planeTurnsWrong : ChangeSpec := { name := "planeTurns", fn := fun _ => fun
  | [d1, d2, d3, d4, d5, d6] => { results := [.lit (.bool false)], args := [d1, d2, d3, d4, d5, d6] }
  | _ => none }
def PlaneTurnsWrongFalsely : Prop := planeTurnsRow.holds Try.pinned (OpenSpec.ofChange planeTurnsWrong)

/-- 'glyphiclaw4.PlaneSides': WHATEVER THE INPUT: true; the input reads as it did. -/
def planeSidesSpec : ChangeSpec := { name := "planeSides", fn := fun _ => fun
  | [d1, d2, d3, d4] => { results := [.lit (.bool true)], args := [d1, d2, d3, d4] }
  | _ => none }
def planeSidesRow : OpenClaim := { program := "ytgaikembekkfiaa", sum := "898958384c9ece2e3c0b2a0df21ad51e5a1035c88762f7e90331afd0917f15f9", func := "glyphic/glyphiclaw4.PlaneSides", spec := "planeSides", unfollowed := true, recurses := true, apart := false }
def PlaneSidesSaid : Prop := planeSidesRow.holds Try.pinned (OpenSpec.ofChange planeSidesSpec)

/-- ITS FALSE NEIGHBOUR: 'it returns false'. Refute it at one input. -/
def planeSidesWrong : ChangeSpec := { name := "planeSides", fn := fun _ => fun
  | [d1, d2, d3, d4] => { results := [.lit (.bool false)], args := [d1, d2, d3, d4] }
  | _ => none }
def PlaneSidesWrongFalsely : Prop := planeSidesRow.holds Try.pinned (OpenSpec.ofChange planeSidesWrong)

/-- 'glyphiclaw13.TurnRounds': WHATEVER THE INPUT: true; the input reads as it did. -/
def turnRoundsSpec : ChangeSpec := { name := "turnRounds", fn := fun _ => fun
  | [d1, d2, d3, d4] => { results := [.lit (.bool true)], args := [d1, d2, d3, d4] }
  | _ => none }
def turnRoundsRow : OpenClaim := { program := "ytgaikembekkfiaa", sum := "898958384c9ece2e3c0b2a0df21ad51e5a1035c88762f7e90331afd0917f15f9", func := "glyphic/glyphiclaw13.TurnRounds", spec := "turnRounds", named := ["math/bits.divideError", "math/bits.overflowError"], apart := false }
def TurnRoundsSaid : Prop := turnRoundsRow.holds Try.pinned (OpenSpec.ofChange turnRoundsSpec)

/-- ITS FALSE NEIGHBOUR: 'it returns false'. Refute it at one input. -/
def turnRoundsWrong : ChangeSpec := { name := "turnRounds", fn := fun _ => fun
  | [d1, d2, d3, d4] => { results := [.lit (.bool false)], args := [d1, d2, d3, d4] }
  | _ => none }
def TurnRoundsWrongFalsely : Prop := turnRoundsRow.holds Try.pinned (OpenSpec.ofChange turnRoundsWrong)

/-- 'glyphiclaw13.TurnFar': WHATEVER THE INPUT: true; the input reads as it did. -/
def turnFarSpec : ChangeSpec := { name := "turnFar", fn := fun _ => fun
  | [d1, d2, d3] => { results := [.lit (.bool true)], args := [d1, d2, d3] }
  | _ => none }
def turnFarRow : OpenClaim := { program := "ytgaikembekkfiaa", sum := "898958384c9ece2e3c0b2a0df21ad51e5a1035c88762f7e90331afd0917f15f9", func := "glyphic/glyphiclaw13.TurnFar", spec := "turnFar", named := ["math/bits.divideError", "math/bits.overflowError"], apart := false }
def TurnFarSaid : Prop := turnFarRow.holds Try.pinned (OpenSpec.ofChange turnFarSpec)

/-- ITS FALSE NEIGHBOUR: 'it returns false'. Refute it at one input. -/
def turnFarWrong : ChangeSpec := { name := "turnFar", fn := fun _ => fun
  | [d1, d2, d3] => { results := [.lit (.bool false)], args := [d1, d2, d3] }
  | _ => none }
def TurnFarWrongFalsely : Prop := turnFarRow.holds Try.pinned (OpenSpec.ofChange turnFarWrong)

/-- 'glyphiclaw13.TurnScales': WHATEVER THE INPUT: true; the input reads as it did. -/
def turnScalesSpec : ChangeSpec := { name := "turnScales", fn := fun _ => fun
  | [d1, d2, d3] => { results := [.lit (.bool true)], args := [d1, d2, d3] }
  | _ => none }
def turnScalesRow : OpenClaim := { program := "ytgaikembekkfiaa", sum := "898958384c9ece2e3c0b2a0df21ad51e5a1035c88762f7e90331afd0917f15f9", func := "glyphic/glyphiclaw13.TurnScales", spec := "turnScales", named := ["math/bits.divideError", "math/bits.overflowError"], apart := false }
def TurnScalesSaid : Prop := turnScalesRow.holds Try.pinned (OpenSpec.ofChange turnScalesSpec)

/-- ITS FALSE NEIGHBOUR: 'it returns false'. Refute it at one input. -/
def turnScalesWrong : ChangeSpec := { name := "turnScales", fn := fun _ => fun
  | [d1, d2, d3] => { results := [.lit (.bool false)], args := [d1, d2, d3] }
  | _ => none }
def TurnScalesWrongFalsely : Prop := turnScalesRow.holds Try.pinned (OpenSpec.ofChange turnScalesWrong)

/-- 'glyphiclaw1.FixedScales': WHATEVER THE INPUT: true; the input reads as it did. -/
def fixedScalesSpec : ChangeSpec := { name := "fixedScales", fn := fun _ => fun
  | [d1, d2, d3] => { results := [.lit (.bool true)], args := [d1, d2, d3] }
  | _ => none }
def fixedScalesRow : OpenClaim := { program := "ytgaikembekkfiaa", sum := "898958384c9ece2e3c0b2a0df21ad51e5a1035c88762f7e90331afd0917f15f9", func := "glyphic/glyphiclaw1.FixedScales", spec := "fixedScales", named := ["math/bits.divideError", "math/bits.overflowError"], apart := false }
def FixedScalesSaid : Prop := fixedScalesRow.holds Try.pinned (OpenSpec.ofChange fixedScalesSpec)

/-- ITS FALSE NEIGHBOUR: 'it returns false'. Refute it at one input. -/
def fixedScalesWrong : ChangeSpec := { name := "fixedScales", fn := fun _ => fun
  | [d1, d2, d3] => { results := [.lit (.bool false)], args := [d1, d2, d3] }
  | _ => none }
def FixedScalesWrongFalsely : Prop := fixedScalesRow.holds Try.pinned (OpenSpec.ofChange fixedScalesWrong)

/-- 'glyphiclaw1.FixedParts': WHATEVER THE INPUT: true; the input reads as it did. -/
def fixedPartsSpec : ChangeSpec := { name := "fixedParts", fn := fun _ => fun
  | [d1, d2, d3] => { results := [.lit (.bool true)], args := [d1, d2, d3] }
  | _ => none }
def fixedPartsRow : OpenClaim := { program := "ytgaikembekkfiaa", sum := "898958384c9ece2e3c0b2a0df21ad51e5a1035c88762f7e90331afd0917f15f9", func := "glyphic/glyphiclaw1.FixedParts", spec := "fixedParts", named := ["math/bits.divideError", "math/bits.overflowError"], apart := false }
def FixedPartsSaid : Prop := fixedPartsRow.holds Try.pinned (OpenSpec.ofChange fixedPartsSpec)

/-- ITS FALSE NEIGHBOUR: 'it returns false'. Refute it at one input. -/
def fixedPartsWrong : ChangeSpec := { name := "fixedParts", fn := fun _ => fun
  | [d1, d2, d3] => { results := [.lit (.bool false)], args := [d1, d2, d3] }
  | _ => none }
def FixedPartsWrongFalsely : Prop := fixedPartsRow.holds Try.pinned (OpenSpec.ofChange fixedPartsWrong)

/-- 'glyphiclaw1.FixedGrows': WHATEVER THE INPUT: true; the input reads as it did. -/
def fixedGrowsSpec : ChangeSpec := { name := "fixedGrows", fn := fun _ => fun
  | [d1, d2, d3, d4] => { results := [.lit (.bool true)], args := [d1, d2, d3, d4] }
  | _ => none }
def fixedGrowsRow : OpenClaim := { program := "ytgaikembekkfiaa", sum := "898958384c9ece2e3c0b2a0df21ad51e5a1035c88762f7e90331afd0917f15f9", func := "glyphic/glyphiclaw1.FixedGrows", spec := "fixedGrows", named := ["math/bits.divideError", "math/bits.overflowError"], apart := false }
def FixedGrowsSaid : Prop := fixedGrowsRow.holds Try.pinned (OpenSpec.ofChange fixedGrowsSpec)

/-- ITS FALSE NEIGHBOUR: 'it returns false'. Refute it at one input. -/
def fixedGrowsWrong : ChangeSpec := { name := "fixedGrows", fn := fun _ => fun
  | [d1, d2, d3, d4] => { results := [.lit (.bool false)], args := [d1, d2, d3, d4] }
  | _ => none }
def FixedGrowsWrongFalsely : Prop := fixedGrowsRow.holds Try.pinned (OpenSpec.ofChange fixedGrowsWrong)

/- THE SECOND FORM. 'bulk': how many values and letters a reading holds, each counted each time it is reached (what is shared counts as often as it is met; a slice's spare places count too). A statement '..UptoSaid' is the law's where the arguments, and the package variables that the reading takes, are together of bulk at most 1048576: NARROWER than '..Said'. Prove '..Said' where nothing that the law and all that it calls make is longer than what came in: it says more and counts as full. Else prove '..UptoSaid'. A law counts once. -/
mutual
def uptoBulk {H : Type} : DataW H → Nat
  | .lit (.string bytes) => bytes.length + 1
  | .lit _ => 1
  | .nil => 1
  | .ptr d => uptoBulk d + 1
  | .slice elems spare => uptoBulkAll elems + uptoBulkAll spare + 1
  | .agg parts => uptoBulkAll parts + 1
  | .iface _ d => uptoBulk d + 1
  | .map entries => uptoBulkEntries entries + 1
  | .held _ => 1
def uptoBulkAll {H : Type} : List (DataW H) → Nat
  | [] => 0
  | d :: r => uptoBulk d + uptoBulkAll r
def uptoBulkEntries {H : Type} : List (Lit × DataW H) → Nat
  | [] => 0
  | x :: r => uptoBulkEntry x + uptoBulkEntries r
def uptoBulkEntry {H : Type} : Lit × DataW H → Nat
  | (.string bytes, d) => bytes.length + uptoBulk d + 1
  | (_, d) => uptoBulk d + 1
 end
def uptoSmall : (H : Type) → List (DataW H) → Bool := fun _ ds => decide (uptoBulkAll ds ≤ 1048576)
def OpenSpec.upto (s : _root_.Go.ChangeSpec) : _root_.Go.OpenSpec := { _root_.Go.OpenSpec.ofChange s with cond := some uptoSmall }

/-- 'glyphiclaw15.QuantBack', WHERE WHAT IT READS IS OF BULK AT MOST 1048576: true; the input reads as it did. -/
def quantBackUptoRow : OpenClaim := { program := "ytgaikembekkfiaa", sum := "898958384c9ece2e3c0b2a0df21ad51e5a1035c88762f7e90331afd0917f15f9", func := "glyphic/glyphiclaw15.QuantBack", spec := "quantBack", apart := false, narrowed := true }
def QuantBackUptoSaid : Prop := quantBackUptoRow.holds Try.pinned (OpenSpec.upto quantBackSpec)

/-- 'glyphiclaw15.QuantWhole', WHERE WHAT IT READS IS OF BULK AT MOST 1048576: true; the input reads as it did. -/
def quantWholeUptoRow : OpenClaim := { program := "ytgaikembekkfiaa", sum := "898958384c9ece2e3c0b2a0df21ad51e5a1035c88762f7e90331afd0917f15f9", func := "glyphic/glyphiclaw15.QuantWhole", spec := "quantWhole", apart := false, narrowed := true }
def QuantWholeUptoSaid : Prop := quantWholeUptoRow.holds Try.pinned (OpenSpec.upto quantWholeSpec)

/-- 'glyphiclaw15.QuantSays', WHERE WHAT IT READS IS OF BULK AT MOST 1048576: true; the input reads as it did. -/
def quantSaysUptoRow : OpenClaim := { program := "ytgaikembekkfiaa", sum := "898958384c9ece2e3c0b2a0df21ad51e5a1035c88762f7e90331afd0917f15f9", func := "glyphic/glyphiclaw15.QuantSays", spec := "quantSays", apart := false, narrowed := true }
def QuantSaysUptoSaid : Prop := quantSaysUptoRow.holds Try.pinned (OpenSpec.upto quantSaysSpec)

/-- 'glyphiclaw15.QuantScales', WHERE WHAT IT READS IS OF BULK AT MOST 1048576: true; the input reads as it did. -/
def quantScalesUptoRow : OpenClaim := { program := "ytgaikembekkfiaa", sum := "898958384c9ece2e3c0b2a0df21ad51e5a1035c88762f7e90331afd0917f15f9", func := "glyphic/glyphiclaw15.QuantScales", spec := "quantScales", apart := false, narrowed := true }
def QuantScalesUptoSaid : Prop := quantScalesUptoRow.holds Try.pinned (OpenSpec.upto quantScalesSpec)

/-- 'glyphiclaw1.FixedNearest', WHERE WHAT IT READS IS OF BULK AT MOST 1048576: true; the input reads as it did. -/
def fixedNearestUptoRow : OpenClaim := { program := "ytgaikembekkfiaa", sum := "898958384c9ece2e3c0b2a0df21ad51e5a1035c88762f7e90331afd0917f15f9", func := "glyphic/glyphiclaw1.FixedNearest", spec := "fixedNearest", apart := false, narrowed := true }
def FixedNearestUptoSaid : Prop := fixedNearestUptoRow.holds Try.pinned (OpenSpec.upto fixedNearestSpec)

/-- 'glyphiclaw1.FixedRoots', WHERE WHAT IT READS IS OF BULK AT MOST 1048576: true; the input reads as it did. -/
def fixedRootsUptoRow : OpenClaim := { program := "ytgaikembekkfiaa", sum := "898958384c9ece2e3c0b2a0df21ad51e5a1035c88762f7e90331afd0917f15f9", func := "glyphic/glyphiclaw1.FixedRoots", spec := "fixedRoots", apart := false, narrowed := true }
def FixedRootsUptoSaid : Prop := fixedRootsUptoRow.holds Try.pinned (OpenSpec.upto fixedRootsSpec)

/-- 'glyphiclaw1.FixedCuts', WHERE WHAT IT READS IS OF BULK AT MOST 1048576: true; the input reads as it did. -/
def fixedCutsUptoRow : OpenClaim := { program := "ytgaikembekkfiaa", sum := "898958384c9ece2e3c0b2a0df21ad51e5a1035c88762f7e90331afd0917f15f9", func := "glyphic/glyphiclaw1.FixedCuts", spec := "fixedCuts", apart := false, narrowed := true }
def FixedCutsUptoSaid : Prop := fixedCutsUptoRow.holds Try.pinned (OpenSpec.upto fixedCutsSpec)

/-- 'glyphiclaw4.PlaneStraight', WHERE WHAT IT READS IS OF BULK AT MOST 1048576: true; the input reads as it did. -/
def planeStraightUptoRow : OpenClaim := { program := "ytgaikembekkfiaa", sum := "898958384c9ece2e3c0b2a0df21ad51e5a1035c88762f7e90331afd0917f15f9", func := "glyphic/glyphiclaw4.PlaneStraight", spec := "planeStraight", unfollowed := true, recurses := true, apart := false, narrowed := true }
def PlaneStraightUptoSaid : Prop := planeStraightUptoRow.holds Try.pinned (OpenSpec.upto planeStraightSpec)

/-- 'glyphiclaw4.PlaneSlants', WHERE WHAT IT READS IS OF BULK AT MOST 1048576: true; the input reads as it did. -/
def planeSlantsUptoRow : OpenClaim := { program := "ytgaikembekkfiaa", sum := "898958384c9ece2e3c0b2a0df21ad51e5a1035c88762f7e90331afd0917f15f9", func := "glyphic/glyphiclaw4.PlaneSlants", spec := "planeSlants", unfollowed := true, recurses := true, apart := false, narrowed := true }
def PlaneSlantsUptoSaid : Prop := planeSlantsUptoRow.holds Try.pinned (OpenSpec.upto planeSlantsSpec)

/-- 'glyphiclaw4.PlaneSays', WHERE WHAT IT READS IS OF BULK AT MOST 1048576: true; the input reads as it did. -/
def planeSaysUptoRow : OpenClaim := { program := "ytgaikembekkfiaa", sum := "898958384c9ece2e3c0b2a0df21ad51e5a1035c88762f7e90331afd0917f15f9", func := "glyphic/glyphiclaw4.PlaneSays", spec := "planeSays", unfollowed := true, recurses := true, apart := false, narrowed := true }
def PlaneSaysUptoSaid : Prop := planeSaysUptoRow.holds Try.pinned (OpenSpec.upto planeSaysSpec)

/-- 'glyphiclaw4.PlaneTurns', WHERE WHAT IT READS IS OF BULK AT MOST 1048576: true; the input reads as it did. -/
def planeTurnsUptoRow : OpenClaim := { program := "ytgaikembekkfiaa", sum := "898958384c9ece2e3c0b2a0df21ad51e5a1035c88762f7e90331afd0917f15f9", func := "glyphic/glyphiclaw4.PlaneTurns", spec := "planeTurns", unfollowed := true, recurses := true, apart := false, narrowed := true }
def PlaneTurnsUptoSaid : Prop := planeTurnsUptoRow.holds Try.pinned (OpenSpec.upto planeTurnsSpec)

/-- 'glyphiclaw4.PlaneSides', WHERE WHAT IT READS IS OF BULK AT MOST 1048576: true; the input reads as it did. -/
def planeSidesUptoRow : OpenClaim := { program := "ytgaikembekkfiaa", sum := "898958384c9ece2e3c0b2a0df21ad51e5a1035c88762f7e90331afd0917f15f9", func := "glyphic/glyphiclaw4.PlaneSides", spec := "planeSides", unfollowed := true, recurses := true, apart := false, narrowed := true }
def PlaneSidesUptoSaid : Prop := planeSidesUptoRow.holds Try.pinned (OpenSpec.upto planeSidesSpec)

/-- 'glyphiclaw13.TurnRounds', WHERE WHAT IT READS IS OF BULK AT MOST 1048576: true; the input reads as it did. -/
def turnRoundsUptoRow : OpenClaim := { program := "ytgaikembekkfiaa", sum := "898958384c9ece2e3c0b2a0df21ad51e5a1035c88762f7e90331afd0917f15f9", func := "glyphic/glyphiclaw13.TurnRounds", spec := "turnRounds", named := ["math/bits.divideError", "math/bits.overflowError"], apart := false, narrowed := true }
def TurnRoundsUptoSaid : Prop := turnRoundsUptoRow.holds Try.pinned (OpenSpec.upto turnRoundsSpec)

/-- 'glyphiclaw13.TurnFar', WHERE WHAT IT READS IS OF BULK AT MOST 1048576: true; the input reads as it did. -/
def turnFarUptoRow : OpenClaim := { program := "ytgaikembekkfiaa", sum := "898958384c9ece2e3c0b2a0df21ad51e5a1035c88762f7e90331afd0917f15f9", func := "glyphic/glyphiclaw13.TurnFar", spec := "turnFar", named := ["math/bits.divideError", "math/bits.overflowError"], apart := false, narrowed := true }
def TurnFarUptoSaid : Prop := turnFarUptoRow.holds Try.pinned (OpenSpec.upto turnFarSpec)

/-- 'glyphiclaw13.TurnScales', WHERE WHAT IT READS IS OF BULK AT MOST 1048576: true; the input reads as it did. -/
def turnScalesUptoRow : OpenClaim := { program := "ytgaikembekkfiaa", sum := "898958384c9ece2e3c0b2a0df21ad51e5a1035c88762f7e90331afd0917f15f9", func := "glyphic/glyphiclaw13.TurnScales", spec := "turnScales", named := ["math/bits.divideError", "math/bits.overflowError"], apart := false, narrowed := true }
def TurnScalesUptoSaid : Prop := turnScalesUptoRow.holds Try.pinned (OpenSpec.upto turnScalesSpec)

/-- 'glyphiclaw1.FixedScales', WHERE WHAT IT READS IS OF BULK AT MOST 1048576: true; the input reads as it did. -/
def fixedScalesUptoRow : OpenClaim := { program := "ytgaikembekkfiaa", sum := "898958384c9ece2e3c0b2a0df21ad51e5a1035c88762f7e90331afd0917f15f9", func := "glyphic/glyphiclaw1.FixedScales", spec := "fixedScales", named := ["math/bits.divideError", "math/bits.overflowError"], apart := false, narrowed := true }
def FixedScalesUptoSaid : Prop := fixedScalesUptoRow.holds Try.pinned (OpenSpec.upto fixedScalesSpec)

/-- 'glyphiclaw1.FixedParts', WHERE WHAT IT READS IS OF BULK AT MOST 1048576: true; the input reads as it did. -/
def fixedPartsUptoRow : OpenClaim := { program := "ytgaikembekkfiaa", sum := "898958384c9ece2e3c0b2a0df21ad51e5a1035c88762f7e90331afd0917f15f9", func := "glyphic/glyphiclaw1.FixedParts", spec := "fixedParts", named := ["math/bits.divideError", "math/bits.overflowError"], apart := false, narrowed := true }
def FixedPartsUptoSaid : Prop := fixedPartsUptoRow.holds Try.pinned (OpenSpec.upto fixedPartsSpec)

/-- 'glyphiclaw1.FixedGrows', WHERE WHAT IT READS IS OF BULK AT MOST 1048576: true; the input reads as it did. -/
def fixedGrowsUptoRow : OpenClaim := { program := "ytgaikembekkfiaa", sum := "898958384c9ece2e3c0b2a0df21ad51e5a1035c88762f7e90331afd0917f15f9", func := "glyphic/glyphiclaw1.FixedGrows", spec := "fixedGrows", named := ["math/bits.divideError", "math/bits.overflowError"], apart := false, narrowed := true }
def FixedGrowsUptoSaid : Prop := fixedGrowsUptoRow.holds Try.pinned (OpenSpec.upto fixedGrowsSpec)

end Rows
end Go.Proofs.Ytgaikembekkfiaa
