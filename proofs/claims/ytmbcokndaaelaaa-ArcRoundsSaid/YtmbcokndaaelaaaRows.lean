/-
  No cell of these rows narrows 'for every input' (looked for: loops, veiled, ifaces, maps, wideKeys, modest, calm, conditions, laid).
  DERIVED. THE GIVEN ROWS OF THIS SEAT. 13 by the template 'for every input the law returns true; each argument reads behind the call as it read before'; 0 by the template 'total and deterministic' (their statements: YtmbcokndaaelaaaTotals.lean).
  GIVEN WITH THE SEED: the statements are not yours to turn. If you find one false, say at which input.
  Laid BY PROGRAM, IN A SANDBOX (cutbox-rows.mjs): the forced cells as the released guide's own fill.sh prints them over the translation b8b851dd1c5db247… (all of the seat's roots in one cut). By AI agents, Wed Nov 11 2026. No macro, syntax, notation, axiom, sorry.
-/
import Derived.Test.YtmbcokndaaelaaaChecked
import GoSem.Claim
import GoSem.ClaimJoined
import GoSem.ClaimMapViews
import Derived.JoinedTies
import Derived.KernelRfl
namespace Go.Proofs.Ytmbcokndaaelaaa
/- THE CELL 'sum', in the pinned program and in every row, IS THE sha256 OF THE DUMP (.gsa) THAT YtmbcokndaaelaaaProg.lean LOADS. Nothing in Lean hashes anything: it is a label: what it is worth is what the hold of that sum in a sandbox is worth. -/
noncomputable def Try.pinned : Pinned := { name := "ytmbcokndaaelaaa", sum := "b8b851dd1c5db2477abc3b8eec187374ee734640f42f904d9cd49f13b24b0bc7", checked := Try.checked }
namespace Rows
def none {H : Type} : Left H := { results := [], args := [] }

/-- 'glyphiclaw14.ArcRounds': WHATEVER THE INPUT: true; the input reads as it did. -/
def arcRoundsSpec : ChangeSpec := { name := "arcRounds", fn := fun _ => fun
  | [d1, d2, d3, d4, d5, d6] => { results := [.lit (.bool true)], args := [d1, d2, d3, d4, d5, d6] }
  | _ => none }
def arcRoundsRow : OpenClaim := { program := "ytmbcokndaaelaaa", sum := "b8b851dd1c5db2477abc3b8eec187374ee734640f42f904d9cd49f13b24b0bc7", func := "glyphic/glyphiclaw14.ArcRounds", spec := "arcRounds", apart := false }
def ArcRoundsSaid : Prop := arcRoundsRow.holds Try.pinned (OpenSpec.ofChange arcRoundsSpec)

/-- ITS FALSE NEIGHBOUR: 'it returns false'. Refute it at one input. -/
def arcRoundsWrong : ChangeSpec := { name := "arcRounds", fn := fun _ => fun
  | [d1, d2, d3, d4, d5, d6] => { results := [.lit (.bool false)], args := [d1, d2, d3, d4, d5, d6] }
  | _ => none }
def ArcRoundsWrongFalsely : Prop := arcRoundsRow.holds Try.pinned (OpenSpec.ofChange arcRoundsWrong)

/-- 'glyphiclaw14.ArcMirrors': WHATEVER THE INPUT: true; the input reads as it did. -/
def arcMirrorsSpec : ChangeSpec := { name := "arcMirrors", fn := fun _ => fun
  | [d1, d2, d3] => { results := [.lit (.bool true)], args := [d1, d2, d3] }
  | _ => none }
def arcMirrorsRow : OpenClaim := { program := "ytmbcokndaaelaaa", sum := "b8b851dd1c5db2477abc3b8eec187374ee734640f42f904d9cd49f13b24b0bc7", func := "glyphic/glyphiclaw14.ArcMirrors", spec := "arcMirrors", apart := false }
def ArcMirrorsSaid : Prop := arcMirrorsRow.holds Try.pinned (OpenSpec.ofChange arcMirrorsSpec)

/-- ITS FALSE NEIGHBOUR: 'it returns false'. Refute it at one input. -/
def arcMirrorsWrong : ChangeSpec := { name := "arcMirrors", fn := fun _ => fun
  | [d1, d2, d3] => { results := [.lit (.bool false)], args := [d1, d2, d3] }
  | _ => none }
def ArcMirrorsWrongFalsely : Prop := arcMirrorsRow.holds Try.pinned (OpenSpec.ofChange arcMirrorsWrong)

/-- 'glyphiclaw14.ArcBoxes': WHATEVER THE INPUT: true; the input reads as it did. -/
def arcBoxesSpec : ChangeSpec := { name := "arcBoxes", fn := fun _ => fun
  | [d1, d2, d3] => { results := [.lit (.bool true)], args := [d1, d2, d3] }
  | _ => none }
def arcBoxesRow : OpenClaim := { program := "ytmbcokndaaelaaa", sum := "b8b851dd1c5db2477abc3b8eec187374ee734640f42f904d9cd49f13b24b0bc7", func := "glyphic/glyphiclaw14.ArcBoxes", spec := "arcBoxes", apart := false }
def ArcBoxesSaid : Prop := arcBoxesRow.holds Try.pinned (OpenSpec.ofChange arcBoxesSpec)

/-- ITS FALSE NEIGHBOUR: 'it returns false'. Refute it at one input. -/
def arcBoxesWrong : ChangeSpec := { name := "arcBoxes", fn := fun _ => fun
  | [d1, d2, d3] => { results := [.lit (.bool false)], args := [d1, d2, d3] }
  | _ => none }
def ArcBoxesWrongFalsely : Prop := arcBoxesRow.holds Try.pinned (OpenSpec.ofChange arcBoxesWrong)

/-- 'glyphiclaw26.BlendSays': WHATEVER THE INPUT: true; the input reads as it did. -/
def blendSaysSpec : ChangeSpec := { name := "blendSays", fn := fun _ => fun
  | [d1, d2, d3, d4, d5, d6, d7, d8, d9] => { results := [.lit (.bool true)], args := [d1, d2, d3, d4, d5, d6, d7, d8, d9] }
  | _ => none }
def blendSaysRow : OpenClaim := { program := "ytmbcokndaaelaaa", sum := "b8b851dd1c5db2477abc3b8eec187374ee734640f42f904d9cd49f13b24b0bc7", func := "glyphic/glyphiclaw26.BlendSays", spec := "blendSays", apart := false }
def BlendSaysSaid : Prop := blendSaysRow.holds Try.pinned (OpenSpec.ofChange blendSaysSpec)

/-- ITS FALSE NEIGHBOUR: 'it returns false'. Refute it at one input. -/
def blendSaysWrong : ChangeSpec := { name := "blendSays", fn := fun _ => fun
  | [d1, d2, d3, d4, d5, d6, d7, d8, d9] => { results := [.lit (.bool false)], args := [d1, d2, d3, d4, d5, d6, d7, d8, d9] }
  | _ => none }
def BlendSaysWrongFalsely : Prop := blendSaysRow.holds Try.pinned (OpenSpec.ofChange blendSaysWrong)

/-- 'glyphiclaw26.BlendEnds': WHATEVER THE INPUT: true; the input reads as it did. -/
def blendEndsSpec : ChangeSpec := { name := "blendEnds", fn := fun _ => fun
  | [d1, d2, d3, d4, d5, d6, d7, d8, d9] => { results := [.lit (.bool true)], args := [d1, d2, d3, d4, d5, d6, d7, d8, d9] }
  | _ => none }
def blendEndsRow : OpenClaim := { program := "ytmbcokndaaelaaa", sum := "b8b851dd1c5db2477abc3b8eec187374ee734640f42f904d9cd49f13b24b0bc7", func := "glyphic/glyphiclaw26.BlendEnds", spec := "blendEnds", apart := false }
def BlendEndsSaid : Prop := blendEndsRow.holds Try.pinned (OpenSpec.ofChange blendEndsSpec)

/-- ITS FALSE NEIGHBOUR: 'it returns false'. Refute it at one input. -/
def blendEndsWrong : ChangeSpec := { name := "blendEnds", fn := fun _ => fun
  | [d1, d2, d3, d4, d5, d6, d7, d8, d9] => { results := [.lit (.bool false)], args := [d1, d2, d3, d4, d5, d6, d7, d8, d9] }
  | _ => none }
def BlendEndsWrongFalsely : Prop := blendEndsRow.holds Try.pinned (OpenSpec.ofChange blendEndsWrong)

/-- 'glyphiclaw26.BlendOpaque': WHATEVER THE INPUT: true; the input reads as it did. -/
def blendOpaqueSpec : ChangeSpec := { name := "blendOpaque", fn := fun _ => fun
  | [d1, d2, d3, d4, d5] => { results := [.lit (.bool true)], args := [d1, d2, d3, d4, d5] }
  | _ => none }
def blendOpaqueRow : OpenClaim := { program := "ytmbcokndaaelaaa", sum := "b8b851dd1c5db2477abc3b8eec187374ee734640f42f904d9cd49f13b24b0bc7", func := "glyphic/glyphiclaw26.BlendOpaque", spec := "blendOpaque", apart := false }
def BlendOpaqueSaid : Prop := blendOpaqueRow.holds Try.pinned (OpenSpec.ofChange blendOpaqueSpec)

/-- ITS FALSE NEIGHBOUR: 'it returns false'. Refute it at one input. -/
def blendOpaqueWrong : ChangeSpec := { name := "blendOpaque", fn := fun _ => fun
  | [d1, d2, d3, d4, d5] => { results := [.lit (.bool false)], args := [d1, d2, d3, d4, d5] }
  | _ => none }
def BlendOpaqueWrongFalsely : Prop := blendOpaqueRow.holds Try.pinned (OpenSpec.ofChange blendOpaqueWrong)

/-- 'glyphiclaw26.BlendBytes': WHATEVER THE INPUT: true; the input reads as it did. -/
def blendBytesSpec : ChangeSpec := { name := "blendBytes", fn := fun _ => fun
  | [d1, d2, d3, d4] => { results := [.lit (.bool true)], args := [d1, d2, d3, d4] }
  | _ => none }
def blendBytesRow : OpenClaim := { program := "ytmbcokndaaelaaa", sum := "b8b851dd1c5db2477abc3b8eec187374ee734640f42f904d9cd49f13b24b0bc7", func := "glyphic/glyphiclaw26.BlendBytes", spec := "blendBytes", apart := false }
def BlendBytesSaid : Prop := blendBytesRow.holds Try.pinned (OpenSpec.ofChange blendBytesSpec)

/-- ITS FALSE NEIGHBOUR: 'it returns false'. Refute it at one input. -/
def blendBytesWrong : ChangeSpec := { name := "blendBytes", fn := fun _ => fun
  | [d1, d2, d3, d4] => { results := [.lit (.bool false)], args := [d1, d2, d3, d4] }
  | _ => none }
def BlendBytesWrongFalsely : Prop := blendBytesRow.holds Try.pinned (OpenSpec.ofChange blendBytesWrong)

/-- 'glyphiclaw14.ArcSays': WHATEVER THE INPUT: true; the input reads as it did. -/
def arcSaysSpec : ChangeSpec := { name := "arcSays", fn := fun _ => fun
  | [d1, d2, d3] => { results := [.lit (.bool true)], args := [d1, d2, d3] }
  | _ => none }
def arcSaysRow : OpenClaim := { program := "ytmbcokndaaelaaa", sum := "b8b851dd1c5db2477abc3b8eec187374ee734640f42f904d9cd49f13b24b0bc7", func := "glyphic/glyphiclaw14.ArcSays", spec := "arcSays", named := ["math/bits.divideError", "math/bits.overflowError"], apart := false }
def ArcSaysSaid : Prop := arcSaysRow.holds Try.pinned (OpenSpec.ofChange arcSaysSpec)

/-- ITS FALSE NEIGHBOUR: 'it returns false'. Refute it at one input. -/
def arcSaysWrong : ChangeSpec := { name := "arcSays", fn := fun _ => fun
  | [d1, d2, d3] => { results := [.lit (.bool false)], args := [d1, d2, d3] }
  | _ => none }
def ArcSaysWrongFalsely : Prop := arcSaysRow.holds Try.pinned (OpenSpec.ofChange arcSaysWrong)

/-- 'glyphiclaw25.PaintEnds': WHATEVER THE INPUT: true; the input reads as it did. -/
def paintEndsSpec : ChangeSpec := { name := "paintEnds", fn := fun _ => fun
  | [d1, d2, d3, d4, d5] => { results := [.lit (.bool true)], args := [d1, d2, d3, d4, d5] }
  | _ => none }
def paintEndsRow : OpenClaim := { program := "ytmbcokndaaelaaa", sum := "b8b851dd1c5db2477abc3b8eec187374ee734640f42f904d9cd49f13b24b0bc7", func := "glyphic/glyphiclaw25.PaintEnds", spec := "paintEnds", named := ["math/bits.divideError", "math/bits.overflowError"], apart := false }
def PaintEndsSaid : Prop := paintEndsRow.holds Try.pinned (OpenSpec.ofChange paintEndsSpec)

/-- ITS FALSE NEIGHBOUR: 'it returns false'. Refute it at one input. -/
def paintEndsWrong : ChangeSpec := { name := "paintEnds", fn := fun _ => fun
  | [d1, d2, d3, d4, d5] => { results := [.lit (.bool false)], args := [d1, d2, d3, d4, d5] }
  | _ => none }
def PaintEndsWrongFalsely : Prop := paintEndsRow.holds Try.pinned (OpenSpec.ofChange paintEndsWrong)

/-- 'glyphiclaw25.PaintMixes': WHATEVER THE INPUT: true; the input reads as it did. -/
def paintMixesSpec : ChangeSpec := { name := "paintMixes", fn := fun _ => fun
  | [d1, d2, d3] => { results := [.lit (.bool true)], args := [d1, d2, d3] }
  | _ => none }
def paintMixesRow : OpenClaim := { program := "ytmbcokndaaelaaa", sum := "b8b851dd1c5db2477abc3b8eec187374ee734640f42f904d9cd49f13b24b0bc7", func := "glyphic/glyphiclaw25.PaintMixes", spec := "paintMixes", named := ["math/bits.divideError", "math/bits.overflowError"], apart := false }
def PaintMixesSaid : Prop := paintMixesRow.holds Try.pinned (OpenSpec.ofChange paintMixesSpec)

/-- ITS FALSE NEIGHBOUR: 'it returns false'. Refute it at one input. -/
def paintMixesWrong : ChangeSpec := { name := "paintMixes", fn := fun _ => fun
  | [d1, d2, d3] => { results := [.lit (.bool false)], args := [d1, d2, d3] }
  | _ => none }
def PaintMixesWrongFalsely : Prop := paintMixesRow.holds Try.pinned (OpenSpec.ofChange paintMixesWrong)

/-- 'glyphiclaw25.PaintLines': WHATEVER THE INPUT: true; the input reads as it did. -/
def paintLinesSpec : ChangeSpec := { name := "paintLines", fn := fun _ => fun
  | [d1, d2, d3, d4] => { results := [.lit (.bool true)], args := [d1, d2, d3, d4] }
  | _ => none }
def paintLinesRow : OpenClaim := { program := "ytmbcokndaaelaaa", sum := "b8b851dd1c5db2477abc3b8eec187374ee734640f42f904d9cd49f13b24b0bc7", func := "glyphic/glyphiclaw25.PaintLines", spec := "paintLines", named := ["math/bits.divideError", "math/bits.overflowError"], apart := false }
def PaintLinesSaid : Prop := paintLinesRow.holds Try.pinned (OpenSpec.ofChange paintLinesSpec)

/-- ITS FALSE NEIGHBOUR: 'it returns false'. Refute it at one input. -/
def paintLinesWrong : ChangeSpec := { name := "paintLines", fn := fun _ => fun
  | [d1, d2, d3, d4] => { results := [.lit (.bool false)], args := [d1, d2, d3, d4] }
  | _ => none }
def PaintLinesWrongFalsely : Prop := paintLinesRow.holds Try.pinned (OpenSpec.ofChange paintLinesWrong)

/-- 'glyphiclaw25.PaintRings': WHATEVER THE INPUT: true; the input reads as it did. -/
def paintRingsSpec : ChangeSpec := { name := "paintRings", fn := fun _ => fun
  | [d1, d2, d3, d4] => { results := [.lit (.bool true)], args := [d1, d2, d3, d4] }
  | _ => none }
def paintRingsRow : OpenClaim := { program := "ytmbcokndaaelaaa", sum := "b8b851dd1c5db2477abc3b8eec187374ee734640f42f904d9cd49f13b24b0bc7", func := "glyphic/glyphiclaw25.PaintRings", spec := "paintRings", named := ["math/bits.divideError", "math/bits.overflowError"], apart := false }
def PaintRingsSaid : Prop := paintRingsRow.holds Try.pinned (OpenSpec.ofChange paintRingsSpec)

/-- ITS FALSE NEIGHBOUR: 'it returns false'. Refute it at one input. -/
def paintRingsWrong : ChangeSpec := { name := "paintRings", fn := fun _ => fun
  | [d1, d2, d3, d4] => { results := [.lit (.bool false)], args := [d1, d2, d3, d4] }
  | _ => none }
def PaintRingsWrongFalsely : Prop := paintRingsRow.holds Try.pinned (OpenSpec.ofChange paintRingsWrong)

/-- 'glyphiclaw25.PaintSays': WHATEVER THE INPUT: true; the input reads as it did. -/
def paintSaysSpec : ChangeSpec := { name := "paintSays", fn := fun _ => fun
  | [d1, d2, d3, d4, d5, d6] => { results := [.lit (.bool true)], args := [d1, d2, d3, d4, d5, d6] }
  | _ => none }
def paintSaysRow : OpenClaim := { program := "ytmbcokndaaelaaa", sum := "b8b851dd1c5db2477abc3b8eec187374ee734640f42f904d9cd49f13b24b0bc7", func := "glyphic/glyphiclaw25.PaintSays", spec := "paintSays", unfollowed := true, recurses := true, named := ["math/bits.divideError", "math/bits.overflowError"], apart := false }
def PaintSaysSaid : Prop := paintSaysRow.holds Try.pinned (OpenSpec.ofChange paintSaysSpec)

/-- ITS FALSE NEIGHBOUR: 'it returns false'. Refute it at one input. -/
def paintSaysWrong : ChangeSpec := { name := "paintSays", fn := fun _ => fun
  | [d1, d2, d3, d4, d5, d6] => { results := [.lit (.bool false)], args := [d1, d2, d3, d4, d5, d6] }
  | _ => none }
def PaintSaysWrongFalsely : Prop := paintSaysRow.holds Try.pinned (OpenSpec.ofChange paintSaysWrong)

/- THE SECOND FORM. 'bulk': how many values and letters a reading holds, each counted each time it is reached (what is shared counts as often as it is met; a slice's spare places count too). A statement '..UptoSaid' is the law's where the arguments, and the package variables that the reading takes, are together of bulk at most 1048576: NARROWER than '..Said'. Prove '..Said' where nothing that the law and all that it calls make is longer than what came in: it says more and counts as full. Else prove '..UptoSaid'. A law counts once. -/
mutual
def uptoBulk {H : Type} : DataW H → Nat
  | .lit (.string bytes) => bytes.length + 1
  | .lit _ => 1
  | .nil => 1
  | .ptr d => uptoBulk d + 1
  | .slice elems spare => uptoBulkAll elems + uptoBulkAll spare + 1
  | .agg parts => uptoBulkAll parts + 1
  | .iface _ d => uptoBulk d + 1
  | .map entries => uptoBulkEntries entries + 1
  | .held _ => 1
def uptoBulkAll {H : Type} : List (DataW H) → Nat
  | [] => 0
  | d :: r => uptoBulk d + uptoBulkAll r
def uptoBulkEntries {H : Type} : List (Lit × DataW H) → Nat
  | [] => 0
  | x :: r => uptoBulkEntry x + uptoBulkEntries r
def uptoBulkEntry {H : Type} : Lit × DataW H → Nat
  | (.string bytes, d) => bytes.length + uptoBulk d + 1
  | (_, d) => uptoBulk d + 1
 end
def uptoSmall : (H : Type) → List (DataW H) → Bool := fun _ ds => decide (uptoBulkAll ds ≤ 1048576)
def OpenSpec.upto (s : _root_.Go.ChangeSpec) : _root_.Go.OpenSpec := { _root_.Go.OpenSpec.ofChange s with cond := some uptoSmall }

/-- 'glyphiclaw14.ArcRounds', WHERE WHAT IT READS IS OF BULK AT MOST 1048576: true; the input reads as it did. -/
def arcRoundsUptoRow : OpenClaim := { program := "ytmbcokndaaelaaa", sum := "b8b851dd1c5db2477abc3b8eec187374ee734640f42f904d9cd49f13b24b0bc7", func := "glyphic/glyphiclaw14.ArcRounds", spec := "arcRounds", apart := false, narrowed := true }
def ArcRoundsUptoSaid : Prop := arcRoundsUptoRow.holds Try.pinned (OpenSpec.upto arcRoundsSpec)

/-- 'glyphiclaw14.ArcMirrors', WHERE WHAT IT READS IS OF BULK AT MOST 1048576: true; the input reads as it did. -/
def arcMirrorsUptoRow : OpenClaim := { program := "ytmbcokndaaelaaa", sum := "b8b851dd1c5db2477abc3b8eec187374ee734640f42f904d9cd49f13b24b0bc7", func := "glyphic/glyphiclaw14.ArcMirrors", spec := "arcMirrors", apart := false, narrowed := true }
def ArcMirrorsUptoSaid : Prop := arcMirrorsUptoRow.holds Try.pinned (OpenSpec.upto arcMirrorsSpec)

/-- 'glyphiclaw14.ArcBoxes', WHERE WHAT IT READS IS OF BULK AT MOST 1048576: true; the input reads as it did. -/
def arcBoxesUptoRow : OpenClaim := { program := "ytmbcokndaaelaaa", sum := "b8b851dd1c5db2477abc3b8eec187374ee734640f42f904d9cd49f13b24b0bc7", func := "glyphic/glyphiclaw14.ArcBoxes", spec := "arcBoxes", apart := false, narrowed := true }
def ArcBoxesUptoSaid : Prop := arcBoxesUptoRow.holds Try.pinned (OpenSpec.upto arcBoxesSpec)

/-- 'glyphiclaw26.BlendSays', WHERE WHAT IT READS IS OF BULK AT MOST 1048576: true; the input reads as it did. -/
def blendSaysUptoRow : OpenClaim := { program := "ytmbcokndaaelaaa", sum := "b8b851dd1c5db2477abc3b8eec187374ee734640f42f904d9cd49f13b24b0bc7", func := "glyphic/glyphiclaw26.BlendSays", spec := "blendSays", apart := false, narrowed := true }
def BlendSaysUptoSaid : Prop := blendSaysUptoRow.holds Try.pinned (OpenSpec.upto blendSaysSpec)

/-- 'glyphiclaw26.BlendEnds', WHERE WHAT IT READS IS OF BULK AT MOST 1048576: true; the input reads as it did. -/
def blendEndsUptoRow : OpenClaim := { program := "ytmbcokndaaelaaa", sum := "b8b851dd1c5db2477abc3b8eec187374ee734640f42f904d9cd49f13b24b0bc7", func := "glyphic/glyphiclaw26.BlendEnds", spec := "blendEnds", apart := false, narrowed := true }
def BlendEndsUptoSaid : Prop := blendEndsUptoRow.holds Try.pinned (OpenSpec.upto blendEndsSpec)

/-- 'glyphiclaw26.BlendOpaque', WHERE WHAT IT READS IS OF BULK AT MOST 1048576: true; the input reads as it did. -/
def blendOpaqueUptoRow : OpenClaim := { program := "ytmbcokndaaelaaa", sum := "b8b851dd1c5db2477abc3b8eec187374ee734640f42f904d9cd49f13b24b0bc7", func := "glyphic/glyphiclaw26.BlendOpaque", spec := "blendOpaque", apart := false, narrowed := true }
def BlendOpaqueUptoSaid : Prop := blendOpaqueUptoRow.holds Try.pinned (OpenSpec.upto blendOpaqueSpec)

/-- 'glyphiclaw26.BlendBytes', WHERE WHAT IT READS IS OF BULK AT MOST 1048576: true; the input reads as it did. -/
def blendBytesUptoRow : OpenClaim := { program := "ytmbcokndaaelaaa", sum := "b8b851dd1c5db2477abc3b8eec187374ee734640f42f904d9cd49f13b24b0bc7", func := "glyphic/glyphiclaw26.BlendBytes", spec := "blendBytes", apart := false, narrowed := true }
def BlendBytesUptoSaid : Prop := blendBytesUptoRow.holds Try.pinned (OpenSpec.upto blendBytesSpec)

/-- 'glyphiclaw14.ArcSays', WHERE WHAT IT READS IS OF BULK AT MOST 1048576: true; the input reads as it did. -/
def arcSaysUptoRow : OpenClaim := { program := "ytmbcokndaaelaaa", sum := "b8b851dd1c5db2477abc3b8eec187374ee734640f42f904d9cd49f13b24b0bc7", func := "glyphic/glyphiclaw14.ArcSays", spec := "arcSays", named := ["math/bits.divideError", "math/bits.overflowError"], apart := false, narrowed := true }
def ArcSaysUptoSaid : Prop := arcSaysUptoRow.holds Try.pinned (OpenSpec.upto arcSaysSpec)

/-- 'glyphiclaw25.PaintEnds', WHERE WHAT IT READS IS OF BULK AT MOST 1048576: true; the input reads as it did. -/
def paintEndsUptoRow : OpenClaim := { program := "ytmbcokndaaelaaa", sum := "b8b851dd1c5db2477abc3b8eec187374ee734640f42f904d9cd49f13b24b0bc7", func := "glyphic/glyphiclaw25.PaintEnds", spec := "paintEnds", named := ["math/bits.divideError", "math/bits.overflowError"], apart := false, narrowed := true }
def PaintEndsUptoSaid : Prop := paintEndsUptoRow.holds Try.pinned (OpenSpec.upto paintEndsSpec)

/-- 'glyphiclaw25.PaintMixes', WHERE WHAT IT READS IS OF BULK AT MOST 1048576: true; the input reads as it did. -/
def paintMixesUptoRow : OpenClaim := { program := "ytmbcokndaaelaaa", sum := "b8b851dd1c5db2477abc3b8eec187374ee734640f42f904d9cd49f13b24b0bc7", func := "glyphic/glyphiclaw25.PaintMixes", spec := "paintMixes", named := ["math/bits.divideError", "math/bits.overflowError"], apart := false, narrowed := true }
def PaintMixesUptoSaid : Prop := paintMixesUptoRow.holds Try.pinned (OpenSpec.upto paintMixesSpec)

/-- 'glyphiclaw25.PaintLines', WHERE WHAT IT READS IS OF BULK AT MOST 1048576: true; the input reads as it did. -/
def paintLinesUptoRow : OpenClaim := { program := "ytmbcokndaaelaaa", sum := "b8b851dd1c5db2477abc3b8eec187374ee734640f42f904d9cd49f13b24b0bc7", func := "glyphic/glyphiclaw25.PaintLines", spec := "paintLines", named := ["math/bits.divideError", "math/bits.overflowError"], apart := false, narrowed := true }
def PaintLinesUptoSaid : Prop := paintLinesUptoRow.holds Try.pinned (OpenSpec.upto paintLinesSpec)

/-- 'glyphiclaw25.PaintRings', WHERE WHAT IT READS IS OF BULK AT MOST 1048576: true; the input reads as it did. -/
def paintRingsUptoRow : OpenClaim := { program := "ytmbcokndaaelaaa", sum := "b8b851dd1c5db2477abc3b8eec187374ee734640f42f904d9cd49f13b24b0bc7", func := "glyphic/glyphiclaw25.PaintRings", spec := "paintRings", named := ["math/bits.divideError", "math/bits.overflowError"], apart := false, narrowed := true }
def PaintRingsUptoSaid : Prop := paintRingsUptoRow.holds Try.pinned (OpenSpec.upto paintRingsSpec)

/-- 'glyphiclaw25.PaintSays', WHERE WHAT IT READS IS OF BULK AT MOST 1048576: true; the input reads as it did. -/
def paintSaysUptoRow : OpenClaim := { program := "ytmbcokndaaelaaa", sum := "b8b851dd1c5db2477abc3b8eec187374ee734640f42f904d9cd49f13b24b0bc7", func := "glyphic/glyphiclaw25.PaintSays", spec := "paintSays", unfollowed := true, recurses := true, named := ["math/bits.divideError", "math/bits.overflowError"], apart := false, narrowed := true }
def PaintSaysUptoSaid : Prop := paintSaysUptoRow.holds Try.pinned (OpenSpec.upto paintSaysSpec)

end Rows
end Go.Proofs.Ytmbcokndaaelaaa
