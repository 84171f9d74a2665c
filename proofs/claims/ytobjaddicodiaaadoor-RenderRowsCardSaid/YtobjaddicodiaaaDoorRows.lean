/-
  NARROWER THAN 'FOR EVERY INPUT', by the rows' own cells (each row's printed sentence says how): RenderWhole: laid · RenderOver: laid · RenderRows: laid.
  DERIVED. THE GIVEN ROWS OF THIS SEAT. 3 by the template 'for every input the law returns true; each argument reads behind the call as it read before'; 0 by the template 'total and deterministic' (their statements: YtobjaddicodiaaaDoorTotals.lean).
  GIVEN WITH THE SEED: the statements are not yours to turn. If you find one false, say at which input.
  Laid BY PROGRAM, IN A SANDBOX (cutbox-rows.mjs): the forced cells as the released guide's own fill.sh prints them over the translation 511106d05a1a4618… (all of the seat's roots in one cut). By AI agents, Wed Nov 11 2026. No macro, syntax, notation, axiom, sorry.
-/
import Derived.Test.YtobjaddicodiaaaDoorChecked
import GoSem.Claim
import GoSem.ClaimJoined
import GoSem.ClaimMapViews
import Derived.JoinedTies
import Derived.KernelRfl
namespace Go.Proofs.YtobjaddicodiaaaDoor
/- THE CELL 'sum', in the pinned program and in every row, IS THE sha256 OF THE DUMP (.gsa) THAT YtobjaddicodiaaaDoorProg.lean LOADS. Nothing in Lean hashes anything: it is a label: what it is worth is what the hold of that sum in a sandbox is worth. -/
noncomputable def Tryd.pinned : Pinned := { name := "ytobjaddicodiaaadoor", sum := "511106d05a1a4618a76b4a25b4d95f36e8d06fafce925360d7f72d5788d0e636", checked := Tryd.checked }
namespace Rows
def none {H : Type} : Left H := { results := [], args := [] }

/- WHAT THE LISTED PACKAGE-LEVEL VARIABLES READ AS WHEN THE CALL BEGINS. Each datum BY PROGRAM (the guide's laid-datum.mjs) off the statement by which the dump's own 'gosem.cut.vars' lays the variable. In a bare row this is a premise. The card (YtobjaddicodiaaaDoorCards.lean) ties it to the program's text. -/
def laid_glyphic_api_ErrWidth {H : Type} : DataW H := .iface "*errors.errorString" (.ptr (.agg [.lit (.string [97, 32, 119, 105, 100, 116, 104, 32, 116, 104, 97, 116, 32, 99, 97, 110, 39, 116, 32, 98, 101])]))
def laid_glyphic_api_ErrBudget {H : Type} : DataW H := .iface "*errors.errorString" (.ptr (.agg [.lit (.string [109, 111, 114, 101, 32, 101, 100, 103, 101, 115, 32, 116, 104, 97, 110, 32, 109, 97, 121, 32, 98, 101])]))
def laid_glyphic_api_ErrText {H : Type} : DataW H := .iface "*errors.errorString" (.ptr (.agg [.lit (.string [110, 111, 116, 32, 97, 115, 32, 105, 116, 32, 105, 115, 32, 119, 114, 105, 116, 116, 101, 110])]))
def laid_glyphic_api_ErrName {H : Type} : DataW H := .iface "*errors.errorString" (.ptr (.agg [.lit (.string [97, 32, 110, 97, 109, 101, 32, 116, 104, 97, 116, 32, 105, 115, 32, 110, 111, 98, 111, 100, 121, 39, 115])]))
def laid_glyphic_api_ErrTwice {H : Type} : DataW H := .iface "*errors.errorString" (.ptr (.agg [.lit (.string [97, 32, 110, 97, 109, 101, 32, 116, 119, 105, 99, 101])]))
def laid_glyphic_api_ErrPath {H : Type} : DataW H := .iface "*errors.errorString" (.ptr (.agg [.lit (.string [115, 116, 101, 112, 115, 32, 116, 104, 97, 116, 32, 97, 114, 101, 32, 110, 111, 32, 112, 97, 116, 104])]))
def laid_glyphic_api_ErrRange {H : Type} : DataW H := .iface "*errors.errorString" (.ptr (.agg [.lit (.string [97, 32, 110, 117, 109, 98, 101, 114, 32, 111, 117, 116, 32, 111, 102, 32, 105, 116, 115, 32, 114, 97, 110, 103, 101])]))
def laid_glyphic_api_ErrLimit {H : Type} : DataW H := .iface "*errors.errorString" (.ptr (.agg [.lit (.string [109, 111, 114, 101, 32, 116, 104, 97, 110, 32, 109, 97, 121, 32, 98, 101])]))
def laid_glyphic_api_ErrShort {H : Type} : DataW H := .iface "*errors.errorString" (.ptr (.agg [.lit (.string [108, 101, 115, 115, 32, 116, 104, 97, 110, 32, 104, 97, 115, 32, 116, 111, 32, 98, 101])]))
def laid_glyphic_api_ErrMagic {H : Type} : DataW H := .iface "*errors.errorString" (.ptr (.agg [.lit (.string [110, 111, 116, 32, 97, 110, 32, 105, 99, 111, 110])]))
def laid_glyphic_api_ErrVarint {H : Type} : DataW H := .iface "*errors.errorString" (.ptr (.agg [.lit (.string [97, 32, 110, 117, 109, 98, 101, 114, 32, 116, 104, 97, 116, 32, 105, 115, 32, 110, 111, 116, 32, 119, 114, 105, 116, 116, 101, 110, 32, 115, 104, 111, 114, 116, 108, 121])]))
def laid_glyphic_api_ErrCanon {H : Type} : DataW H := .iface "*errors.errorString" (.ptr (.agg [.lit (.string [110, 111, 116, 32, 116, 104, 101, 32, 111, 110, 101, 32, 102, 111, 114, 109])]))
def laid_glyphic_api_ErrTrail {H : Type} : DataW H := .iface "*errors.errorString" (.ptr (.agg [.lit (.string [98, 121, 116, 101, 115, 32, 98, 101, 104, 105, 110, 100, 32, 116, 104, 101, 32, 101, 110, 100])]))

/-- 'glyphiclaw27.RenderWhole': WHATEVER THE INPUT: true; the input reads as it did. -/
def renderWholeSpec : ChangeSpec := { name := "renderWhole", fn := fun _ => fun
  | [d1, d2, d3] => { results := [.lit (.bool true)], args := [d1, d2, d3] }
  | _ => none }
def renderWholeRow : OpenClaim := { program := "ytobjaddicodiaaadoor", sum := "511106d05a1a4618a76b4a25b4d95f36e8d06fafce925360d7f72d5788d0e636", func := "glyphic/glyphiclaw27.RenderWhole", spec := "renderWhole", unfollowed := true, recurses := true, named := ["glyphic/api.ErrBudget", "glyphic/api.ErrWidth", "math/bits.divideError", "math/bits.overflowError"], apart := false, laid := [("glyphic/api.ErrWidth", laid_glyphic_api_ErrWidth), ("glyphic/api.ErrBudget", laid_glyphic_api_ErrBudget)] }
def RenderWholeSaid : Prop := renderWholeRow.holds Tryd.pinned (OpenSpec.ofChange renderWholeSpec)

/-- ITS FALSE NEIGHBOUR: 'it returns false'. Refute it at one input. -/
def renderWholeWrong : ChangeSpec := { name := "renderWhole", fn := fun _ => fun
  | [d1, d2, d3] => { results := [.lit (.bool false)], args := [d1, d2, d3] }
  | _ => none }
def RenderWholeWrongFalsely : Prop := renderWholeRow.holds Tryd.pinned (OpenSpec.ofChange renderWholeWrong)

/-- 'glyphiclaw27.RenderOver': WHATEVER THE INPUT: true; the input reads as it did. -/
def renderOverSpec : ChangeSpec := { name := "renderOver", fn := fun _ => fun
  | [d1, d2, d3] => { results := [.lit (.bool true)], args := [d1, d2, d3] }
  | _ => none }
def renderOverRow : OpenClaim := { program := "ytobjaddicodiaaadoor", sum := "511106d05a1a4618a76b4a25b4d95f36e8d06fafce925360d7f72d5788d0e636", func := "glyphic/glyphiclaw27.RenderOver", spec := "renderOver", unfollowed := true, recurses := true, named := ["glyphic/api.ErrBudget", "glyphic/api.ErrWidth", "math/bits.divideError", "math/bits.overflowError", "glyphic/api.ErrText", "glyphic/api.ErrName", "glyphic/api.ErrTwice", "glyphic/api.ErrPath", "glyphic/api.ErrRange", "glyphic/api.ErrLimit", "glyphic/api.ErrShort", "glyphic/api.ErrMagic", "glyphic/api.ErrVarint", "glyphic/api.ErrCanon", "glyphic/api.ErrTrail"], apart := false, laid := [("glyphic/api.ErrText", laid_glyphic_api_ErrText), ("glyphic/api.ErrName", laid_glyphic_api_ErrName), ("glyphic/api.ErrTwice", laid_glyphic_api_ErrTwice), ("glyphic/api.ErrPath", laid_glyphic_api_ErrPath), ("glyphic/api.ErrRange", laid_glyphic_api_ErrRange), ("glyphic/api.ErrLimit", laid_glyphic_api_ErrLimit), ("glyphic/api.ErrShort", laid_glyphic_api_ErrShort), ("glyphic/api.ErrMagic", laid_glyphic_api_ErrMagic), ("glyphic/api.ErrVarint", laid_glyphic_api_ErrVarint), ("glyphic/api.ErrCanon", laid_glyphic_api_ErrCanon), ("glyphic/api.ErrTrail", laid_glyphic_api_ErrTrail), ("glyphic/api.ErrWidth", laid_glyphic_api_ErrWidth), ("glyphic/api.ErrBudget", laid_glyphic_api_ErrBudget)] }
def RenderOverSaid : Prop := renderOverRow.holds Tryd.pinned (OpenSpec.ofChange renderOverSpec)

/-- ITS FALSE NEIGHBOUR: 'it returns false'. Refute it at one input. -/
def renderOverWrong : ChangeSpec := { name := "renderOver", fn := fun _ => fun
  | [d1, d2, d3] => { results := [.lit (.bool false)], args := [d1, d2, d3] }
  | _ => none }
def RenderOverWrongFalsely : Prop := renderOverRow.holds Tryd.pinned (OpenSpec.ofChange renderOverWrong)

/-- 'glyphiclaw27.RenderRows': WHATEVER THE INPUT: true; the input reads as it did. -/
def renderRowsSpec : ChangeSpec := { name := "renderRows", fn := fun _ => fun
  | [d1, d2] => { results := [.lit (.bool true)], args := [d1, d2] }
  | _ => none }
def renderRowsRow : OpenClaim := { program := "ytobjaddicodiaaadoor", sum := "511106d05a1a4618a76b4a25b4d95f36e8d06fafce925360d7f72d5788d0e636", func := "glyphic/glyphiclaw27.RenderRows", spec := "renderRows", unfollowed := true, recurses := true, named := ["glyphic/api.ErrBudget", "glyphic/api.ErrWidth", "math/bits.divideError", "math/bits.overflowError", "glyphic/api.ErrText", "glyphic/api.ErrName", "glyphic/api.ErrTwice", "glyphic/api.ErrPath", "glyphic/api.ErrRange", "glyphic/api.ErrLimit", "glyphic/api.ErrShort", "glyphic/api.ErrMagic", "glyphic/api.ErrVarint", "glyphic/api.ErrCanon", "glyphic/api.ErrTrail"], apart := false, laid := [("glyphic/api.ErrText", laid_glyphic_api_ErrText), ("glyphic/api.ErrName", laid_glyphic_api_ErrName), ("glyphic/api.ErrTwice", laid_glyphic_api_ErrTwice), ("glyphic/api.ErrPath", laid_glyphic_api_ErrPath), ("glyphic/api.ErrRange", laid_glyphic_api_ErrRange), ("glyphic/api.ErrLimit", laid_glyphic_api_ErrLimit), ("glyphic/api.ErrShort", laid_glyphic_api_ErrShort), ("glyphic/api.ErrMagic", laid_glyphic_api_ErrMagic), ("glyphic/api.ErrVarint", laid_glyphic_api_ErrVarint), ("glyphic/api.ErrCanon", laid_glyphic_api_ErrCanon), ("glyphic/api.ErrTrail", laid_glyphic_api_ErrTrail), ("glyphic/api.ErrWidth", laid_glyphic_api_ErrWidth), ("glyphic/api.ErrBudget", laid_glyphic_api_ErrBudget)] }
def RenderRowsSaid : Prop := renderRowsRow.holds Tryd.pinned (OpenSpec.ofChange renderRowsSpec)

/-- ITS FALSE NEIGHBOUR: 'it returns false'. Refute it at one input. -/
def renderRowsWrong : ChangeSpec := { name := "renderRows", fn := fun _ => fun
  | [d1, d2] => { results := [.lit (.bool false)], args := [d1, d2] }
  | _ => none }
def RenderRowsWrongFalsely : Prop := renderRowsRow.holds Tryd.pinned (OpenSpec.ofChange renderRowsWrong)

/- THE SECOND FORM. 'bulk': how many values and letters a reading holds, each counted each time it is reached (what is shared counts as often as it is met; a slice's spare places count too). A statement '..UptoSaid' is the law's where the arguments, and the package variables that the reading takes, are together of bulk at most 1048576: NARROWER than '..Said'. Prove '..Said' where nothing that the law and all that it calls make is longer than what came in: it says more and counts as full. Else prove '..UptoSaid'. A law counts once. -/
mutual
def uptoBulk {H : Type} : DataW H → Nat
  | .lit (.string bytes) => bytes.length + 1
  | .lit _ => 1
  | .nil => 1
  | .ptr d => uptoBulk d + 1
  | .slice elems spare => uptoBulkAll elems + uptoBulkAll spare + 1
  | .agg parts => uptoBulkAll parts + 1
  | .iface _ d => uptoBulk d + 1
  | .map entries => uptoBulkEntries entries + 1
  | .held _ => 1
def uptoBulkAll {H : Type} : List (DataW H) → Nat
  | [] => 0
  | d :: r => uptoBulk d + uptoBulkAll r
def uptoBulkEntries {H : Type} : List (Lit × DataW H) → Nat
  | [] => 0
  | x :: r => uptoBulkEntry x + uptoBulkEntries r
def uptoBulkEntry {H : Type} : Lit × DataW H → Nat
  | (.string bytes, d) => bytes.length + uptoBulk d + 1
  | (_, d) => uptoBulk d + 1
 end
def uptoSmall : (H : Type) → List (DataW H) → Bool := fun _ ds => decide (uptoBulkAll ds ≤ 1048576)
def OpenSpec.upto (s : _root_.Go.ChangeSpec) : _root_.Go.OpenSpec := { _root_.Go.OpenSpec.ofChange s with cond := some uptoSmall }

/-- 'glyphiclaw27.RenderWhole', WHERE WHAT IT READS IS OF BULK AT MOST 1048576: true; the input reads as it did. -/
def renderWholeUptoRow : OpenClaim := { program := "ytobjaddicodiaaadoor", sum := "511106d05a1a4618a76b4a25b4d95f36e8d06fafce925360d7f72d5788d0e636", func := "glyphic/glyphiclaw27.RenderWhole", spec := "renderWhole", unfollowed := true, recurses := true, named := ["glyphic/api.ErrBudget", "glyphic/api.ErrWidth", "math/bits.divideError", "math/bits.overflowError"], apart := false, laid := [("glyphic/api.ErrWidth", laid_glyphic_api_ErrWidth), ("glyphic/api.ErrBudget", laid_glyphic_api_ErrBudget)], narrowed := true }
def RenderWholeUptoSaid : Prop := renderWholeUptoRow.holds Tryd.pinned (OpenSpec.upto renderWholeSpec)

/-- 'glyphiclaw27.RenderOver', WHERE WHAT IT READS IS OF BULK AT MOST 1048576: true; the input reads as it did. -/
def renderOverUptoRow : OpenClaim := { program := "ytobjaddicodiaaadoor", sum := "511106d05a1a4618a76b4a25b4d95f36e8d06fafce925360d7f72d5788d0e636", func := "glyphic/glyphiclaw27.RenderOver", spec := "renderOver", unfollowed := true, recurses := true, named := ["glyphic/api.ErrBudget", "glyphic/api.ErrWidth", "math/bits.divideError", "math/bits.overflowError", "glyphic/api.ErrText", "glyphic/api.ErrName", "glyphic/api.ErrTwice", "glyphic/api.ErrPath", "glyphic/api.ErrRange", "glyphic/api.ErrLimit", "glyphic/api.ErrShort", "glyphic/api.ErrMagic", "glyphic/api.ErrVarint", "glyphic/api.ErrCanon", "glyphic/api.ErrTrail"], apart := false, laid := [("glyphic/api.ErrText", laid_glyphic_api_ErrText), ("glyphic/api.ErrName", laid_glyphic_api_ErrName), ("glyphic/api.ErrTwice", laid_glyphic_api_ErrTwice), ("glyphic/api.ErrPath", laid_glyphic_api_ErrPath), ("glyphic/api.ErrRange", laid_glyphic_api_ErrRange), ("glyphic/api.ErrLimit", laid_glyphic_api_ErrLimit), ("glyphic/api.ErrShort", laid_glyphic_api_ErrShort), ("glyphic/api.ErrMagic", laid_glyphic_api_ErrMagic), ("glyphic/api.ErrVarint", laid_glyphic_api_ErrVarint), ("glyphic/api.ErrCanon", laid_glyphic_api_ErrCanon), ("glyphic/api.ErrTrail", laid_glyphic_api_ErrTrail), ("glyphic/api.ErrWidth", laid_glyphic_api_ErrWidth), ("glyphic/api.ErrBudget", laid_glyphic_api_ErrBudget)], narrowed := true }
def RenderOverUptoSaid : Prop := renderOverUptoRow.holds Tryd.pinned (OpenSpec.upto renderOverSpec)

/-- 'glyphiclaw27.RenderRows', WHERE WHAT IT READS IS OF BULK AT MOST 1048576: true; the input reads as it did. -/
def renderRowsUptoRow : OpenClaim := { program := "ytobjaddicodiaaadoor", sum := "511106d05a1a4618a76b4a25b4d95f36e8d06fafce925360d7f72d5788d0e636", func := "glyphic/glyphiclaw27.RenderRows", spec := "renderRows", unfollowed := true, recurses := true, named := ["glyphic/api.ErrBudget", "glyphic/api.ErrWidth", "math/bits.divideError", "math/bits.overflowError", "glyphic/api.ErrText", "glyphic/api.ErrName", "glyphic/api.ErrTwice", "glyphic/api.ErrPath", "glyphic/api.ErrRange", "glyphic/api.ErrLimit", "glyphic/api.ErrShort", "glyphic/api.ErrMagic", "glyphic/api.ErrVarint", "glyphic/api.ErrCanon", "glyphic/api.ErrTrail"], apart := false, laid := [("glyphic/api.ErrText", laid_glyphic_api_ErrText), ("glyphic/api.ErrName", laid_glyphic_api_ErrName), ("glyphic/api.ErrTwice", laid_glyphic_api_ErrTwice), ("glyphic/api.ErrPath", laid_glyphic_api_ErrPath), ("glyphic/api.ErrRange", laid_glyphic_api_ErrRange), ("glyphic/api.ErrLimit", laid_glyphic_api_ErrLimit), ("glyphic/api.ErrShort", laid_glyphic_api_ErrShort), ("glyphic/api.ErrMagic", laid_glyphic_api_ErrMagic), ("glyphic/api.ErrVarint", laid_glyphic_api_ErrVarint), ("glyphic/api.ErrCanon", laid_glyphic_api_ErrCanon), ("glyphic/api.ErrTrail", laid_glyphic_api_ErrTrail), ("glyphic/api.ErrWidth", laid_glyphic_api_ErrWidth), ("glyphic/api.ErrBudget", laid_glyphic_api_ErrBudget)], narrowed := true }
def RenderRowsUptoSaid : Prop := renderRowsUptoRow.holds Tryd.pinned (OpenSpec.upto renderRowsSpec)

end Rows
end Go.Proofs.YtobjaddicodiaaaDoor
