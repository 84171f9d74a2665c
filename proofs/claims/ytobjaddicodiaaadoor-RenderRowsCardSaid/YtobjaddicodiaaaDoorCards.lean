/-
  DERIVED. GIVEN WITH THE SEED: THE CARDS: each row of YtobjaddicodiaaaDoorRows.lean that lists a variable, with what it lists TIED to the program's text (the seventh form; the later family's looks); each row that meets fmt, with fmt's text TOLD by the authors' own Lean function (tested against real Go, not proved from fmt's source: count such statements apart). THE CARD IS WHAT COUNTS. Prove the row's statement (the work); the ties are given (YtobjaddicodiaaaDoorTie.lean); close each card by the builder's one call (the guide's Derived/Test/ToyasCard.lean, 'card_holds'). Laid BY PROGRAM, IN A SANDBOX (cutbox-door.mjs). By AI agents, Wed Nov 11 2026. No macro, syntax, notation, axiom, sorry.
-/
import Derived.Test.YtobjaddicodiaaaDoorRows
import GoSem.ClaimSeven
namespace Go.Proofs.YtobjaddicodiaaaDoor
namespace Rows

/-- THE TIED CARD OF 'glyphiclaw27.RenderWhole'. -/
def renderWholeCard : Claim7 := { stood := { row := renderWholeRow, standIns := [], harness := (true, "78e072a88d6d42ffcf26d38993b24d91dbba405c61328073ab6be877a418f9c7"), looks := true }, kinds := [], alts := [], laidByText := true, laidKinds := [.sentinel, .sentinel], laidTests := true, laidLooks := .later }
def RenderWholeCardSaid : Prop := Claim7.holds Tryd.pinned (.plain (OpenSpec.ofChange renderWholeSpec)) renderWholeCard

/-- THE TIED CARD OF 'glyphiclaw27.RenderOver'. -/
def renderOverCard : Claim7 := { stood := { row := renderOverRow, standIns := [], harness := (true, "78e072a88d6d42ffcf26d38993b24d91dbba405c61328073ab6be877a418f9c7"), looks := true }, kinds := [], alts := [], laidByText := true, laidKinds := [.sentinel, .sentinel, .sentinel, .sentinel, .sentinel, .sentinel, .sentinel, .sentinel, .sentinel, .sentinel, .sentinel, .sentinel, .sentinel], laidTests := true, laidLooks := .later }
def RenderOverCardSaid : Prop := Claim7.holds Tryd.pinned (.plain (OpenSpec.ofChange renderOverSpec)) renderOverCard

/-- THE TIED CARD OF 'glyphiclaw27.RenderRows'. -/
def renderRowsCard : Claim7 := { stood := { row := renderRowsRow, standIns := [], harness := (true, "78e072a88d6d42ffcf26d38993b24d91dbba405c61328073ab6be877a418f9c7"), looks := true }, kinds := [], alts := [], laidByText := true, laidKinds := [.sentinel, .sentinel, .sentinel, .sentinel, .sentinel, .sentinel, .sentinel, .sentinel, .sentinel, .sentinel, .sentinel, .sentinel, .sentinel], laidTests := true, laidLooks := .later }
def RenderRowsCardSaid : Prop := Claim7.holds Tryd.pinned (.plain (OpenSpec.ofChange renderRowsSpec)) renderRowsCard

/-- THE SECOND FORM's CARD OF 'glyphiclaw27.RenderWhole'. -/
def renderWholeUptoCard : Claim7 := { stood := { row := renderWholeUptoRow, standIns := [], harness := (true, "78e072a88d6d42ffcf26d38993b24d91dbba405c61328073ab6be877a418f9c7"), looks := true }, kinds := [], alts := [], laidByText := true, laidKinds := [.sentinel, .sentinel], laidTests := true, laidLooks := .later }
def RenderWholeUptoCardSaid : Prop := Claim7.holds Tryd.pinned (.plain (OpenSpec.upto renderWholeSpec)) renderWholeUptoCard

/-- THE SECOND FORM's CARD OF 'glyphiclaw27.RenderOver'. -/
def renderOverUptoCard : Claim7 := { stood := { row := renderOverUptoRow, standIns := [], harness := (true, "78e072a88d6d42ffcf26d38993b24d91dbba405c61328073ab6be877a418f9c7"), looks := true }, kinds := [], alts := [], laidByText := true, laidKinds := [.sentinel, .sentinel, .sentinel, .sentinel, .sentinel, .sentinel, .sentinel, .sentinel, .sentinel, .sentinel, .sentinel, .sentinel, .sentinel], laidTests := true, laidLooks := .later }
def RenderOverUptoCardSaid : Prop := Claim7.holds Tryd.pinned (.plain (OpenSpec.upto renderOverSpec)) renderOverUptoCard

/-- THE SECOND FORM's CARD OF 'glyphiclaw27.RenderRows'. -/
def renderRowsUptoCard : Claim7 := { stood := { row := renderRowsUptoRow, standIns := [], harness := (true, "78e072a88d6d42ffcf26d38993b24d91dbba405c61328073ab6be877a418f9c7"), looks := true }, kinds := [], alts := [], laidByText := true, laidKinds := [.sentinel, .sentinel, .sentinel, .sentinel, .sentinel, .sentinel, .sentinel, .sentinel, .sentinel, .sentinel, .sentinel, .sentinel, .sentinel], laidTests := true, laidLooks := .later }
def RenderRowsUptoCardSaid : Prop := Claim7.holds Tryd.pinned (.plain (OpenSpec.upto renderRowsSpec)) renderRowsUptoCard
end Rows
end Go.Proofs.YtobjaddicodiaaaDoor
