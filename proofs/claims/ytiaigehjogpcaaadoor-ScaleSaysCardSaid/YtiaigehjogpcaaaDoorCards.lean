/-
  DERIVED. GIVEN WITH THE SEED: THE CARDS: each row of YtiaigehjogpcaaaDoorRows.lean that lists a variable, with what it lists TIED to the program's text (the seventh form; the later family's looks); each row that meets fmt, with fmt's text TOLD by the authors' own Lean function (tested against real Go, not proved from fmt's source: count such statements apart). THE CARD IS WHAT COUNTS. Prove the row's statement (the work); the ties are given (YtiaigehjogpcaaaDoorTie.lean); close each card by the builder's one call (the guide's Derived/Test/ToyasCard.lean, 'card_holds'). Laid BY PROGRAM, IN A SANDBOX (cutbox-door.mjs). By AI agents, Wed Nov 11 2026. No macro, syntax, notation, axiom, sorry.
-/
import Derived.Test.YtiaigehjogpcaaaDoorRows
import GoSem.ClaimSeven
namespace Go.Proofs.YtiaigehjogpcaaaDoor
namespace Rows

/-- THE TIED CARD OF 'glyphiclaw20.ScaleSteps'. -/
def scaleStepsCard : Claim7 := { stood := { row := scaleStepsRow, standIns := [], harness := (true, "766b9f928ce677f579b194b36428713a2a9d80a2430577fd49814a3c3512c4cf"), looks := true }, kinds := [], alts := [], laidByText := true, laidKinds := [.sentinel, .sentinel], laidTests := true, laidLooks := .later }
def ScaleStepsCardSaid : Prop := Claim7.holds Tryd.pinned (.plain (OpenSpec.ofChange scaleStepsSpec)) scaleStepsCard

/-- THE TIED CARD OF 'glyphiclaw20.ScaleSays'. -/
def scaleSaysCard : Claim7 := { stood := { row := scaleSaysRow, standIns := [], harness := (true, "766b9f928ce677f579b194b36428713a2a9d80a2430577fd49814a3c3512c4cf"), looks := true }, kinds := [], alts := [], laidByText := true, laidKinds := [.sentinel, .sentinel, .sentinel, .sentinel, .sentinel, .sentinel, .sentinel, .sentinel, .sentinel, .sentinel, .sentinel, .sentinel, .sentinel], laidTests := true, laidLooks := .later }
def ScaleSaysCardSaid : Prop := Claim7.holds Tryd.pinned (.plain (OpenSpec.ofChange scaleSaysSpec)) scaleSaysCard

/-- THE TIED CARD OF 'glyphiclaw20.ScaleCmds'. -/
def scaleCmdsCard : Claim7 := { stood := { row := scaleCmdsRow, standIns := [], harness := (true, "766b9f928ce677f579b194b36428713a2a9d80a2430577fd49814a3c3512c4cf"), looks := true }, kinds := [], alts := [], laidByText := true, laidKinds := [.sentinel, .sentinel], laidTests := true, laidLooks := .later }
def ScaleCmdsCardSaid : Prop := Claim7.holds Tryd.pinned (.plain (OpenSpec.ofChange scaleCmdsSpec)) scaleCmdsCard

/-- THE SECOND FORM's CARD OF 'glyphiclaw20.ScaleSteps'. -/
def scaleStepsUptoCard : Claim7 := { stood := { row := scaleStepsUptoRow, standIns := [], harness := (true, "766b9f928ce677f579b194b36428713a2a9d80a2430577fd49814a3c3512c4cf"), looks := true }, kinds := [], alts := [], laidByText := true, laidKinds := [.sentinel, .sentinel], laidTests := true, laidLooks := .later }
def ScaleStepsUptoCardSaid : Prop := Claim7.holds Tryd.pinned (.plain (OpenSpec.upto scaleStepsSpec)) scaleStepsUptoCard

/-- THE SECOND FORM's CARD OF 'glyphiclaw20.ScaleSays'. -/
def scaleSaysUptoCard : Claim7 := { stood := { row := scaleSaysUptoRow, standIns := [], harness := (true, "766b9f928ce677f579b194b36428713a2a9d80a2430577fd49814a3c3512c4cf"), looks := true }, kinds := [], alts := [], laidByText := true, laidKinds := [.sentinel, .sentinel, .sentinel, .sentinel, .sentinel, .sentinel, .sentinel, .sentinel, .sentinel, .sentinel, .sentinel, .sentinel, .sentinel], laidTests := true, laidLooks := .later }
def ScaleSaysUptoCardSaid : Prop := Claim7.holds Tryd.pinned (.plain (OpenSpec.upto scaleSaysSpec)) scaleSaysUptoCard

/-- THE SECOND FORM's CARD OF 'glyphiclaw20.ScaleCmds'. -/
def scaleCmdsUptoCard : Claim7 := { stood := { row := scaleCmdsUptoRow, standIns := [], harness := (true, "766b9f928ce677f579b194b36428713a2a9d80a2430577fd49814a3c3512c4cf"), looks := true }, kinds := [], alts := [], laidByText := true, laidKinds := [.sentinel, .sentinel], laidTests := true, laidLooks := .later }
def ScaleCmdsUptoCardSaid : Prop := Claim7.holds Tryd.pinned (.plain (OpenSpec.upto scaleCmdsSpec)) scaleCmdsUptoCard
end Rows
end Go.Proofs.YtiaigehjogpcaaaDoor
