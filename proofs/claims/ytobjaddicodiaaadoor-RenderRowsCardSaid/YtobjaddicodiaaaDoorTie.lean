/-
  DERIVED. GIVEN WITH THE SEED: THE PROGRAM's TIES (one call each: nine closed facts by the kernel) AND EACH ROW's TIE, after the 31st guide's Derived/Test/Toyas{Tie, Card}.lean. No idea stands in it: it is a product of the set-up. Laid BY PROGRAM, IN A SANDBOX (cutbox-door.mjs). By AI agents, Wed Nov 11 2026. No macro, syntax, notation, axiom, sorry.
-/
import Derived.Test.YtobjaddicodiaaaDoorRows
import Derived.LaidByTextLater
import Derived.SevenTiedAt
import Derived.LaidSub
import Derived.LaidOnce
namespace Go.Proofs.YtobjaddicodiaaaDoor
open Go
set_option maxRecDepth 100000
theorem seatTie1 : Tryd.prog.laidByTextLater [("glyphic/api.ErrText", Rows.laid_glyphic_api_ErrText), ("glyphic/api.ErrName", Rows.laid_glyphic_api_ErrName), ("glyphic/api.ErrTwice", Rows.laid_glyphic_api_ErrTwice), ("glyphic/api.ErrPath", Rows.laid_glyphic_api_ErrPath), ("glyphic/api.ErrRange", Rows.laid_glyphic_api_ErrRange), ("glyphic/api.ErrLimit", Rows.laid_glyphic_api_ErrLimit), ("glyphic/api.ErrShort", Rows.laid_glyphic_api_ErrShort), ("glyphic/api.ErrMagic", Rows.laid_glyphic_api_ErrMagic), ("glyphic/api.ErrVarint", Rows.laid_glyphic_api_ErrVarint), ("glyphic/api.ErrCanon", Rows.laid_glyphic_api_ErrCanon), ("glyphic/api.ErrTrail", Rows.laid_glyphic_api_ErrTrail), ("glyphic/api.ErrWidth", Rows.laid_glyphic_api_ErrWidth), ("glyphic/api.ErrBudget", Rows.laid_glyphic_api_ErrBudget)] [.sentinel, .sentinel, .sentinel, .sentinel, .sentinel, .sentinel, .sentinel, .sentinel, .sentinel, .sentinel, .sentinel, .sentinel, .sentinel] true :=
  Program.laidByTextLater_by_one 256 8 2 (by kernel_rfl) (by kernel_rfl) (by kernel_rfl) (by kernel_rfl) (by kernel_rfl) (by kernel_rfl) (fun _ _ => by kernel_rfl)
theorem noOwnUnsafe : Tryd.pinned.checked.prog.headLifts.contains "ownunsafe" = false := by kernel_rfl
theorem tie : Tryd.prog.laidByTextLater [("glyphic/api.ErrWidth", Rows.laid_glyphic_api_ErrWidth), ("glyphic/api.ErrBudget", Rows.laid_glyphic_api_ErrBudget)] [.sentinel, .sentinel] true :=
  Program.laidByTextLater.sub seatTie1 ["glyphic/api.ErrWidth", "glyphic/api.ErrBudget"] (by kernel_rfl) (by kernel_rfl)
theorem renderWhole_row_tie : Rows.renderWholeRow.laidByTextAt .later Tryd.pinned [.sentinel, .sentinel] true :=
  OpenClaim.laidByTextAt_later rfl rfl tie noOwnUnsafe
theorem tie2 : Tryd.prog.laidByTextLater [("glyphic/api.ErrText", Rows.laid_glyphic_api_ErrText), ("glyphic/api.ErrName", Rows.laid_glyphic_api_ErrName), ("glyphic/api.ErrTwice", Rows.laid_glyphic_api_ErrTwice), ("glyphic/api.ErrPath", Rows.laid_glyphic_api_ErrPath), ("glyphic/api.ErrRange", Rows.laid_glyphic_api_ErrRange), ("glyphic/api.ErrLimit", Rows.laid_glyphic_api_ErrLimit), ("glyphic/api.ErrShort", Rows.laid_glyphic_api_ErrShort), ("glyphic/api.ErrMagic", Rows.laid_glyphic_api_ErrMagic), ("glyphic/api.ErrVarint", Rows.laid_glyphic_api_ErrVarint), ("glyphic/api.ErrCanon", Rows.laid_glyphic_api_ErrCanon), ("glyphic/api.ErrTrail", Rows.laid_glyphic_api_ErrTrail), ("glyphic/api.ErrWidth", Rows.laid_glyphic_api_ErrWidth), ("glyphic/api.ErrBudget", Rows.laid_glyphic_api_ErrBudget)] [.sentinel, .sentinel, .sentinel, .sentinel, .sentinel, .sentinel, .sentinel, .sentinel, .sentinel, .sentinel, .sentinel, .sentinel, .sentinel] true :=
  Program.laidByTextLater.sub seatTie1 ["glyphic/api.ErrText", "glyphic/api.ErrName", "glyphic/api.ErrTwice", "glyphic/api.ErrPath", "glyphic/api.ErrRange", "glyphic/api.ErrLimit", "glyphic/api.ErrShort", "glyphic/api.ErrMagic", "glyphic/api.ErrVarint", "glyphic/api.ErrCanon", "glyphic/api.ErrTrail", "glyphic/api.ErrWidth", "glyphic/api.ErrBudget"] (by kernel_rfl) (by kernel_rfl)
theorem renderOver_row_tie : Rows.renderOverRow.laidByTextAt .later Tryd.pinned [.sentinel, .sentinel, .sentinel, .sentinel, .sentinel, .sentinel, .sentinel, .sentinel, .sentinel, .sentinel, .sentinel, .sentinel, .sentinel] true :=
  OpenClaim.laidByTextAt_later rfl rfl tie2 noOwnUnsafe
theorem renderRows_row_tie : Rows.renderRowsRow.laidByTextAt .later Tryd.pinned [.sentinel, .sentinel, .sentinel, .sentinel, .sentinel, .sentinel, .sentinel, .sentinel, .sentinel, .sentinel, .sentinel, .sentinel, .sentinel] true :=
  OpenClaim.laidByTextAt_later rfl rfl tie2 noOwnUnsafe
theorem renderWholeUpto_row_tie : Rows.renderWholeUptoRow.laidByTextAt .later Tryd.pinned [.sentinel, .sentinel] true :=
  OpenClaim.laidByTextAt_later rfl rfl tie noOwnUnsafe
theorem renderOverUpto_row_tie : Rows.renderOverUptoRow.laidByTextAt .later Tryd.pinned [.sentinel, .sentinel, .sentinel, .sentinel, .sentinel, .sentinel, .sentinel, .sentinel, .sentinel, .sentinel, .sentinel, .sentinel, .sentinel] true :=
  OpenClaim.laidByTextAt_later rfl rfl tie2 noOwnUnsafe
theorem renderRowsUpto_row_tie : Rows.renderRowsUptoRow.laidByTextAt .later Tryd.pinned [.sentinel, .sentinel, .sentinel, .sentinel, .sentinel, .sentinel, .sentinel, .sentinel, .sentinel, .sentinel, .sentinel, .sentinel, .sentinel] true :=
  OpenClaim.laidByTextAt_later rfl rfl tie2 noOwnUnsafe
end Go.Proofs.YtobjaddicodiaaaDoor
