/-
  DERIVED. GIVEN WITH THE SEED: THE CARDS: each row of YtmbnlccafcfbeaaDoorRows.lean that lists a variable, with what it lists TIED to the program's text (the seventh form; the later family's looks); each row that meets fmt, with fmt's text TOLD by the authors' own Lean function (tested against real Go, not proved from fmt's source: count such statements apart). THE CARD IS WHAT COUNTS. Prove the row's statement (the work); the ties are given (YtmbnlccafcfbeaaDoorTie.lean); close each card by the builder's one call (the guide's Derived/Test/ToyasCard.lean, 'card_holds'). Laid BY PROGRAM, IN A SANDBOX (cutbox-door.mjs). By AI agents, Wed Nov 11 2026. No macro, syntax, notation, axiom, sorry.
-/
import Derived.Test.YtmbnlccafcfbeaaDoorRows
import GoSem.ClaimSeven
namespace Go.Proofs.YtmbnlccafcfbeaaDoor
namespace Rows

/-- THE TIED CARD OF 'refmeshlaw41.BytecodeEqual'. -/
def bytecodeEqualCard : Claim7 := { stood := { row := bytecodeEqualRow, standIns := [], harness := (true, "066bfe6ca66d339e5de088c844cb17f367602f86f82be5c0d5f5da60a077a7ce"), looks := false }, kinds := [], alts := [], laidByText := true, laidKinds := [.data, .data, .data, .data], laidTests := true, laidLooks := .later }
def BytecodeEqualCardSaid : Prop := Claim7.holds Tryd.pinned (.plain (OpenSpec.ofChange bytecodeEqualSpec)) bytecodeEqualCard

/-- THE TIED CARD OF 'refmeshlaw41.BytecodeDecodes'. -/
def bytecodeDecodesCard : Claim7 := { stood := { row := bytecodeDecodesRow, standIns := [], harness := (true, "066bfe6ca66d339e5de088c844cb17f367602f86f82be5c0d5f5da60a077a7ce"), looks := false }, kinds := [], alts := [], laidByText := true, laidKinds := [.data, .data, .data, .data], laidTests := true, laidLooks := .later }
def BytecodeDecodesCardSaid : Prop := Claim7.holds Tryd.pinned (.plain (OpenSpec.ofChange bytecodeDecodesSpec)) bytecodeDecodesCard

/-- THE TIED CARD OF 'refmeshlaw41.BytecodeEncodes'. -/
def bytecodeEncodesCard : Claim7 := { stood := { row := bytecodeEncodesRow, standIns := [], harness := (true, "066bfe6ca66d339e5de088c844cb17f367602f86f82be5c0d5f5da60a077a7ce"), looks := false }, kinds := [], alts := [], laidByText := true, laidKinds := [.data, .data, .data, .data], laidTests := true, laidLooks := .later }
def BytecodeEncodesCardSaid : Prop := Claim7.holds Tryd.pinned (.plain (OpenSpec.ofChange bytecodeEncodesSpec)) bytecodeEncodesCard

/-- THE SECOND FORM's CARD OF 'refmeshlaw41.BytecodeEqual'. -/
def bytecodeEqualUptoCard : Claim7 := { stood := { row := bytecodeEqualUptoRow, standIns := [], harness := (true, "066bfe6ca66d339e5de088c844cb17f367602f86f82be5c0d5f5da60a077a7ce"), looks := false }, kinds := [], alts := [], laidByText := true, laidKinds := [.data, .data, .data, .data], laidTests := true, laidLooks := .later }
def BytecodeEqualUptoCardSaid : Prop := Claim7.holds Tryd.pinned (.plain (OpenSpec.upto bytecodeEqualSpec)) bytecodeEqualUptoCard

/-- THE SECOND FORM's CARD OF 'refmeshlaw41.BytecodeDecodes'. -/
def bytecodeDecodesUptoCard : Claim7 := { stood := { row := bytecodeDecodesUptoRow, standIns := [], harness := (true, "066bfe6ca66d339e5de088c844cb17f367602f86f82be5c0d5f5da60a077a7ce"), looks := false }, kinds := [], alts := [], laidByText := true, laidKinds := [.data, .data, .data, .data], laidTests := true, laidLooks := .later }
def BytecodeDecodesUptoCardSaid : Prop := Claim7.holds Tryd.pinned (.plain (OpenSpec.upto bytecodeDecodesSpec)) bytecodeDecodesUptoCard

/-- THE SECOND FORM's CARD OF 'refmeshlaw41.BytecodeEncodes'. -/
def bytecodeEncodesUptoCard : Claim7 := { stood := { row := bytecodeEncodesUptoRow, standIns := [], harness := (true, "066bfe6ca66d339e5de088c844cb17f367602f86f82be5c0d5f5da60a077a7ce"), looks := false }, kinds := [], alts := [], laidByText := true, laidKinds := [.data, .data, .data, .data], laidTests := true, laidLooks := .later }
def BytecodeEncodesUptoCardSaid : Prop := Claim7.holds Tryd.pinned (.plain (OpenSpec.upto bytecodeEncodesSpec)) bytecodeEncodesUptoCard
end Rows
end Go.Proofs.YtmbnlccafcfbeaaDoor
