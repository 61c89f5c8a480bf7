/-
  DERIVED. GIVEN WITH THE SEED: THE CARDS: each row of YtnlleogihhhfdaaDoorRows.lean that lists a variable, with what it lists TIED to the program's text (the seventh form; the later family's looks); each row that meets fmt, with fmt's text TOLD by the authors' own Lean function (tested against real Go, not proved from fmt's source: count such statements apart). THE CARD IS WHAT COUNTS. Prove the row's statement (the work); the ties are given (YtnlleogihhhfdaaDoorTie.lean); close each card by the builder's one call (the guide's Derived/Test/ToyasCard.lean, 'card_holds'). Laid BY PROGRAM, IN A SANDBOX (cutbox-door.mjs). By AI agents, Wed Nov 11 2026. No macro, syntax, notation, axiom, sorry.
-/
import Derived.Test.YtnlleogihhhfdaaDoorRows
import GoSem.ClaimSeven
namespace Go.Proofs.YtnlleogihhhfdaaDoor
namespace Rows

/-- THE TIED CARD OF 'refmeshlaw01.WordDivision'. -/
def wordDivisionCard : Claim7 := { stood := { row := wordDivisionRow, standIns := [], harness := (true, "0956a27be5190c90e71c5eba864d2b7da5fe59e337f7cb33c5d39f85f82e2202"), looks := false }, kinds := [], alts := [], laidByText := true, laidKinds := [.data, .data, .data], laidTests := true, laidLooks := .later }
def WordDivisionCardSaid : Prop := Claim7.holds Tryd.pinned (.plain (OpenSpec.ofChange wordDivisionSpec)) wordDivisionCard

/-- THE TIED CARD OF 'refmeshlaw01.WordOrder'. -/
def wordOrderCard : Claim7 := { stood := { row := wordOrderRow, standIns := [], harness := (true, "0956a27be5190c90e71c5eba864d2b7da5fe59e337f7cb33c5d39f85f82e2202"), looks := false }, kinds := [], alts := [], laidByText := true, laidKinds := [.data, .data, .data], laidTests := true, laidLooks := .later }
def WordOrderCardSaid : Prop := Claim7.holds Tryd.pinned (.plain (OpenSpec.ofChange wordOrderSpec)) wordOrderCard

/-- THE SECOND FORM's CARD OF 'refmeshlaw01.WordDivision'. -/
def wordDivisionUptoCard : Claim7 := { stood := { row := wordDivisionUptoRow, standIns := [], harness := (true, "0956a27be5190c90e71c5eba864d2b7da5fe59e337f7cb33c5d39f85f82e2202"), looks := false }, kinds := [], alts := [], laidByText := true, laidKinds := [.data, .data, .data], laidTests := true, laidLooks := .later }
def WordDivisionUptoCardSaid : Prop := Claim7.holds Tryd.pinned (.plain (OpenSpec.upto wordDivisionSpec)) wordDivisionUptoCard

/-- THE SECOND FORM's CARD OF 'refmeshlaw01.WordOrder'. -/
def wordOrderUptoCard : Claim7 := { stood := { row := wordOrderUptoRow, standIns := [], harness := (true, "0956a27be5190c90e71c5eba864d2b7da5fe59e337f7cb33c5d39f85f82e2202"), looks := false }, kinds := [], alts := [], laidByText := true, laidKinds := [.data, .data, .data], laidTests := true, laidLooks := .later }
def WordOrderUptoCardSaid : Prop := Claim7.holds Tryd.pinned (.plain (OpenSpec.upto wordOrderSpec)) wordOrderUptoCard
end Rows
end Go.Proofs.YtnlleogihhhfdaaDoor
