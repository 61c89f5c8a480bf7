/-
  DERIVED. GIVEN WITH THE SEED: THE CARDS: each row of YtdmbcgkfecmakaaDoorRows.lean that lists a variable, with what it lists TIED to the program's text (the seventh form; the later family's looks); each row that meets fmt, with fmt's text TOLD by the authors' own Lean function (tested against real Go, not proved from fmt's source: count such statements apart). THE CARD IS WHAT COUNTS. Prove the row's statement (the work); the ties are given (YtdmbcgkfecmakaaDoorTie.lean); close each card by the builder's one call (the guide's Derived/Test/ToyasCard.lean, 'card_holds'). Laid BY PROGRAM, IN A SANDBOX (cutbox-door.mjs). By AI agents, Wed Nov 11 2026. No macro, syntax, notation, axiom, sorry.
-/
import Derived.Test.YtdmbcgkfecmakaaDoorRows
import GoSem.ClaimSeven
namespace Go.Proofs.YtdmbcgkfecmakaaDoor
namespace Rows

/-- THE TIED CARD OF 'refmeshlaw43.VerifierDepths'. -/
def verifierDepthsCard : Claim7 := { stood := { row := verifierDepthsRow, standIns := [], harness := (true, "3182f320abe7c109e21051a7b952acc2ace3f0d500cfccfff0c6663a8fa14c19"), looks := false }, kinds := [], alts := [], laidByText := true, laidKinds := [.data, .data, .data, .data], laidTests := true, laidLooks := .later }
def VerifierDepthsCardSaid : Prop := Claim7.holds Tryd.pinned (.plain (OpenSpec.ofChange verifierDepthsSpec)) verifierDepthsCard

/-- THE TIED CARD OF 'refmeshlaw43.VerifierLocal'. -/
def verifierLocalCard : Claim7 := { stood := { row := verifierLocalRow, standIns := [], harness := (true, "3182f320abe7c109e21051a7b952acc2ace3f0d500cfccfff0c6663a8fa14c19"), looks := false }, kinds := [], alts := [], laidByText := true, laidKinds := [.data, .data, .data, .data], laidTests := true, laidLooks := .later }
def VerifierLocalCardSaid : Prop := Claim7.holds Tryd.pinned (.plain (OpenSpec.ofChange verifierLocalSpec)) verifierLocalCard

/-- THE TIED CARD OF 'refmeshlaw43.VerifierReaches'. -/
def verifierReachesCard : Claim7 := { stood := { row := verifierReachesRow, standIns := [], harness := (true, "3182f320abe7c109e21051a7b952acc2ace3f0d500cfccfff0c6663a8fa14c19"), looks := false }, kinds := [], alts := [], laidByText := true, laidKinds := [.data, .data, .data, .data], laidTests := true, laidLooks := .later }
def VerifierReachesCardSaid : Prop := Claim7.holds Tryd.pinned (.plain (OpenSpec.ofChange verifierReachesSpec)) verifierReachesCard

/-- THE TIED CARD OF 'refmeshlaw41.BytecodeNames'. -/
def bytecodeNamesCard : Claim7 := { stood := { row := bytecodeNamesRow, standIns := [], harness := (true, "3182f320abe7c109e21051a7b952acc2ace3f0d500cfccfff0c6663a8fa14c19"), looks := false }, kinds := [], alts := [], laidByText := true, laidKinds := [.data, .data, .data, .data], laidTests := true, laidLooks := .later }
def BytecodeNamesCardSaid : Prop := Claim7.holds Tryd.pinned (.plain (OpenSpec.ofChange bytecodeNamesSpec)) bytecodeNamesCard

/-- THE TIED CARD OF 'refmeshlaw41.BytecodeTexts'. -/
def bytecodeTextsCard : Claim7 := { stood := { row := bytecodeTextsRow, standIns := [], harness := (true, "3182f320abe7c109e21051a7b952acc2ace3f0d500cfccfff0c6663a8fa14c19"), looks := false }, kinds := [], alts := [], laidByText := true, laidKinds := [.data, .data, .data, .data], laidTests := true, laidLooks := .later }
def BytecodeTextsCardSaid : Prop := Claim7.holds Tryd.pinned (.plain (OpenSpec.ofChange bytecodeTextsSpec)) bytecodeTextsCard

/-- THE TIED CARD OF 'refmeshlaw41.BytecodeInstructions'. -/
def bytecodeInstructionsCard : Claim7 := { stood := { row := bytecodeInstructionsRow, standIns := [], harness := (true, "3182f320abe7c109e21051a7b952acc2ace3f0d500cfccfff0c6663a8fa14c19"), looks := false }, kinds := [], alts := [], laidByText := true, laidKinds := [.data, .data, .data, .data], laidTests := true, laidLooks := .later }
def BytecodeInstructionsCardSaid : Prop := Claim7.holds Tryd.pinned (.plain (OpenSpec.ofChange bytecodeInstructionsSpec)) bytecodeInstructionsCard

/-- THE TIED CARD OF 'refmeshlaw41.BytecodeBounds'. -/
def bytecodeBoundsCard : Claim7 := { stood := { row := bytecodeBoundsRow, standIns := [], harness := (true, "3182f320abe7c109e21051a7b952acc2ace3f0d500cfccfff0c6663a8fa14c19"), looks := false }, kinds := [], alts := [], laidByText := true, laidKinds := [.data, .data, .data, .data], laidTests := true, laidLooks := .later }
def BytecodeBoundsCardSaid : Prop := Claim7.holds Tryd.pinned (.plain (OpenSpec.ofChange bytecodeBoundsSpec)) bytecodeBoundsCard

/-- THE TIED CARD OF 'refmeshlaw43.VerifierChecks'. -/
def verifierChecksCard : Claim7 := { stood := { row := verifierChecksRow, standIns := [], harness := (true, "3182f320abe7c109e21051a7b952acc2ace3f0d500cfccfff0c6663a8fa14c19"), looks := false }, kinds := [], alts := [], laidByText := true, laidKinds := [.data, .data, .data, .data], laidTests := true, laidLooks := .later }
def VerifierChecksCardSaid : Prop := Claim7.holds Tryd.pinned (.plain (OpenSpec.ofChange verifierChecksSpec)) verifierChecksCard

/-- THE TIED CARD OF 'refmeshlaw43.VerifierSafe'. -/
def verifierSafeCard : Claim7 := { stood := { row := verifierSafeRow, standIns := [], harness := (true, "3182f320abe7c109e21051a7b952acc2ace3f0d500cfccfff0c6663a8fa14c19"), looks := false }, kinds := [], alts := [], laidByText := true, laidKinds := [.data, .data, .data, .data], laidTests := true, laidLooks := .later }
def VerifierSafeCardSaid : Prop := Claim7.holds Tryd.pinned (.plain (OpenSpec.ofChange verifierSafeSpec)) verifierSafeCard

/-- THE TIED CARD OF 'refmeshlaw43.VerifierGrows'. -/
def verifierGrowsCard : Claim7 := { stood := { row := verifierGrowsRow, standIns := [], harness := (true, "3182f320abe7c109e21051a7b952acc2ace3f0d500cfccfff0c6663a8fa14c19"), looks := false }, kinds := [], alts := [], laidByText := true, laidKinds := [.data, .data, .data, .data], laidTests := true, laidLooks := .later }
def VerifierGrowsCardSaid : Prop := Claim7.holds Tryd.pinned (.plain (OpenSpec.ofChange verifierGrowsSpec)) verifierGrowsCard

/-- THE TIED CARD OF 'refmeshlaw43.VerifierLimits'. -/
def verifierLimitsCard : Claim7 := { stood := { row := verifierLimitsRow, standIns := [], harness := (true, "3182f320abe7c109e21051a7b952acc2ace3f0d500cfccfff0c6663a8fa14c19"), looks := false }, kinds := [], alts := [], laidByText := true, laidKinds := [.data, .data, .data, .data], laidTests := true, laidLooks := .later }
def VerifierLimitsCardSaid : Prop := Claim7.holds Tryd.pinned (.plain (OpenSpec.ofChange verifierLimitsSpec)) verifierLimitsCard

/-- THE TIED CARD OF 'refmeshlaw41.BytecodeEqual'. -/
def bytecodeEqualCard : Claim7 := { stood := { row := bytecodeEqualRow, standIns := [], harness := (true, "3182f320abe7c109e21051a7b952acc2ace3f0d500cfccfff0c6663a8fa14c19"), looks := false }, kinds := [], alts := [], laidByText := true, laidKinds := [.data, .data, .data, .data], laidTests := true, laidLooks := .later }
def BytecodeEqualCardSaid : Prop := Claim7.holds Tryd.pinned (.plain (OpenSpec.ofChange bytecodeEqualSpec)) bytecodeEqualCard

/-- THE SECOND FORM's CARD OF 'refmeshlaw43.VerifierDepths'. -/
def verifierDepthsUptoCard : Claim7 := { stood := { row := verifierDepthsUptoRow, standIns := [], harness := (true, "3182f320abe7c109e21051a7b952acc2ace3f0d500cfccfff0c6663a8fa14c19"), looks := false }, kinds := [], alts := [], laidByText := true, laidKinds := [.data, .data, .data, .data], laidTests := true, laidLooks := .later }
def VerifierDepthsUptoCardSaid : Prop := Claim7.holds Tryd.pinned (.plain (OpenSpec.upto verifierDepthsSpec)) verifierDepthsUptoCard

/-- THE SECOND FORM's CARD OF 'refmeshlaw43.VerifierLocal'. -/
def verifierLocalUptoCard : Claim7 := { stood := { row := verifierLocalUptoRow, standIns := [], harness := (true, "3182f320abe7c109e21051a7b952acc2ace3f0d500cfccfff0c6663a8fa14c19"), looks := false }, kinds := [], alts := [], laidByText := true, laidKinds := [.data, .data, .data, .data], laidTests := true, laidLooks := .later }
def VerifierLocalUptoCardSaid : Prop := Claim7.holds Tryd.pinned (.plain (OpenSpec.upto verifierLocalSpec)) verifierLocalUptoCard

/-- THE SECOND FORM's CARD OF 'refmeshlaw43.VerifierReaches'. -/
def verifierReachesUptoCard : Claim7 := { stood := { row := verifierReachesUptoRow, standIns := [], harness := (true, "3182f320abe7c109e21051a7b952acc2ace3f0d500cfccfff0c6663a8fa14c19"), looks := false }, kinds := [], alts := [], laidByText := true, laidKinds := [.data, .data, .data, .data], laidTests := true, laidLooks := .later }
def VerifierReachesUptoCardSaid : Prop := Claim7.holds Tryd.pinned (.plain (OpenSpec.upto verifierReachesSpec)) verifierReachesUptoCard

/-- THE SECOND FORM's CARD OF 'refmeshlaw41.BytecodeNames'. -/
def bytecodeNamesUptoCard : Claim7 := { stood := { row := bytecodeNamesUptoRow, standIns := [], harness := (true, "3182f320abe7c109e21051a7b952acc2ace3f0d500cfccfff0c6663a8fa14c19"), looks := false }, kinds := [], alts := [], laidByText := true, laidKinds := [.data, .data, .data, .data], laidTests := true, laidLooks := .later }
def BytecodeNamesUptoCardSaid : Prop := Claim7.holds Tryd.pinned (.plain (OpenSpec.upto bytecodeNamesSpec)) bytecodeNamesUptoCard

/-- THE SECOND FORM's CARD OF 'refmeshlaw41.BytecodeTexts'. -/
def bytecodeTextsUptoCard : Claim7 := { stood := { row := bytecodeTextsUptoRow, standIns := [], harness := (true, "3182f320abe7c109e21051a7b952acc2ace3f0d500cfccfff0c6663a8fa14c19"), looks := false }, kinds := [], alts := [], laidByText := true, laidKinds := [.data, .data, .data, .data], laidTests := true, laidLooks := .later }
def BytecodeTextsUptoCardSaid : Prop := Claim7.holds Tryd.pinned (.plain (OpenSpec.upto bytecodeTextsSpec)) bytecodeTextsUptoCard

/-- THE SECOND FORM's CARD OF 'refmeshlaw41.BytecodeInstructions'. -/
def bytecodeInstructionsUptoCard : Claim7 := { stood := { row := bytecodeInstructionsUptoRow, standIns := [], harness := (true, "3182f320abe7c109e21051a7b952acc2ace3f0d500cfccfff0c6663a8fa14c19"), looks := false }, kinds := [], alts := [], laidByText := true, laidKinds := [.data, .data, .data, .data], laidTests := true, laidLooks := .later }
def BytecodeInstructionsUptoCardSaid : Prop := Claim7.holds Tryd.pinned (.plain (OpenSpec.upto bytecodeInstructionsSpec)) bytecodeInstructionsUptoCard

/-- THE SECOND FORM's CARD OF 'refmeshlaw41.BytecodeBounds'. -/
def bytecodeBoundsUptoCard : Claim7 := { stood := { row := bytecodeBoundsUptoRow, standIns := [], harness := (true, "3182f320abe7c109e21051a7b952acc2ace3f0d500cfccfff0c6663a8fa14c19"), looks := false }, kinds := [], alts := [], laidByText := true, laidKinds := [.data, .data, .data, .data], laidTests := true, laidLooks := .later }
def BytecodeBoundsUptoCardSaid : Prop := Claim7.holds Tryd.pinned (.plain (OpenSpec.upto bytecodeBoundsSpec)) bytecodeBoundsUptoCard

/-- THE SECOND FORM's CARD OF 'refmeshlaw43.VerifierChecks'. -/
def verifierChecksUptoCard : Claim7 := { stood := { row := verifierChecksUptoRow, standIns := [], harness := (true, "3182f320abe7c109e21051a7b952acc2ace3f0d500cfccfff0c6663a8fa14c19"), looks := false }, kinds := [], alts := [], laidByText := true, laidKinds := [.data, .data, .data, .data], laidTests := true, laidLooks := .later }
def VerifierChecksUptoCardSaid : Prop := Claim7.holds Tryd.pinned (.plain (OpenSpec.upto verifierChecksSpec)) verifierChecksUptoCard

/-- THE SECOND FORM's CARD OF 'refmeshlaw43.VerifierSafe'. -/
def verifierSafeUptoCard : Claim7 := { stood := { row := verifierSafeUptoRow, standIns := [], harness := (true, "3182f320abe7c109e21051a7b952acc2ace3f0d500cfccfff0c6663a8fa14c19"), looks := false }, kinds := [], alts := [], laidByText := true, laidKinds := [.data, .data, .data, .data], laidTests := true, laidLooks := .later }
def VerifierSafeUptoCardSaid : Prop := Claim7.holds Tryd.pinned (.plain (OpenSpec.upto verifierSafeSpec)) verifierSafeUptoCard

/-- THE SECOND FORM's CARD OF 'refmeshlaw43.VerifierGrows'. -/
def verifierGrowsUptoCard : Claim7 := { stood := { row := verifierGrowsUptoRow, standIns := [], harness := (true, "3182f320abe7c109e21051a7b952acc2ace3f0d500cfccfff0c6663a8fa14c19"), looks := false }, kinds := [], alts := [], laidByText := true, laidKinds := [.data, .data, .data, .data], laidTests := true, laidLooks := .later }
def VerifierGrowsUptoCardSaid : Prop := Claim7.holds Tryd.pinned (.plain (OpenSpec.upto verifierGrowsSpec)) verifierGrowsUptoCard

/-- THE SECOND FORM's CARD OF 'refmeshlaw43.VerifierLimits'. -/
def verifierLimitsUptoCard : Claim7 := { stood := { row := verifierLimitsUptoRow, standIns := [], harness := (true, "3182f320abe7c109e21051a7b952acc2ace3f0d500cfccfff0c6663a8fa14c19"), looks := false }, kinds := [], alts := [], laidByText := true, laidKinds := [.data, .data, .data, .data], laidTests := true, laidLooks := .later }
def VerifierLimitsUptoCardSaid : Prop := Claim7.holds Tryd.pinned (.plain (OpenSpec.upto verifierLimitsSpec)) verifierLimitsUptoCard

/-- THE SECOND FORM's CARD OF 'refmeshlaw41.BytecodeEqual'. -/
def bytecodeEqualUptoCard : Claim7 := { stood := { row := bytecodeEqualUptoRow, standIns := [], harness := (true, "3182f320abe7c109e21051a7b952acc2ace3f0d500cfccfff0c6663a8fa14c19"), looks := false }, kinds := [], alts := [], laidByText := true, laidKinds := [.data, .data, .data, .data], laidTests := true, laidLooks := .later }
def BytecodeEqualUptoCardSaid : Prop := Claim7.holds Tryd.pinned (.plain (OpenSpec.upto bytecodeEqualSpec)) bytecodeEqualUptoCard
end Rows
end Go.Proofs.YtdmbcgkfecmakaaDoor
