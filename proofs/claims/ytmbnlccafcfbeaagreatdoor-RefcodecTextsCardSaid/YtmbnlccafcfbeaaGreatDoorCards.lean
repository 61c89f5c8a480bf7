/-
  DERIVED. GIVEN WITH THE SEED: THE CARDS: each row of YtmbnlccafcfbeaaGreatDoorRows.lean that lists a variable, with what it lists TIED to the program's text (the seventh form; the later family's looks); each row that meets fmt, with fmt's text TOLD by the authors' own Lean function (tested against real Go, not proved from fmt's source: count such statements apart). THE CARD IS WHAT COUNTS. Prove the row's statement (the work); the ties are given (YtmbnlccafcfbeaaGreatDoorTie.lean); close each card by the builder's one call (the guide's Derived/Test/ToyasCard.lean, 'card_holds'). Laid BY PROGRAM, IN A SANDBOX (cutbox-door.mjs). By AI agents, Wed Nov 11 2026. No macro, syntax, notation, axiom, sorry.
-/
import Derived.Test.YtmbnlccafcfbeaaGreatDoorRows
import GoSem.ClaimSeven
namespace Go.Proofs.YtmbnlccafcfbeaaGreatDoor
namespace Rows

/-- THE TIED CARD OF 'refmeshlaw27.RefcodecMessages'. -/
def refcodecMessagesCard : Claim7 := { stood := { row := refcodecMessagesRow, standIns := [], harness := (true, "51c844e15a9946873288dcd10d8712551511f10c904560ea5d64e154bc7f4c1e"), looks := false }, kinds := [], alts := [], laidByText := true, laidKinds := [.data, .data, .data], laidTests := true, laidLooks := .later }
def RefcodecMessagesCardSaid : Prop := Claim7.holds Tryz.pinned (.plain (OpenSpec.ofChange refcodecMessagesSpec)) refcodecMessagesCard

/-- THE TIED CARD OF 'refmeshlaw27.RefcodecBytes'. -/
def refcodecBytesCard : Claim7 := { stood := { row := refcodecBytesRow, standIns := [], harness := (true, "51c844e15a9946873288dcd10d8712551511f10c904560ea5d64e154bc7f4c1e"), looks := false }, kinds := [], alts := [], laidByText := true, laidKinds := [.data, .data, .data], laidTests := true, laidLooks := .later }
def RefcodecBytesCardSaid : Prop := Claim7.holds Tryz.pinned (.plain (OpenSpec.ofChange refcodecBytesSpec)) refcodecBytesCard

/-- THE TIED CARD OF 'refmeshlaw27.RefcodecDamage'. -/
def refcodecDamageCard : Claim7 := { stood := { row := refcodecDamageRow, standIns := [], harness := (true, "51c844e15a9946873288dcd10d8712551511f10c904560ea5d64e154bc7f4c1e"), looks := false }, kinds := [], alts := [], laidByText := true, laidKinds := [.data, .data, .data], laidTests := true, laidLooks := .later }
def RefcodecDamageCardSaid : Prop := Claim7.holds Tryz.pinned (.plain (OpenSpec.ofChange refcodecDamageSpec)) refcodecDamageCard

/-- THE TIED CARD OF 'refmeshlaw27.RefcodecTexts'. -/
def refcodecTextsCard : Claim7 := { stood := { row := refcodecTextsRow, standIns := [], harness := (true, "51c844e15a9946873288dcd10d8712551511f10c904560ea5d64e154bc7f4c1e"), looks := false }, kinds := [], alts := [], laidByText := true, laidKinds := [.data, .data, .data], laidTests := true, laidLooks := .later }
def RefcodecTextsCardSaid : Prop := Claim7.holds Tryz.pinned (.plain (OpenSpec.ofChange refcodecTextsSpec)) refcodecTextsCard

/-- THE TIED CARD OF 'refmeshlaw27.RefcodecRefs'. -/
def refcodecRefsCard : Claim7 := { stood := { row := refcodecRefsRow, standIns := [], harness := (true, "51c844e15a9946873288dcd10d8712551511f10c904560ea5d64e154bc7f4c1e"), looks := false }, kinds := [], alts := [], laidByText := true, laidKinds := [.data, .data, .data], laidTests := true, laidLooks := .later }
def RefcodecRefsCardSaid : Prop := Claim7.holds Tryz.pinned (.plain (OpenSpec.ofChange refcodecRefsSpec)) refcodecRefsCard

/-- THE TIED CARD OF 'refmeshlaw27.RefcodecRefBytes'. -/
def refcodecRefBytesCard : Claim7 := { stood := { row := refcodecRefBytesRow, standIns := [], harness := (true, "51c844e15a9946873288dcd10d8712551511f10c904560ea5d64e154bc7f4c1e"), looks := false }, kinds := [], alts := [], laidByText := true, laidKinds := [.data, .data, .data], laidTests := true, laidLooks := .later }
def RefcodecRefBytesCardSaid : Prop := Claim7.holds Tryz.pinned (.plain (OpenSpec.ofChange refcodecRefBytesSpec)) refcodecRefBytesCard

/-- THE TIED CARD OF 'refmeshlaw27.RefcodecLists'. -/
def refcodecListsCard : Claim7 := { stood := { row := refcodecListsRow, standIns := [], harness := (true, "51c844e15a9946873288dcd10d8712551511f10c904560ea5d64e154bc7f4c1e"), looks := false }, kinds := [], alts := [], laidByText := true, laidKinds := [.data, .data, .data], laidTests := true, laidLooks := .later }
def RefcodecListsCardSaid : Prop := Claim7.holds Tryz.pinned (.plain (OpenSpec.ofChange refcodecListsSpec)) refcodecListsCard

/-- THE SECOND FORM's CARD OF 'refmeshlaw27.RefcodecMessages'. -/
def refcodecMessagesUptoCard : Claim7 := { stood := { row := refcodecMessagesUptoRow, standIns := [], harness := (true, "51c844e15a9946873288dcd10d8712551511f10c904560ea5d64e154bc7f4c1e"), looks := false }, kinds := [], alts := [], laidByText := true, laidKinds := [.data, .data, .data], laidTests := true, laidLooks := .later }
def RefcodecMessagesUptoCardSaid : Prop := Claim7.holds Tryz.pinned (.plain (OpenSpec.upto refcodecMessagesSpec)) refcodecMessagesUptoCard

/-- THE SECOND FORM's CARD OF 'refmeshlaw27.RefcodecBytes'. -/
def refcodecBytesUptoCard : Claim7 := { stood := { row := refcodecBytesUptoRow, standIns := [], harness := (true, "51c844e15a9946873288dcd10d8712551511f10c904560ea5d64e154bc7f4c1e"), looks := false }, kinds := [], alts := [], laidByText := true, laidKinds := [.data, .data, .data], laidTests := true, laidLooks := .later }
def RefcodecBytesUptoCardSaid : Prop := Claim7.holds Tryz.pinned (.plain (OpenSpec.upto refcodecBytesSpec)) refcodecBytesUptoCard

/-- THE SECOND FORM's CARD OF 'refmeshlaw27.RefcodecDamage'. -/
def refcodecDamageUptoCard : Claim7 := { stood := { row := refcodecDamageUptoRow, standIns := [], harness := (true, "51c844e15a9946873288dcd10d8712551511f10c904560ea5d64e154bc7f4c1e"), looks := false }, kinds := [], alts := [], laidByText := true, laidKinds := [.data, .data, .data], laidTests := true, laidLooks := .later }
def RefcodecDamageUptoCardSaid : Prop := Claim7.holds Tryz.pinned (.plain (OpenSpec.upto refcodecDamageSpec)) refcodecDamageUptoCard

/-- THE SECOND FORM's CARD OF 'refmeshlaw27.RefcodecTexts'. -/
def refcodecTextsUptoCard : Claim7 := { stood := { row := refcodecTextsUptoRow, standIns := [], harness := (true, "51c844e15a9946873288dcd10d8712551511f10c904560ea5d64e154bc7f4c1e"), looks := false }, kinds := [], alts := [], laidByText := true, laidKinds := [.data, .data, .data], laidTests := true, laidLooks := .later }
def RefcodecTextsUptoCardSaid : Prop := Claim7.holds Tryz.pinned (.plain (OpenSpec.upto refcodecTextsSpec)) refcodecTextsUptoCard

/-- THE SECOND FORM's CARD OF 'refmeshlaw27.RefcodecRefs'. -/
def refcodecRefsUptoCard : Claim7 := { stood := { row := refcodecRefsUptoRow, standIns := [], harness := (true, "51c844e15a9946873288dcd10d8712551511f10c904560ea5d64e154bc7f4c1e"), looks := false }, kinds := [], alts := [], laidByText := true, laidKinds := [.data, .data, .data], laidTests := true, laidLooks := .later }
def RefcodecRefsUptoCardSaid : Prop := Claim7.holds Tryz.pinned (.plain (OpenSpec.upto refcodecRefsSpec)) refcodecRefsUptoCard

/-- THE SECOND FORM's CARD OF 'refmeshlaw27.RefcodecRefBytes'. -/
def refcodecRefBytesUptoCard : Claim7 := { stood := { row := refcodecRefBytesUptoRow, standIns := [], harness := (true, "51c844e15a9946873288dcd10d8712551511f10c904560ea5d64e154bc7f4c1e"), looks := false }, kinds := [], alts := [], laidByText := true, laidKinds := [.data, .data, .data], laidTests := true, laidLooks := .later }
def RefcodecRefBytesUptoCardSaid : Prop := Claim7.holds Tryz.pinned (.plain (OpenSpec.upto refcodecRefBytesSpec)) refcodecRefBytesUptoCard

/-- THE SECOND FORM's CARD OF 'refmeshlaw27.RefcodecLists'. -/
def refcodecListsUptoCard : Claim7 := { stood := { row := refcodecListsUptoRow, standIns := [], harness := (true, "51c844e15a9946873288dcd10d8712551511f10c904560ea5d64e154bc7f4c1e"), looks := false }, kinds := [], alts := [], laidByText := true, laidKinds := [.data, .data, .data], laidTests := true, laidLooks := .later }
def RefcodecListsUptoCardSaid : Prop := Claim7.holds Tryz.pinned (.plain (OpenSpec.upto refcodecListsSpec)) refcodecListsUptoCard
end Rows
end Go.Proofs.YtmbnlccafcfbeaaGreatDoor
