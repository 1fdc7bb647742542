/-
  DERIVED. GIVEN WITH THE SEED: THE CARDS: each row of YtmjnkaabooockaaGreatDoorRows.lean that lists a variable, with what it lists TIED to the program's text (the seventh form; the later family's looks); each row that meets fmt, with fmt's text TOLD by the authors' own Lean function (tested against real Go, not proved from fmt's source: count such statements apart). THE CARD IS WHAT COUNTS. Prove the row's statement (the work); the ties are given (YtmjnkaabooockaaGreatDoorTie.lean); close each card by the builder's one call (the guide's Derived/Test/ToyasCard.lean, 'card_holds'). Laid BY PROGRAM, IN A SANDBOX (cutbox-door.mjs). By AI agents, Wed Nov 11 2026. No macro, syntax, notation, axiom, sorry.
-/
import Derived.Test.YtmjnkaabooockaaGreatDoorRows
import GoSem.ClaimSeven
namespace Go.Proofs.YtmjnkaabooockaaGreatDoor
namespace Rows

/-- THE TIED CARD OF 'syllabarylaw27.VaultRestores'. -/
def vaultRestoresCard : Claim7 := { stood := { row := vaultRestoresRow, standIns := [], harness := (true, "426d57a87c791b27104f04666428ef46072b02b99fc935c38a2ca183da242164"), looks := false }, kinds := [], alts := [], laidByText := true, laidKinds := [.data, .data, .data], laidTests := true, laidLooks := .later }
def VaultRestoresCardSaid : Prop := Claim7.holds Tryz.pinned (.plain (OpenSpec.ofChange vaultRestoresSpec)) vaultRestoresCard

/-- THE TIED CARD OF 'syllabarylaw27.VaultForgets'. -/
def vaultForgetsCard : Claim7 := { stood := { row := vaultForgetsRow, standIns := [], harness := (true, "426d57a87c791b27104f04666428ef46072b02b99fc935c38a2ca183da242164"), looks := false }, kinds := [], alts := [], laidByText := true, laidKinds := [.data, .data, .data], laidTests := true, laidLooks := .later }
def VaultForgetsCardSaid : Prop := Claim7.holds Tryz.pinned (.plain (OpenSpec.ofChange vaultForgetsSpec)) vaultForgetsCard

/-- THE TIED CARD OF 'syllabarylaw27.VaultLines'. -/
def vaultLinesCard : Claim7 := { stood := { row := vaultLinesRow, standIns := [], harness := (true, "426d57a87c791b27104f04666428ef46072b02b99fc935c38a2ca183da242164"), looks := false }, kinds := [], alts := [], laidByText := true, laidKinds := [.data, .data, .data], laidTests := true, laidLooks := .later }
def VaultLinesCardSaid : Prop := Claim7.holds Tryz.pinned (.plain (OpenSpec.ofChange vaultLinesSpec)) vaultLinesCard

/-- THE TIED CARD OF 'syllabarylaw27.VaultLists'. -/
def vaultListsCard : Claim7 := { stood := { row := vaultListsRow, standIns := [], harness := (true, "426d57a87c791b27104f04666428ef46072b02b99fc935c38a2ca183da242164"), looks := false }, kinds := [], alts := [], laidByText := true, laidKinds := [.data, .data, .data], laidTests := true, laidLooks := .later }
def VaultListsCardSaid : Prop := Claim7.holds Tryz.pinned (.plain (OpenSpec.ofChange vaultListsSpec)) vaultListsCard

/-- THE TIED CARD OF 'syllabarylaw27.VaultParts'. -/
def vaultPartsCard : Claim7 := { stood := { row := vaultPartsRow, standIns := [], harness := (true, "426d57a87c791b27104f04666428ef46072b02b99fc935c38a2ca183da242164"), looks := false }, kinds := [], alts := [], laidByText := true, laidKinds := [.data, .data, .data], laidTests := true, laidLooks := .later }
def VaultPartsCardSaid : Prop := Claim7.holds Tryz.pinned (.plain (OpenSpec.ofChange vaultPartsSpec)) vaultPartsCard

/-- THE SECOND FORM's CARD OF 'syllabarylaw27.VaultRestores'. -/
def vaultRestoresUptoCard : Claim7 := { stood := { row := vaultRestoresUptoRow, standIns := [], harness := (true, "426d57a87c791b27104f04666428ef46072b02b99fc935c38a2ca183da242164"), looks := false }, kinds := [], alts := [], laidByText := true, laidKinds := [.data, .data, .data], laidTests := true, laidLooks := .later }
def VaultRestoresUptoCardSaid : Prop := Claim7.holds Tryz.pinned (.plain (OpenSpec.upto vaultRestoresSpec)) vaultRestoresUptoCard

/-- THE SECOND FORM's CARD OF 'syllabarylaw27.VaultForgets'. -/
def vaultForgetsUptoCard : Claim7 := { stood := { row := vaultForgetsUptoRow, standIns := [], harness := (true, "426d57a87c791b27104f04666428ef46072b02b99fc935c38a2ca183da242164"), looks := false }, kinds := [], alts := [], laidByText := true, laidKinds := [.data, .data, .data], laidTests := true, laidLooks := .later }
def VaultForgetsUptoCardSaid : Prop := Claim7.holds Tryz.pinned (.plain (OpenSpec.upto vaultForgetsSpec)) vaultForgetsUptoCard

/-- THE SECOND FORM's CARD OF 'syllabarylaw27.VaultLines'. -/
def vaultLinesUptoCard : Claim7 := { stood := { row := vaultLinesUptoRow, standIns := [], harness := (true, "426d57a87c791b27104f04666428ef46072b02b99fc935c38a2ca183da242164"), looks := false }, kinds := [], alts := [], laidByText := true, laidKinds := [.data, .data, .data], laidTests := true, laidLooks := .later }
def VaultLinesUptoCardSaid : Prop := Claim7.holds Tryz.pinned (.plain (OpenSpec.upto vaultLinesSpec)) vaultLinesUptoCard

/-- THE SECOND FORM's CARD OF 'syllabarylaw27.VaultLists'. -/
def vaultListsUptoCard : Claim7 := { stood := { row := vaultListsUptoRow, standIns := [], harness := (true, "426d57a87c791b27104f04666428ef46072b02b99fc935c38a2ca183da242164"), looks := false }, kinds := [], alts := [], laidByText := true, laidKinds := [.data, .data, .data], laidTests := true, laidLooks := .later }
def VaultListsUptoCardSaid : Prop := Claim7.holds Tryz.pinned (.plain (OpenSpec.upto vaultListsSpec)) vaultListsUptoCard

/-- THE SECOND FORM's CARD OF 'syllabarylaw27.VaultParts'. -/
def vaultPartsUptoCard : Claim7 := { stood := { row := vaultPartsUptoRow, standIns := [], harness := (true, "426d57a87c791b27104f04666428ef46072b02b99fc935c38a2ca183da242164"), looks := false }, kinds := [], alts := [], laidByText := true, laidKinds := [.data, .data, .data], laidTests := true, laidLooks := .later }
def VaultPartsUptoCardSaid : Prop := Claim7.holds Tryz.pinned (.plain (OpenSpec.upto vaultPartsSpec)) vaultPartsUptoCard
end Rows
end Go.Proofs.YtmjnkaabooockaaGreatDoor
