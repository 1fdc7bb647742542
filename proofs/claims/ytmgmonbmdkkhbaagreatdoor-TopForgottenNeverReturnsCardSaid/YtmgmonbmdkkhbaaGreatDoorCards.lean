/-
  DERIVED. GIVEN WITH THE SEED: THE CARDS: each row of YtmgmonbmdkkhbaaGreatDoorRows.lean that lists a variable, with what it lists TIED to the program's text (the seventh form; the later family's looks); each row that meets fmt, with fmt's text TOLD by the authors' own Lean function (tested against real Go, not proved from fmt's source: count such statements apart). THE CARD IS WHAT COUNTS. Prove the row's statement (the work); the ties are given (YtmgmonbmdkkhbaaGreatDoorTie.lean); close each card by the builder's one call (the guide's Derived/Test/ToyasCard.lean, 'card_holds'). Laid BY PROGRAM, IN A SANDBOX (cutbox-door.mjs). By AI agents, Wed Nov 11 2026. No macro, syntax, notation, axiom, sorry.
-/
import Derived.Test.YtmgmonbmdkkhbaaGreatDoorRows
import GoSem.ClaimSeven
namespace Go.Proofs.YtmgmonbmdkkhbaaGreatDoor
namespace Rows

/-- THE TIED CARD OF 'syllabarytop.TopTornBackupsRestore'. -/
def topTornBackupsRestoreCard : Claim7 := { stood := { row := topTornBackupsRestoreRow, standIns := [], harness := (true, "126f894262a0d10ad502dc08369576534d905ecce8133b1372c4d69678d57d66"), looks := false }, kinds := [], alts := [], laidByText := true, laidKinds := [.data, .data, .data], laidTests := true, laidLooks := .later }
def TopTornBackupsRestoreCardSaid : Prop := Claim7.holds Tryz.pinned (.plain (OpenSpec.ofChange topTornBackupsRestoreSpec)) topTornBackupsRestoreCard

/-- THE TIED CARD OF 'syllabarytop.TopForgottenNeverReturns'. -/
def topForgottenNeverReturnsCard : Claim7 := { stood := { row := topForgottenNeverReturnsRow, standIns := [], harness := (true, "126f894262a0d10ad502dc08369576534d905ecce8133b1372c4d69678d57d66"), looks := false }, kinds := [], alts := [], laidByText := true, laidKinds := [.data, .data, .data], laidTests := true, laidLooks := .later }
def TopForgottenNeverReturnsCardSaid : Prop := Claim7.holds Tryz.pinned (.plain (OpenSpec.ofChange topForgottenNeverReturnsSpec)) topForgottenNeverReturnsCard

/-- THE SECOND FORM's CARD OF 'syllabarytop.TopTornBackupsRestore'. -/
def topTornBackupsRestoreUptoCard : Claim7 := { stood := { row := topTornBackupsRestoreUptoRow, standIns := [], harness := (true, "126f894262a0d10ad502dc08369576534d905ecce8133b1372c4d69678d57d66"), looks := false }, kinds := [], alts := [], laidByText := true, laidKinds := [.data, .data, .data], laidTests := true, laidLooks := .later }
def TopTornBackupsRestoreUptoCardSaid : Prop := Claim7.holds Tryz.pinned (.plain (OpenSpec.upto topTornBackupsRestoreSpec)) topTornBackupsRestoreUptoCard

/-- THE SECOND FORM's CARD OF 'syllabarytop.TopForgottenNeverReturns'. -/
def topForgottenNeverReturnsUptoCard : Claim7 := { stood := { row := topForgottenNeverReturnsUptoRow, standIns := [], harness := (true, "126f894262a0d10ad502dc08369576534d905ecce8133b1372c4d69678d57d66"), looks := false }, kinds := [], alts := [], laidByText := true, laidKinds := [.data, .data, .data], laidTests := true, laidLooks := .later }
def TopForgottenNeverReturnsUptoCardSaid : Prop := Claim7.holds Tryz.pinned (.plain (OpenSpec.upto topForgottenNeverReturnsSpec)) topForgottenNeverReturnsUptoCard
end Rows
end Go.Proofs.YtmgmonbmdkkhbaaGreatDoor
