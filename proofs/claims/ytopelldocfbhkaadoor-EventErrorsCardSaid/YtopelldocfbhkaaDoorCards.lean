/-
  DERIVED. GIVEN WITH THE SEED: THE CARDS: each row of YtopelldocfbhkaaDoorRows.lean that lists a variable, with what it lists TIED to the program's text (the seventh form; the later family's looks); each row that meets fmt, with fmt's text TOLD by the authors' own Lean function (tested against real Go, not proved from fmt's source: count such statements apart). THE CARD IS WHAT COUNTS. Prove the row's statement (the work); the ties are given (YtopelldocfbhkaaDoorTie.lean); close each card by the builder's one call (the guide's Derived/Test/ToyasCard.lean, 'card_holds'). Laid BY PROGRAM, IN A SANDBOX (cutbox-door.mjs). By AI agents, Wed Nov 11 2026. No macro, syntax, notation, axiom, sorry.
-/
import Derived.Test.YtopelldocfbhkaaDoorRows
import GoSem.ClaimSeven
namespace Go.Proofs.YtopelldocfbhkaaDoor
namespace Rows

/-- THE TIED CARD OF 'syllabarylaw01.EventMatchesReference'. -/
def eventMatchesReferenceCard : Claim7 := { stood := { row := eventMatchesReferenceRow, standIns := [], harness := (true, "5dc4ae48ce4c2a9348dcc132f8ec6b161086df3f9f12457d6c6e77583ebed4cd"), looks := false }, kinds := [], alts := [], laidByText := true, laidKinds := [.data, .data, .data, .data, .pinned], laidTests := true, laidLooks := .later }
def EventMatchesReferenceCardSaid : Prop := Claim7.holds Tryd.pinned (.plain (OpenSpec.ofChange eventMatchesReferenceSpec)) eventMatchesReferenceCard

/-- THE TIED CARD OF 'syllabarylaw01.EventValid'. -/
def eventValidCard : Claim7 := { stood := { row := eventValidRow, standIns := [], harness := (true, "5dc4ae48ce4c2a9348dcc132f8ec6b161086df3f9f12457d6c6e77583ebed4cd"), looks := false }, kinds := [], alts := [], laidByText := true, laidKinds := [.data, .data, .data, .data, .pinned], laidTests := true, laidLooks := .later }
def EventValidCardSaid : Prop := Claim7.holds Tryd.pinned (.plain (OpenSpec.ofChange eventValidSpec)) eventValidCard

/-- THE TIED CARD OF 'syllabarylaw01.EventInverts'. -/
def eventInvertsCard : Claim7 := { stood := { row := eventInvertsRow, standIns := [], harness := (true, "5dc4ae48ce4c2a9348dcc132f8ec6b161086df3f9f12457d6c6e77583ebed4cd"), looks := false }, kinds := [], alts := [], laidByText := true, laidKinds := [.data, .data, .data, .data, .pinned], laidTests := true, laidLooks := .later }
def EventInvertsCardSaid : Prop := Claim7.holds Tryd.pinned (.plain (OpenSpec.ofChange eventInvertsSpec)) eventInvertsCard

/-- THE TIED CARD OF 'syllabarylaw01.EventParses'. -/
def eventParsesCard : Claim7 := { stood := { row := eventParsesRow, standIns := [], harness := (true, "5dc4ae48ce4c2a9348dcc132f8ec6b161086df3f9f12457d6c6e77583ebed4cd"), looks := false }, kinds := [], alts := [], laidByText := true, laidKinds := [.data, .data, .data, .data, .pinned], laidTests := true, laidLooks := .later }
def EventParsesCardSaid : Prop := Claim7.holds Tryd.pinned (.plain (OpenSpec.ofChange eventParsesSpec)) eventParsesCard

/-- THE TIED CARD OF 'syllabarylaw01.EventScripts'. -/
def eventScriptsCard : Claim7 := { stood := { row := eventScriptsRow, standIns := [], harness := (true, "5dc4ae48ce4c2a9348dcc132f8ec6b161086df3f9f12457d6c6e77583ebed4cd"), looks := false }, kinds := [], alts := [], laidByText := true, laidKinds := [.data, .data, .data, .data, .pinned], laidTests := true, laidLooks := .later }
def EventScriptsCardSaid : Prop := Claim7.holds Tryd.pinned (.plain (OpenSpec.ofChange eventScriptsSpec)) eventScriptsCard

/-- THE TIED CARD OF 'syllabarylaw01.EventErrors'. -/
def eventErrorsCard : Claim7 := { stood := { row := eventErrorsRow, standIns := [], harness := (true, "5dc4ae48ce4c2a9348dcc132f8ec6b161086df3f9f12457d6c6e77583ebed4cd"), looks := false }, kinds := [], alts := [], laidByText := true, laidKinds := [.data, .data, .data, .data, .pinned], laidTests := true, laidLooks := .later }
def EventErrorsCardSaid : Prop := Claim7.holds Tryd.pinned (.plain (OpenSpec.ofChange eventErrorsSpec)) eventErrorsCard

/-- THE TIED CARD OF 'syllabarylaw01.EventLimits'. -/
def eventLimitsCard : Claim7 := { stood := { row := eventLimitsRow, standIns := [], harness := (true, "5dc4ae48ce4c2a9348dcc132f8ec6b161086df3f9f12457d6c6e77583ebed4cd"), looks := false }, kinds := [], alts := [], laidByText := true, laidKinds := [.data, .data, .data, .data, .pinned], laidTests := true, laidLooks := .later }
def EventLimitsCardSaid : Prop := Claim7.holds Tryd.pinned (.plain (OpenSpec.ofChange eventLimitsSpec)) eventLimitsCard

/-- THE SECOND FORM's CARD OF 'syllabarylaw01.EventMatchesReference'. -/
def eventMatchesReferenceUptoCard : Claim7 := { stood := { row := eventMatchesReferenceUptoRow, standIns := [], harness := (true, "5dc4ae48ce4c2a9348dcc132f8ec6b161086df3f9f12457d6c6e77583ebed4cd"), looks := false }, kinds := [], alts := [], laidByText := true, laidKinds := [.data, .data, .data, .data, .pinned], laidTests := true, laidLooks := .later }
def EventMatchesReferenceUptoCardSaid : Prop := Claim7.holds Tryd.pinned (.plain (OpenSpec.upto eventMatchesReferenceSpec)) eventMatchesReferenceUptoCard

/-- THE SECOND FORM's CARD OF 'syllabarylaw01.EventValid'. -/
def eventValidUptoCard : Claim7 := { stood := { row := eventValidUptoRow, standIns := [], harness := (true, "5dc4ae48ce4c2a9348dcc132f8ec6b161086df3f9f12457d6c6e77583ebed4cd"), looks := false }, kinds := [], alts := [], laidByText := true, laidKinds := [.data, .data, .data, .data, .pinned], laidTests := true, laidLooks := .later }
def EventValidUptoCardSaid : Prop := Claim7.holds Tryd.pinned (.plain (OpenSpec.upto eventValidSpec)) eventValidUptoCard

/-- THE SECOND FORM's CARD OF 'syllabarylaw01.EventInverts'. -/
def eventInvertsUptoCard : Claim7 := { stood := { row := eventInvertsUptoRow, standIns := [], harness := (true, "5dc4ae48ce4c2a9348dcc132f8ec6b161086df3f9f12457d6c6e77583ebed4cd"), looks := false }, kinds := [], alts := [], laidByText := true, laidKinds := [.data, .data, .data, .data, .pinned], laidTests := true, laidLooks := .later }
def EventInvertsUptoCardSaid : Prop := Claim7.holds Tryd.pinned (.plain (OpenSpec.upto eventInvertsSpec)) eventInvertsUptoCard

/-- THE SECOND FORM's CARD OF 'syllabarylaw01.EventParses'. -/
def eventParsesUptoCard : Claim7 := { stood := { row := eventParsesUptoRow, standIns := [], harness := (true, "5dc4ae48ce4c2a9348dcc132f8ec6b161086df3f9f12457d6c6e77583ebed4cd"), looks := false }, kinds := [], alts := [], laidByText := true, laidKinds := [.data, .data, .data, .data, .pinned], laidTests := true, laidLooks := .later }
def EventParsesUptoCardSaid : Prop := Claim7.holds Tryd.pinned (.plain (OpenSpec.upto eventParsesSpec)) eventParsesUptoCard

/-- THE SECOND FORM's CARD OF 'syllabarylaw01.EventScripts'. -/
def eventScriptsUptoCard : Claim7 := { stood := { row := eventScriptsUptoRow, standIns := [], harness := (true, "5dc4ae48ce4c2a9348dcc132f8ec6b161086df3f9f12457d6c6e77583ebed4cd"), looks := false }, kinds := [], alts := [], laidByText := true, laidKinds := [.data, .data, .data, .data, .pinned], laidTests := true, laidLooks := .later }
def EventScriptsUptoCardSaid : Prop := Claim7.holds Tryd.pinned (.plain (OpenSpec.upto eventScriptsSpec)) eventScriptsUptoCard

/-- THE SECOND FORM's CARD OF 'syllabarylaw01.EventErrors'. -/
def eventErrorsUptoCard : Claim7 := { stood := { row := eventErrorsUptoRow, standIns := [], harness := (true, "5dc4ae48ce4c2a9348dcc132f8ec6b161086df3f9f12457d6c6e77583ebed4cd"), looks := false }, kinds := [], alts := [], laidByText := true, laidKinds := [.data, .data, .data, .data, .pinned], laidTests := true, laidLooks := .later }
def EventErrorsUptoCardSaid : Prop := Claim7.holds Tryd.pinned (.plain (OpenSpec.upto eventErrorsSpec)) eventErrorsUptoCard

/-- THE SECOND FORM's CARD OF 'syllabarylaw01.EventLimits'. -/
def eventLimitsUptoCard : Claim7 := { stood := { row := eventLimitsUptoRow, standIns := [], harness := (true, "5dc4ae48ce4c2a9348dcc132f8ec6b161086df3f9f12457d6c6e77583ebed4cd"), looks := false }, kinds := [], alts := [], laidByText := true, laidKinds := [.data, .data, .data, .data, .pinned], laidTests := true, laidLooks := .later }
def EventLimitsUptoCardSaid : Prop := Claim7.holds Tryd.pinned (.plain (OpenSpec.upto eventLimitsSpec)) eventLimitsUptoCard
end Rows
end Go.Proofs.YtopelldocfbhkaaDoor
