/-
  DERIVED. GIVEN WITH THE SEED: THE CARDS: each row of YtcmolphllladbaaDoorRows.lean that lists a variable, with what it lists TIED to the program's text (the seventh form; the later family's looks); each row that meets fmt, with fmt's text TOLD by the authors' own Lean function (tested against real Go, not proved from fmt's source: count such statements apart). THE CARD IS WHAT COUNTS. Prove the row's statement (the work); the ties are given (YtcmolphllladbaaDoorTie.lean); close each card by the builder's one call (the guide's Derived/Test/ToyasCard.lean, 'card_holds'). Laid BY PROGRAM, IN A SANDBOX (cutbox-door.mjs). By AI agents, Wed Nov 11 2026. No macro, syntax, notation, axiom, sorry.
-/
import Derived.Test.YtcmolphllladbaaDoorRows
import GoSem.ClaimSeven
namespace Go.Proofs.YtcmolphllladbaaDoor
namespace Rows

/-- THE TIED CARD OF 'syllabarylaw02.SchemeChecks'. -/
def schemeChecksCard : Claim7 := { stood := { row := schemeChecksRow, standIns := [], harness := (true, "34baf661d054b563b50d6273a2529c45ae94fe38806658fc0c33bd088ca5fb84"), looks := false }, kinds := [], alts := [], laidByText := true, laidKinds := [.data, .data, .data, .data, .pinned], laidTests := true, laidLooks := .later }
def SchemeChecksCardSaid : Prop := Claim7.holds Tryd.pinned (.plain (OpenSpec.ofChange schemeChecksSpec)) schemeChecksCard

/-- THE TIED CARD OF 'syllabarylaw02.SchemeRoundTrips'. -/
def schemeRoundTripsCard : Claim7 := { stood := { row := schemeRoundTripsRow, standIns := [], harness := (true, "34baf661d054b563b50d6273a2529c45ae94fe38806658fc0c33bd088ca5fb84"), looks := false }, kinds := [], alts := [], laidByText := true, laidKinds := [.data, .data, .data, .data, .pinned], laidTests := true, laidLooks := .later }
def SchemeRoundTripsCardSaid : Prop := Claim7.holds Tryd.pinned (.plain (OpenSpec.ofChange schemeRoundTripsSpec)) schemeRoundTripsCard

/-- THE TIED CARD OF 'syllabarylaw02.SchemeParses'. -/
def schemeParsesCard : Claim7 := { stood := { row := schemeParsesRow, standIns := [], harness := (true, "34baf661d054b563b50d6273a2529c45ae94fe38806658fc0c33bd088ca5fb84"), looks := false }, kinds := [], alts := [], laidByText := true, laidKinds := [.data, .data, .data, .data, .pinned], laidTests := true, laidLooks := .later }
def SchemeParsesCardSaid : Prop := Claim7.holds Tryd.pinned (.plain (OpenSpec.ofChange schemeParsesSpec)) schemeParsesCard

/-- THE TIED CARD OF 'syllabarylaw02.SchemeRules'. -/
def schemeRulesCard : Claim7 := { stood := { row := schemeRulesRow, standIns := [], harness := (true, "34baf661d054b563b50d6273a2529c45ae94fe38806658fc0c33bd088ca5fb84"), looks := false }, kinds := [], alts := [], laidByText := true, laidKinds := [.data, .data, .data, .data, .pinned], laidTests := true, laidLooks := .later }
def SchemeRulesCardSaid : Prop := Claim7.holds Tryd.pinned (.plain (OpenSpec.ofChange schemeRulesSpec)) schemeRulesCard

/-- THE TIED CARD OF 'syllabarylaw02.SchemeLimits'. -/
def schemeLimitsCard : Claim7 := { stood := { row := schemeLimitsRow, standIns := [], harness := (true, "34baf661d054b563b50d6273a2529c45ae94fe38806658fc0c33bd088ca5fb84"), looks := false }, kinds := [], alts := [], laidByText := true, laidKinds := [.data, .data, .data, .data, .pinned], laidTests := true, laidLooks := .later }
def SchemeLimitsCardSaid : Prop := Claim7.holds Tryd.pinned (.plain (OpenSpec.ofChange schemeLimitsSpec)) schemeLimitsCard

/-- THE TIED CARD OF 'syllabarylaw02.SchemeOrders'. -/
def schemeOrdersCard : Claim7 := { stood := { row := schemeOrdersRow, standIns := [], harness := (true, "34baf661d054b563b50d6273a2529c45ae94fe38806658fc0c33bd088ca5fb84"), looks := false }, kinds := [], alts := [], laidByText := true, laidKinds := [.data, .data, .data, .data, .pinned], laidTests := true, laidLooks := .later }
def SchemeOrdersCardSaid : Prop := Claim7.holds Tryd.pinned (.plain (OpenSpec.ofChange schemeOrdersSpec)) schemeOrdersCard

/-- THE TIED CARD OF 'syllabarylaw02.SchemeTexts'. -/
def schemeTextsCard : Claim7 := { stood := { row := schemeTextsRow, standIns := [], harness := (true, "34baf661d054b563b50d6273a2529c45ae94fe38806658fc0c33bd088ca5fb84"), looks := false }, kinds := [], alts := [], laidByText := true, laidKinds := [.data, .data, .data, .data, .pinned], laidTests := true, laidLooks := .later }
def SchemeTextsCardSaid : Prop := Claim7.holds Tryd.pinned (.plain (OpenSpec.ofChange schemeTextsSpec)) schemeTextsCard

/-- THE SECOND FORM's CARD OF 'syllabarylaw02.SchemeChecks'. -/
def schemeChecksUptoCard : Claim7 := { stood := { row := schemeChecksUptoRow, standIns := [], harness := (true, "34baf661d054b563b50d6273a2529c45ae94fe38806658fc0c33bd088ca5fb84"), looks := false }, kinds := [], alts := [], laidByText := true, laidKinds := [.data, .data, .data, .data, .pinned], laidTests := true, laidLooks := .later }
def SchemeChecksUptoCardSaid : Prop := Claim7.holds Tryd.pinned (.plain (OpenSpec.upto schemeChecksSpec)) schemeChecksUptoCard

/-- THE SECOND FORM's CARD OF 'syllabarylaw02.SchemeRoundTrips'. -/
def schemeRoundTripsUptoCard : Claim7 := { stood := { row := schemeRoundTripsUptoRow, standIns := [], harness := (true, "34baf661d054b563b50d6273a2529c45ae94fe38806658fc0c33bd088ca5fb84"), looks := false }, kinds := [], alts := [], laidByText := true, laidKinds := [.data, .data, .data, .data, .pinned], laidTests := true, laidLooks := .later }
def SchemeRoundTripsUptoCardSaid : Prop := Claim7.holds Tryd.pinned (.plain (OpenSpec.upto schemeRoundTripsSpec)) schemeRoundTripsUptoCard

/-- THE SECOND FORM's CARD OF 'syllabarylaw02.SchemeParses'. -/
def schemeParsesUptoCard : Claim7 := { stood := { row := schemeParsesUptoRow, standIns := [], harness := (true, "34baf661d054b563b50d6273a2529c45ae94fe38806658fc0c33bd088ca5fb84"), looks := false }, kinds := [], alts := [], laidByText := true, laidKinds := [.data, .data, .data, .data, .pinned], laidTests := true, laidLooks := .later }
def SchemeParsesUptoCardSaid : Prop := Claim7.holds Tryd.pinned (.plain (OpenSpec.upto schemeParsesSpec)) schemeParsesUptoCard

/-- THE SECOND FORM's CARD OF 'syllabarylaw02.SchemeRules'. -/
def schemeRulesUptoCard : Claim7 := { stood := { row := schemeRulesUptoRow, standIns := [], harness := (true, "34baf661d054b563b50d6273a2529c45ae94fe38806658fc0c33bd088ca5fb84"), looks := false }, kinds := [], alts := [], laidByText := true, laidKinds := [.data, .data, .data, .data, .pinned], laidTests := true, laidLooks := .later }
def SchemeRulesUptoCardSaid : Prop := Claim7.holds Tryd.pinned (.plain (OpenSpec.upto schemeRulesSpec)) schemeRulesUptoCard

/-- THE SECOND FORM's CARD OF 'syllabarylaw02.SchemeLimits'. -/
def schemeLimitsUptoCard : Claim7 := { stood := { row := schemeLimitsUptoRow, standIns := [], harness := (true, "34baf661d054b563b50d6273a2529c45ae94fe38806658fc0c33bd088ca5fb84"), looks := false }, kinds := [], alts := [], laidByText := true, laidKinds := [.data, .data, .data, .data, .pinned], laidTests := true, laidLooks := .later }
def SchemeLimitsUptoCardSaid : Prop := Claim7.holds Tryd.pinned (.plain (OpenSpec.upto schemeLimitsSpec)) schemeLimitsUptoCard

/-- THE SECOND FORM's CARD OF 'syllabarylaw02.SchemeOrders'. -/
def schemeOrdersUptoCard : Claim7 := { stood := { row := schemeOrdersUptoRow, standIns := [], harness := (true, "34baf661d054b563b50d6273a2529c45ae94fe38806658fc0c33bd088ca5fb84"), looks := false }, kinds := [], alts := [], laidByText := true, laidKinds := [.data, .data, .data, .data, .pinned], laidTests := true, laidLooks := .later }
def SchemeOrdersUptoCardSaid : Prop := Claim7.holds Tryd.pinned (.plain (OpenSpec.upto schemeOrdersSpec)) schemeOrdersUptoCard

/-- THE SECOND FORM's CARD OF 'syllabarylaw02.SchemeTexts'. -/
def schemeTextsUptoCard : Claim7 := { stood := { row := schemeTextsUptoRow, standIns := [], harness := (true, "34baf661d054b563b50d6273a2529c45ae94fe38806658fc0c33bd088ca5fb84"), looks := false }, kinds := [], alts := [], laidByText := true, laidKinds := [.data, .data, .data, .data, .pinned], laidTests := true, laidLooks := .later }
def SchemeTextsUptoCardSaid : Prop := Claim7.holds Tryd.pinned (.plain (OpenSpec.upto schemeTextsSpec)) schemeTextsUptoCard
end Rows
end Go.Proofs.YtcmolphllladbaaDoor
