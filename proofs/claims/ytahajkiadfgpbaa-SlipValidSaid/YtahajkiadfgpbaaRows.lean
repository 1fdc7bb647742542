/-
  No cell of these rows narrows 'for every input' (looked for: loops, veiled, ifaces, maps, wideKeys, modest, calm, conditions, laid).
  DERIVED. THE GIVEN ROWS OF THIS SEAT. 8 by the template 'for every input the law returns true; each argument reads behind the call as it read before'; 0 by the template 'total and deterministic' (their statements: YtahajkiadfgpbaaTotals.lean).
  GIVEN WITH THE SEED: the statements are not yours to turn. If you find one false, say at which input.
  Laid BY PROGRAM, IN A SANDBOX (cutbox-rows.mjs): the forced cells as the released guide's own fill.sh prints them over the translation 4683a062f59c565d… (all of the seat's roots in one cut). By AI agents, Wed Nov 11 2026. No macro, syntax, notation, axiom, sorry.
-/
import Derived.Test.YtahajkiadfgpbaaChecked
import GoSem.Claim
import GoSem.ClaimJoined
import GoSem.ClaimMapViews
import Derived.JoinedTies
import Derived.KernelRfl
namespace Go.Proofs.Ytahajkiadfgpbaa
/- THE CELL 'sum', in the pinned program and in every row, IS THE sha256 OF THE DUMP (.gsa) THAT YtahajkiadfgpbaaProg.lean LOADS. Nothing in Lean hashes anything: it is a label: what it is worth is what the hold of that sum in a sandbox is worth. -/
noncomputable def Try.pinned : Pinned := { name := "ytahajkiadfgpbaa", sum := "4683a062f59c565dcfb8a55745ce28061c147ab08ea3acfa37e9d446a7c79dfc", checked := Try.checked }
namespace Rows
def none {H : Type} : Left H := { results := [], args := [] }

/-- 'syllabarylaw07.SlipMatchesReference': WHATEVER THE INPUT: true; the input reads as it did. -/
def slipMatchesReferenceSpec : ChangeSpec := { name := "slipMatchesReference", fn := fun _ => fun
  | [d1, d2, d3] => { results := [.lit (.bool true)], args := [d1, d2, d3] }
  | _ => none }
def slipMatchesReferenceRow : OpenClaim := { program := "ytahajkiadfgpbaa", sum := "4683a062f59c565dcfb8a55745ce28061c147ab08ea3acfa37e9d446a7c79dfc", func := "syllabary/syllabarylaw07.SlipMatchesReference", spec := "slipMatchesReference", unfollowed := true, recurses := true, apart := false }
def SlipMatchesReferenceSaid : Prop := slipMatchesReferenceRow.holds Try.pinned (OpenSpec.ofChange slipMatchesReferenceSpec)

/-- ITS FALSE NEIGHBOUR: 'it returns false'. Refute it at one input. -/
def slipMatchesReferenceWrong : ChangeSpec := { name := "slipMatchesReference", fn := fun _ => fun
  | [d1, d2, d3] => { results := [.lit (.bool false)], args := [d1, d2, d3] }
  | _ => none }
def SlipMatchesReferenceWrongFalsely : Prop := slipMatchesReferenceRow.holds Try.pinned (OpenSpec.ofChange slipMatchesReferenceWrong)

/-- 'syllabarylaw07.SlipValid': WHATEVER THE INPUT: true; the input reads as it did. -/
def slipValidSpec : ChangeSpec := { name := "slipValid", fn := fun _ => fun
  | [d1, d2, d3] => { results := [.lit (.bool true)], args := [d1, d2, d3] }
  | _ => none }
def slipValidRow : OpenClaim := { program := "ytahajkiadfgpbaa", sum := "4683a062f59c565dcfb8a55745ce28061c147ab08ea3acfa37e9d446a7c79dfc", func := "syllabary/syllabarylaw07.SlipValid", spec := "slipValid", unfollowed := true, recurses := true, apart := false }
def SlipValidSaid : Prop := slipValidRow.holds Try.pinned (OpenSpec.ofChange slipValidSpec)

/-- ITS FALSE NEIGHBOUR: 'it returns false'. Refute it at one input. -/
def slipValidWrong : ChangeSpec := { name := "slipValid", fn := fun _ => fun
  | [d1, d2, d3] => { results := [.lit (.bool false)], args := [d1, d2, d3] }
  | _ => none }
def SlipValidWrongFalsely : Prop := slipValidRow.holds Try.pinned (OpenSpec.ofChange slipValidWrong)

/-- 'syllabarylaw07.SlipNothing': WHATEVER THE INPUT: true; the input reads as it did. -/
def slipNothingSpec : ChangeSpec := { name := "slipNothing", fn := fun _ => fun
  | [d1, d2] => { results := [.lit (.bool true)], args := [d1, d2] }
  | _ => none }
def slipNothingRow : OpenClaim := { program := "ytahajkiadfgpbaa", sum := "4683a062f59c565dcfb8a55745ce28061c147ab08ea3acfa37e9d446a7c79dfc", func := "syllabary/syllabarylaw07.SlipNothing", spec := "slipNothing", unfollowed := true, recurses := true, apart := false }
def SlipNothingSaid : Prop := slipNothingRow.holds Try.pinned (OpenSpec.ofChange slipNothingSpec)

/-- ITS FALSE NEIGHBOUR: 'it returns false'. Refute it at one input. -/
def slipNothingWrong : ChangeSpec := { name := "slipNothing", fn := fun _ => fun
  | [d1, d2] => { results := [.lit (.bool false)], args := [d1, d2] }
  | _ => none }
def SlipNothingWrongFalsely : Prop := slipNothingRow.holds Try.pinned (OpenSpec.ofChange slipNothingWrong)

/-- 'syllabarylaw07.SlipSingles': WHATEVER THE INPUT: true; the input reads as it did. -/
def slipSinglesSpec : ChangeSpec := { name := "slipSingles", fn := fun _ => fun
  | [d1, d2, d3] => { results := [.lit (.bool true)], args := [d1, d2, d3] }
  | _ => none }
def slipSinglesRow : OpenClaim := { program := "ytahajkiadfgpbaa", sum := "4683a062f59c565dcfb8a55745ce28061c147ab08ea3acfa37e9d446a7c79dfc", func := "syllabary/syllabarylaw07.SlipSingles", spec := "slipSingles", unfollowed := true, recurses := true, apart := false }
def SlipSinglesSaid : Prop := slipSinglesRow.holds Try.pinned (OpenSpec.ofChange slipSinglesSpec)

/-- ITS FALSE NEIGHBOUR: 'it returns false'. Refute it at one input. -/
def slipSinglesWrong : ChangeSpec := { name := "slipSingles", fn := fun _ => fun
  | [d1, d2, d3] => { results := [.lit (.bool false)], args := [d1, d2, d3] }
  | _ => none }
def SlipSinglesWrongFalsely : Prop := slipSinglesRow.holds Try.pinned (OpenSpec.ofChange slipSinglesWrong)

/-- 'syllabarylaw07.SlipParts': WHATEVER THE INPUT: true; the input reads as it did. -/
def slipPartsSpec : ChangeSpec := { name := "slipParts", fn := fun _ => fun
  | [d1, d2] => { results := [.lit (.bool true)], args := [d1, d2] }
  | _ => none }
def slipPartsRow : OpenClaim := { program := "ytahajkiadfgpbaa", sum := "4683a062f59c565dcfb8a55745ce28061c147ab08ea3acfa37e9d446a7c79dfc", func := "syllabary/syllabarylaw07.SlipParts", spec := "slipParts", unfollowed := true, recurses := true, apart := false }
def SlipPartsSaid : Prop := slipPartsRow.holds Try.pinned (OpenSpec.ofChange slipPartsSpec)

/-- ITS FALSE NEIGHBOUR: 'it returns false'. Refute it at one input. -/
def slipPartsWrong : ChangeSpec := { name := "slipParts", fn := fun _ => fun
  | [d1, d2] => { results := [.lit (.bool false)], args := [d1, d2] }
  | _ => none }
def SlipPartsWrongFalsely : Prop := slipPartsRow.holds Try.pinned (OpenSpec.ofChange slipPartsWrong)

/-- 'syllabarylaw07.SlipMirrors': WHATEVER THE INPUT: true; the input reads as it did. -/
def slipMirrorsSpec : ChangeSpec := { name := "slipMirrors", fn := fun _ => fun
  | [d1, d2] => { results := [.lit (.bool true)], args := [d1, d2] }
  | _ => none }
def slipMirrorsRow : OpenClaim := { program := "ytahajkiadfgpbaa", sum := "4683a062f59c565dcfb8a55745ce28061c147ab08ea3acfa37e9d446a7c79dfc", func := "syllabary/syllabarylaw07.SlipMirrors", spec := "slipMirrors", unfollowed := true, recurses := true, apart := false }
def SlipMirrorsSaid : Prop := slipMirrorsRow.holds Try.pinned (OpenSpec.ofChange slipMirrorsSpec)

/-- ITS FALSE NEIGHBOUR: 'it returns false'. Refute it at one input. -/
def slipMirrorsWrong : ChangeSpec := { name := "slipMirrors", fn := fun _ => fun
  | [d1, d2] => { results := [.lit (.bool false)], args := [d1, d2] }
  | _ => none }
def SlipMirrorsWrongFalsely : Prop := slipMirrorsRow.holds Try.pinned (OpenSpec.ofChange slipMirrorsWrong)

/-- 'syllabarylaw07.SlipCosts': WHATEVER THE INPUT: true; the input reads as it did. -/
def slipCostsSpec : ChangeSpec := { name := "slipCosts", fn := fun _ => fun
  | [d1, d2, d3] => { results := [.lit (.bool true)], args := [d1, d2, d3] }
  | _ => none }
def slipCostsRow : OpenClaim := { program := "ytahajkiadfgpbaa", sum := "4683a062f59c565dcfb8a55745ce28061c147ab08ea3acfa37e9d446a7c79dfc", func := "syllabary/syllabarylaw07.SlipCosts", spec := "slipCosts", unfollowed := true, recurses := true, apart := false }
def SlipCostsSaid : Prop := slipCostsRow.holds Try.pinned (OpenSpec.ofChange slipCostsSpec)

/-- ITS FALSE NEIGHBOUR: 'it returns false'. Refute it at one input. -/
def slipCostsWrong : ChangeSpec := { name := "slipCosts", fn := fun _ => fun
  | [d1, d2, d3] => { results := [.lit (.bool false)], args := [d1, d2, d3] }
  | _ => none }
def SlipCostsWrongFalsely : Prop := slipCostsRow.holds Try.pinned (OpenSpec.ofChange slipCostsWrong)

/-- 'syllabarylaw07.SlipWords': WHATEVER THE INPUT: true; the input reads as it did. -/
def slipWordsSpec : ChangeSpec := { name := "slipWords", fn := fun _ => fun
  | [d1, d2, d3] => { results := [.lit (.bool true)], args := [d1, d2, d3] }
  | _ => none }
def slipWordsRow : OpenClaim := { program := "ytahajkiadfgpbaa", sum := "4683a062f59c565dcfb8a55745ce28061c147ab08ea3acfa37e9d446a7c79dfc", func := "syllabary/syllabarylaw07.SlipWords", spec := "slipWords", unfollowed := true, recurses := true, apart := false }
def SlipWordsSaid : Prop := slipWordsRow.holds Try.pinned (OpenSpec.ofChange slipWordsSpec)

/-- ITS FALSE NEIGHBOUR: 'it returns false'. Refute it at one input. -/
def slipWordsWrong : ChangeSpec := { name := "slipWords", fn := fun _ => fun
  | [d1, d2, d3] => { results := [.lit (.bool false)], args := [d1, d2, d3] }
  | _ => none }
def SlipWordsWrongFalsely : Prop := slipWordsRow.holds Try.pinned (OpenSpec.ofChange slipWordsWrong)

/- THE SECOND FORM. 'bulk': how many values and letters a reading holds, each counted each time it is reached (what is shared counts as often as it is met; a slice's spare places count too). A statement '..UptoSaid' is the law's where the arguments, and the package variables that the reading takes, are together of bulk at most 1048576: NARROWER than '..Said'. Prove '..Said' where nothing that the law and all that it calls make is longer than what came in: it says more and counts as full. Else prove '..UptoSaid'. A law counts once. -/
mutual
def uptoBulk {H : Type} : DataW H → Nat
  | .lit (.string bytes) => bytes.length + 1
  | .lit _ => 1
  | .nil => 1
  | .ptr d => uptoBulk d + 1
  | .slice elems spare => uptoBulkAll elems + uptoBulkAll spare + 1
  | .agg parts => uptoBulkAll parts + 1
  | .iface _ d => uptoBulk d + 1
  | .map entries => uptoBulkEntries entries + 1
  | .held _ => 1
def uptoBulkAll {H : Type} : List (DataW H) → Nat
  | [] => 0
  | d :: r => uptoBulk d + uptoBulkAll r
def uptoBulkEntries {H : Type} : List (Lit × DataW H) → Nat
  | [] => 0
  | x :: r => uptoBulkEntry x + uptoBulkEntries r
def uptoBulkEntry {H : Type} : Lit × DataW H → Nat
  | (.string bytes, d) => bytes.length + uptoBulk d + 1
  | (_, d) => uptoBulk d + 1
 end
def uptoSmall : (H : Type) → List (DataW H) → Bool := fun _ ds => decide (uptoBulkAll ds ≤ 1048576)
def OpenSpec.upto (s : _root_.Go.ChangeSpec) : _root_.Go.OpenSpec := { _root_.Go.OpenSpec.ofChange s with cond := some uptoSmall }

/-- 'syllabarylaw07.SlipMatchesReference', WHERE WHAT IT READS IS OF BULK AT MOST 1048576: true; the input reads as it did. -/
def slipMatchesReferenceUptoRow : OpenClaim := { program := "ytahajkiadfgpbaa", sum := "4683a062f59c565dcfb8a55745ce28061c147ab08ea3acfa37e9d446a7c79dfc", func := "syllabary/syllabarylaw07.SlipMatchesReference", spec := "slipMatchesReference", unfollowed := true, recurses := true, apart := false, narrowed := true }
def SlipMatchesReferenceUptoSaid : Prop := slipMatchesReferenceUptoRow.holds Try.pinned (OpenSpec.upto slipMatchesReferenceSpec)

/-- 'syllabarylaw07.SlipValid', WHERE WHAT IT READS IS OF BULK AT MOST 1048576: true; the input reads as it did. -/
def slipValidUptoRow : OpenClaim := { program := "ytahajkiadfgpbaa", sum := "4683a062f59c565dcfb8a55745ce28061c147ab08ea3acfa37e9d446a7c79dfc", func := "syllabary/syllabarylaw07.SlipValid", spec := "slipValid", unfollowed := true, recurses := true, apart := false, narrowed := true }
def SlipValidUptoSaid : Prop := slipValidUptoRow.holds Try.pinned (OpenSpec.upto slipValidSpec)

/-- 'syllabarylaw07.SlipNothing', WHERE WHAT IT READS IS OF BULK AT MOST 1048576: true; the input reads as it did. -/
def slipNothingUptoRow : OpenClaim := { program := "ytahajkiadfgpbaa", sum := "4683a062f59c565dcfb8a55745ce28061c147ab08ea3acfa37e9d446a7c79dfc", func := "syllabary/syllabarylaw07.SlipNothing", spec := "slipNothing", unfollowed := true, recurses := true, apart := false, narrowed := true }
def SlipNothingUptoSaid : Prop := slipNothingUptoRow.holds Try.pinned (OpenSpec.upto slipNothingSpec)

/-- 'syllabarylaw07.SlipSingles', WHERE WHAT IT READS IS OF BULK AT MOST 1048576: true; the input reads as it did. -/
def slipSinglesUptoRow : OpenClaim := { program := "ytahajkiadfgpbaa", sum := "4683a062f59c565dcfb8a55745ce28061c147ab08ea3acfa37e9d446a7c79dfc", func := "syllabary/syllabarylaw07.SlipSingles", spec := "slipSingles", unfollowed := true, recurses := true, apart := false, narrowed := true }
def SlipSinglesUptoSaid : Prop := slipSinglesUptoRow.holds Try.pinned (OpenSpec.upto slipSinglesSpec)

/-- 'syllabarylaw07.SlipParts', WHERE WHAT IT READS IS OF BULK AT MOST 1048576: true; the input reads as it did. -/
def slipPartsUptoRow : OpenClaim := { program := "ytahajkiadfgpbaa", sum := "4683a062f59c565dcfb8a55745ce28061c147ab08ea3acfa37e9d446a7c79dfc", func := "syllabary/syllabarylaw07.SlipParts", spec := "slipParts", unfollowed := true, recurses := true, apart := false, narrowed := true }
def SlipPartsUptoSaid : Prop := slipPartsUptoRow.holds Try.pinned (OpenSpec.upto slipPartsSpec)

/-- 'syllabarylaw07.SlipMirrors', WHERE WHAT IT READS IS OF BULK AT MOST 1048576: true; the input reads as it did. -/
def slipMirrorsUptoRow : OpenClaim := { program := "ytahajkiadfgpbaa", sum := "4683a062f59c565dcfb8a55745ce28061c147ab08ea3acfa37e9d446a7c79dfc", func := "syllabary/syllabarylaw07.SlipMirrors", spec := "slipMirrors", unfollowed := true, recurses := true, apart := false, narrowed := true }
def SlipMirrorsUptoSaid : Prop := slipMirrorsUptoRow.holds Try.pinned (OpenSpec.upto slipMirrorsSpec)

/-- 'syllabarylaw07.SlipCosts', WHERE WHAT IT READS IS OF BULK AT MOST 1048576: true; the input reads as it did. -/
def slipCostsUptoRow : OpenClaim := { program := "ytahajkiadfgpbaa", sum := "4683a062f59c565dcfb8a55745ce28061c147ab08ea3acfa37e9d446a7c79dfc", func := "syllabary/syllabarylaw07.SlipCosts", spec := "slipCosts", unfollowed := true, recurses := true, apart := false, narrowed := true }
def SlipCostsUptoSaid : Prop := slipCostsUptoRow.holds Try.pinned (OpenSpec.upto slipCostsSpec)

/-- 'syllabarylaw07.SlipWords', WHERE WHAT IT READS IS OF BULK AT MOST 1048576: true; the input reads as it did. -/
def slipWordsUptoRow : OpenClaim := { program := "ytahajkiadfgpbaa", sum := "4683a062f59c565dcfb8a55745ce28061c147ab08ea3acfa37e9d446a7c79dfc", func := "syllabary/syllabarylaw07.SlipWords", spec := "slipWords", unfollowed := true, recurses := true, apart := false, narrowed := true }
def SlipWordsUptoSaid : Prop := slipWordsUptoRow.holds Try.pinned (OpenSpec.upto slipWordsSpec)

end Rows
end Go.Proofs.Ytahajkiadfgpbaa
