/-
  No cell of these rows narrows 'for every input' (looked for: loops, veiled, ifaces, maps, wideKeys, modest, calm, conditions, laid).
  DERIVED. THE GIVEN ROWS OF THIS SEAT. 7 by the template 'for every input the law returns true; each argument reads behind the call as it read before'; 0 by the template 'total and deterministic' (their statements: YtaphmhdgpdhpiaaTotals.lean).
  GIVEN WITH THE SEED: the statements are not yours to turn. If you find one false, say at which input.
  Laid BY PROGRAM, IN A SANDBOX (cutbox-rows.mjs): the forced cells as the released guide's own fill.sh prints them over the translation 19e59f9852e7c5f0… (all of the seat's roots in one cut). By AI agents, Wed Nov 11 2026. No macro, syntax, notation, axiom, sorry.
-/
import Derived.Test.YtaphmhdgpdhpiaaChecked
import GoSem.Claim
import GoSem.ClaimJoined
import GoSem.ClaimMapViews
import Derived.JoinedTies
import Derived.KernelRfl
namespace Go.Proofs.Ytaphmhdgpdhpiaa
/- THE CELL 'sum', in the pinned program and in every row, IS THE sha256 OF THE DUMP (.gsa) THAT YtaphmhdgpdhpiaaProg.lean LOADS. Nothing in Lean hashes anything: it is a label: what it is worth is what the hold of that sum in a sandbox is worth. -/
noncomputable def Try.pinned : Pinned := { name := "ytaphmhdgpdhpiaa", sum := "19e59f9852e7c5f0311851d6ca1dd63f0fbf089f41961b6efdb66b2d46c58882", checked := Try.checked }
namespace Rows
def none {H : Type} : Left H := { results := [], args := [] }

/-- 'syllabarylaw03.RouteMatchesReference': WHATEVER THE INPUT: true; the input reads as it did. -/
def routeMatchesReferenceSpec : ChangeSpec := { name := "routeMatchesReference", fn := fun _ => fun
  | [d1, d2, d3] => { results := [.lit (.bool true)], args := [d1, d2, d3] }
  | _ => none }
def routeMatchesReferenceRow : OpenClaim := { program := "ytaphmhdgpdhpiaa", sum := "19e59f9852e7c5f0311851d6ca1dd63f0fbf089f41961b6efdb66b2d46c58882", func := "syllabary/syllabarylaw03.RouteMatchesReference", spec := "routeMatchesReference", inPlace := ["internal/abi.NoEscape"], unfollowed := true, recurses := true, apart := false }
def RouteMatchesReferenceSaid : Prop := routeMatchesReferenceRow.holds Try.pinned (OpenSpec.ofChange routeMatchesReferenceSpec)

/-- ITS FALSE NEIGHBOUR: 'it returns false'. Refute it at one input. -/
def routeMatchesReferenceWrong : ChangeSpec := { name := "routeMatchesReference", fn := fun _ => fun
  | [d1, d2, d3] => { results := [.lit (.bool false)], args := [d1, d2, d3] }
  | _ => none }
def RouteMatchesReferenceWrongFalsely : Prop := routeMatchesReferenceRow.holds Try.pinned (OpenSpec.ofChange routeMatchesReferenceWrong)

/-- 'syllabarylaw03.RouteParts': WHATEVER THE INPUT: true; the input reads as it did. -/
def routePartsSpec : ChangeSpec := { name := "routeParts", fn := fun _ => fun
  | [d1, d2, d3] => { results := [.lit (.bool true)], args := [d1, d2, d3] }
  | _ => none }
def routePartsRow : OpenClaim := { program := "ytaphmhdgpdhpiaa", sum := "19e59f9852e7c5f0311851d6ca1dd63f0fbf089f41961b6efdb66b2d46c58882", func := "syllabary/syllabarylaw03.RouteParts", spec := "routeParts", inPlace := ["internal/abi.NoEscape"], unfollowed := true, recurses := true, apart := false }
def RoutePartsSaid : Prop := routePartsRow.holds Try.pinned (OpenSpec.ofChange routePartsSpec)

/-- ITS FALSE NEIGHBOUR: 'it returns false'. Refute it at one input. -/
def routePartsWrong : ChangeSpec := { name := "routeParts", fn := fun _ => fun
  | [d1, d2, d3] => { results := [.lit (.bool false)], args := [d1, d2, d3] }
  | _ => none }
def RoutePartsWrongFalsely : Prop := routePartsRow.holds Try.pinned (OpenSpec.ofChange routePartsWrong)

/-- 'syllabarylaw03.RouteModes': WHATEVER THE INPUT: true; the input reads as it did. -/
def routeModesSpec : ChangeSpec := { name := "routeModes", fn := fun _ => fun
  | [d1, d2, d3] => { results := [.lit (.bool true)], args := [d1, d2, d3] }
  | _ => none }
def routeModesRow : OpenClaim := { program := "ytaphmhdgpdhpiaa", sum := "19e59f9852e7c5f0311851d6ca1dd63f0fbf089f41961b6efdb66b2d46c58882", func := "syllabary/syllabarylaw03.RouteModes", spec := "routeModes", inPlace := ["internal/abi.NoEscape"], unfollowed := true, recurses := true, apart := false }
def RouteModesSaid : Prop := routeModesRow.holds Try.pinned (OpenSpec.ofChange routeModesSpec)

/-- ITS FALSE NEIGHBOUR: 'it returns false'. Refute it at one input. -/
def routeModesWrong : ChangeSpec := { name := "routeModes", fn := fun _ => fun
  | [d1, d2, d3] => { results := [.lit (.bool false)], args := [d1, d2, d3] }
  | _ => none }
def RouteModesWrongFalsely : Prop := routeModesRow.holds Try.pinned (OpenSpec.ofChange routeModesWrong)

/-- 'syllabarylaw03.RouteTrims': WHATEVER THE INPUT: true; the input reads as it did. -/
def routeTrimsSpec : ChangeSpec := { name := "routeTrims", fn := fun _ => fun
  | [d1, d2, d3] => { results := [.lit (.bool true)], args := [d1, d2, d3] }
  | _ => none }
def routeTrimsRow : OpenClaim := { program := "ytaphmhdgpdhpiaa", sum := "19e59f9852e7c5f0311851d6ca1dd63f0fbf089f41961b6efdb66b2d46c58882", func := "syllabary/syllabarylaw03.RouteTrims", spec := "routeTrims", inPlace := ["internal/abi.NoEscape"], unfollowed := true, recurses := true, apart := false }
def RouteTrimsSaid : Prop := routeTrimsRow.holds Try.pinned (OpenSpec.ofChange routeTrimsSpec)

/-- ITS FALSE NEIGHBOUR: 'it returns false'. Refute it at one input. -/
def routeTrimsWrong : ChangeSpec := { name := "routeTrims", fn := fun _ => fun
  | [d1, d2, d3] => { results := [.lit (.bool false)], args := [d1, d2, d3] }
  | _ => none }
def RouteTrimsWrongFalsely : Prop := routeTrimsRow.holds Try.pinned (OpenSpec.ofChange routeTrimsWrong)

/-- 'syllabarylaw03.RouteEnds': WHATEVER THE INPUT: true; the input reads as it did. -/
def routeEndsSpec : ChangeSpec := { name := "routeEnds", fn := fun _ => fun
  | [d1, d2, d3] => { results := [.lit (.bool true)], args := [d1, d2, d3] }
  | _ => none }
def routeEndsRow : OpenClaim := { program := "ytaphmhdgpdhpiaa", sum := "19e59f9852e7c5f0311851d6ca1dd63f0fbf089f41961b6efdb66b2d46c58882", func := "syllabary/syllabarylaw03.RouteEnds", spec := "routeEnds", inPlace := ["internal/abi.NoEscape"], unfollowed := true, recurses := true, apart := false }
def RouteEndsSaid : Prop := routeEndsRow.holds Try.pinned (OpenSpec.ofChange routeEndsSpec)

/-- ITS FALSE NEIGHBOUR: 'it returns false'. Refute it at one input. -/
def routeEndsWrong : ChangeSpec := { name := "routeEnds", fn := fun _ => fun
  | [d1, d2, d3] => { results := [.lit (.bool false)], args := [d1, d2, d3] }
  | _ => none }
def RouteEndsWrongFalsely : Prop := routeEndsRow.holds Try.pinned (OpenSpec.ofChange routeEndsWrong)

/-- 'syllabarylaw03.RouteGrows': WHATEVER THE INPUT: true; the input reads as it did. -/
def routeGrowsSpec : ChangeSpec := { name := "routeGrows", fn := fun _ => fun
  | [d1, d2, d3] => { results := [.lit (.bool true)], args := [d1, d2, d3] }
  | _ => none }
def routeGrowsRow : OpenClaim := { program := "ytaphmhdgpdhpiaa", sum := "19e59f9852e7c5f0311851d6ca1dd63f0fbf089f41961b6efdb66b2d46c58882", func := "syllabary/syllabarylaw03.RouteGrows", spec := "routeGrows", inPlace := ["internal/abi.NoEscape"], unfollowed := true, recurses := true, apart := false }
def RouteGrowsSaid : Prop := routeGrowsRow.holds Try.pinned (OpenSpec.ofChange routeGrowsSpec)

/-- ITS FALSE NEIGHBOUR: 'it returns false'. Refute it at one input. -/
def routeGrowsWrong : ChangeSpec := { name := "routeGrows", fn := fun _ => fun
  | [d1, d2, d3] => { results := [.lit (.bool false)], args := [d1, d2, d3] }
  | _ => none }
def RouteGrowsWrongFalsely : Prop := routeGrowsRow.holds Try.pinned (OpenSpec.ofChange routeGrowsWrong)

/-- 'syllabarylaw03.RouteRefuses': WHATEVER THE INPUT: true; the input reads as it did. -/
def routeRefusesSpec : ChangeSpec := { name := "routeRefuses", fn := fun _ => fun
  | [d1, d2, d3] => { results := [.lit (.bool true)], args := [d1, d2, d3] }
  | _ => none }
def routeRefusesRow : OpenClaim := { program := "ytaphmhdgpdhpiaa", sum := "19e59f9852e7c5f0311851d6ca1dd63f0fbf089f41961b6efdb66b2d46c58882", func := "syllabary/syllabarylaw03.RouteRefuses", spec := "routeRefuses", inPlace := ["internal/abi.NoEscape"], unfollowed := true, recurses := true, apart := false }
def RouteRefusesSaid : Prop := routeRefusesRow.holds Try.pinned (OpenSpec.ofChange routeRefusesSpec)

/-- ITS FALSE NEIGHBOUR: 'it returns false'. Refute it at one input. -/
def routeRefusesWrong : ChangeSpec := { name := "routeRefuses", fn := fun _ => fun
  | [d1, d2, d3] => { results := [.lit (.bool false)], args := [d1, d2, d3] }
  | _ => none }
def RouteRefusesWrongFalsely : Prop := routeRefusesRow.holds Try.pinned (OpenSpec.ofChange routeRefusesWrong)

/- THE SECOND FORM. 'bulk': how many values and letters a reading holds, each counted each time it is reached (what is shared counts as often as it is met; a slice's spare places count too). A statement '..UptoSaid' is the law's where the arguments, and the package variables that the reading takes, are together of bulk at most 1048576: NARROWER than '..Said'. Prove '..Said' where nothing that the law and all that it calls make is longer than what came in: it says more and counts as full. Else prove '..UptoSaid'. A law counts once. -/
mutual
def uptoBulk {H : Type} : DataW H → Nat
  | .lit (.string bytes) => bytes.length + 1
  | .lit _ => 1
  | .nil => 1
  | .ptr d => uptoBulk d + 1
  | .slice elems spare => uptoBulkAll elems + uptoBulkAll spare + 1
  | .agg parts => uptoBulkAll parts + 1
  | .iface _ d => uptoBulk d + 1
  | .map entries => uptoBulkEntries entries + 1
  | .held _ => 1
def uptoBulkAll {H : Type} : List (DataW H) → Nat
  | [] => 0
  | d :: r => uptoBulk d + uptoBulkAll r
def uptoBulkEntries {H : Type} : List (Lit × DataW H) → Nat
  | [] => 0
  | x :: r => uptoBulkEntry x + uptoBulkEntries r
def uptoBulkEntry {H : Type} : Lit × DataW H → Nat
  | (.string bytes, d) => bytes.length + uptoBulk d + 1
  | (_, d) => uptoBulk d + 1
 end
def uptoSmall : (H : Type) → List (DataW H) → Bool := fun _ ds => decide (uptoBulkAll ds ≤ 1048576)
def OpenSpec.upto (s : _root_.Go.ChangeSpec) : _root_.Go.OpenSpec := { _root_.Go.OpenSpec.ofChange s with cond := some uptoSmall }

/-- 'syllabarylaw03.RouteMatchesReference', WHERE WHAT IT READS IS OF BULK AT MOST 1048576: true; the input reads as it did. -/
def routeMatchesReferenceUptoRow : OpenClaim := { program := "ytaphmhdgpdhpiaa", sum := "19e59f9852e7c5f0311851d6ca1dd63f0fbf089f41961b6efdb66b2d46c58882", func := "syllabary/syllabarylaw03.RouteMatchesReference", spec := "routeMatchesReference", inPlace := ["internal/abi.NoEscape"], unfollowed := true, recurses := true, apart := false, narrowed := true }
def RouteMatchesReferenceUptoSaid : Prop := routeMatchesReferenceUptoRow.holds Try.pinned (OpenSpec.upto routeMatchesReferenceSpec)

/-- 'syllabarylaw03.RouteParts', WHERE WHAT IT READS IS OF BULK AT MOST 1048576: true; the input reads as it did. -/
def routePartsUptoRow : OpenClaim := { program := "ytaphmhdgpdhpiaa", sum := "19e59f9852e7c5f0311851d6ca1dd63f0fbf089f41961b6efdb66b2d46c58882", func := "syllabary/syllabarylaw03.RouteParts", spec := "routeParts", inPlace := ["internal/abi.NoEscape"], unfollowed := true, recurses := true, apart := false, narrowed := true }
def RoutePartsUptoSaid : Prop := routePartsUptoRow.holds Try.pinned (OpenSpec.upto routePartsSpec)

/-- 'syllabarylaw03.RouteModes', WHERE WHAT IT READS IS OF BULK AT MOST 1048576: true; the input reads as it did. -/
def routeModesUptoRow : OpenClaim := { program := "ytaphmhdgpdhpiaa", sum := "19e59f9852e7c5f0311851d6ca1dd63f0fbf089f41961b6efdb66b2d46c58882", func := "syllabary/syllabarylaw03.RouteModes", spec := "routeModes", inPlace := ["internal/abi.NoEscape"], unfollowed := true, recurses := true, apart := false, narrowed := true }
def RouteModesUptoSaid : Prop := routeModesUptoRow.holds Try.pinned (OpenSpec.upto routeModesSpec)

/-- 'syllabarylaw03.RouteTrims', WHERE WHAT IT READS IS OF BULK AT MOST 1048576: true; the input reads as it did. -/
def routeTrimsUptoRow : OpenClaim := { program := "ytaphmhdgpdhpiaa", sum := "19e59f9852e7c5f0311851d6ca1dd63f0fbf089f41961b6efdb66b2d46c58882", func := "syllabary/syllabarylaw03.RouteTrims", spec := "routeTrims", inPlace := ["internal/abi.NoEscape"], unfollowed := true, recurses := true, apart := false, narrowed := true }
def RouteTrimsUptoSaid : Prop := routeTrimsUptoRow.holds Try.pinned (OpenSpec.upto routeTrimsSpec)

/-- 'syllabarylaw03.RouteEnds', WHERE WHAT IT READS IS OF BULK AT MOST 1048576: true; the input reads as it did. -/
def routeEndsUptoRow : OpenClaim := { program := "ytaphmhdgpdhpiaa", sum := "19e59f9852e7c5f0311851d6ca1dd63f0fbf089f41961b6efdb66b2d46c58882", func := "syllabary/syllabarylaw03.RouteEnds", spec := "routeEnds", inPlace := ["internal/abi.NoEscape"], unfollowed := true, recurses := true, apart := false, narrowed := true }
def RouteEndsUptoSaid : Prop := routeEndsUptoRow.holds Try.pinned (OpenSpec.upto routeEndsSpec)

/-- 'syllabarylaw03.RouteGrows', WHERE WHAT IT READS IS OF BULK AT MOST 1048576: true; the input reads as it did. -/
def routeGrowsUptoRow : OpenClaim := { program := "ytaphmhdgpdhpiaa", sum := "19e59f9852e7c5f0311851d6ca1dd63f0fbf089f41961b6efdb66b2d46c58882", func := "syllabary/syllabarylaw03.RouteGrows", spec := "routeGrows", inPlace := ["internal/abi.NoEscape"], unfollowed := true, recurses := true, apart := false, narrowed := true }
def RouteGrowsUptoSaid : Prop := routeGrowsUptoRow.holds Try.pinned (OpenSpec.upto routeGrowsSpec)

/-- 'syllabarylaw03.RouteRefuses', WHERE WHAT IT READS IS OF BULK AT MOST 1048576: true; the input reads as it did. -/
def routeRefusesUptoRow : OpenClaim := { program := "ytaphmhdgpdhpiaa", sum := "19e59f9852e7c5f0311851d6ca1dd63f0fbf089f41961b6efdb66b2d46c58882", func := "syllabary/syllabarylaw03.RouteRefuses", spec := "routeRefuses", inPlace := ["internal/abi.NoEscape"], unfollowed := true, recurses := true, apart := false, narrowed := true }
def RouteRefusesUptoSaid : Prop := routeRefusesUptoRow.holds Try.pinned (OpenSpec.upto routeRefusesSpec)

end Rows
end Go.Proofs.Ytaphmhdgpdhpiaa
