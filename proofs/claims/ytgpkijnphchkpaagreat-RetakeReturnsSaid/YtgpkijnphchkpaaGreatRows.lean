/-
  No cell of these rows narrows 'for every input' (looked for: loops, veiled, ifaces, maps, wideKeys, modest, calm, conditions, laid).
  DERIVED. THE GIVEN ROWS OF THIS SEAT. 6 by the template 'for every input the law returns true; each argument reads behind the call as it read before'; 0 by the template 'total and deterministic' (their statements: YtgpkijnphchkpaaGreatTotals.lean).
  GIVEN WITH THE SEED: the statements are not yours to turn. If you find one false, say at which input.
  Laid BY PROGRAM, IN A SANDBOX (cutbox-rows.mjs): the forced cells as the released guide's own fill.sh prints them over the translation cc6f77d2df74b73f… (all of the seat's roots in one cut). By AI agents, Wed Nov 11 2026. No macro, syntax, notation, axiom, sorry.
-/
import Derived.Test.YtgpkijnphchkpaaGreatChecked
import GoSem.Claim
import GoSem.ClaimJoined
import GoSem.ClaimMapViews
import Derived.JoinedTies
import Derived.KernelRfl
namespace Go.Proofs.YtgpkijnphchkpaaGreat
/- THE CELL 'sum', in the pinned program and in every row, IS THE sha256 OF THE DUMP (.gsa) THAT YtgpkijnphchkpaaGreatProg.lean LOADS. Nothing in Lean hashes anything: it is a label: what it is worth is what the hold of that sum in a sandbox is worth. -/
noncomputable def Tryz.pinned : Pinned := { name := "ytgpkijnphchkpaagreat", sum := "cc6f77d2df74b73ff0a1c28f05c76984c1dd09a80cee5b33c7002252f70ab5ec", checked := Tryz.checked }
namespace Rows
def none {H : Type} : Left H := { results := [], args := [] }

/-- 'syllabarylaw33.RetakeMatchesReference': WHATEVER THE INPUT: true; the input reads as it did. -/
def retakeMatchesReferenceSpec : ChangeSpec := { name := "retakeMatchesReference", fn := fun _ => fun
  | [d1, d2, d3] => { results := [.lit (.bool true)], args := [d1, d2, d3] }
  | _ => none }
def retakeMatchesReferenceRow : OpenClaim := { program := "ytgpkijnphchkpaagreat", sum := "cc6f77d2df74b73ff0a1c28f05c76984c1dd09a80cee5b33c7002252f70ab5ec", func := "syllabary/syllabarylaw33.RetakeMatchesReference", spec := "retakeMatchesReference", unfollowed := true, recurses := true, plainKeys := false, apart := false }
def RetakeMatchesReferenceSaid : Prop := retakeMatchesReferenceRow.holds Tryz.pinned (OpenSpec.ofChange retakeMatchesReferenceSpec)

/-- ITS FALSE NEIGHBOUR: 'it returns false'. Refute it at one input. -/
def retakeMatchesReferenceWrong : ChangeSpec := { name := "retakeMatchesReference", fn := fun _ => fun
  | [d1, d2, d3] => { results := [.lit (.bool false)], args := [d1, d2, d3] }
  | _ => none }
def RetakeMatchesReferenceWrongFalsely : Prop := retakeMatchesReferenceRow.holds Tryz.pinned (OpenSpec.ofChange retakeMatchesReferenceWrong)

/-- 'syllabarylaw33.RetakeSegments': WHATEVER THE INPUT: true; the input reads as it did. -/
def retakeSegmentsSpec : ChangeSpec := { name := "retakeSegments", fn := fun _ => fun
  | [d1, d2] => { results := [.lit (.bool true)], args := [d1, d2] }
  | _ => none }
def retakeSegmentsRow : OpenClaim := { program := "ytgpkijnphchkpaagreat", sum := "cc6f77d2df74b73ff0a1c28f05c76984c1dd09a80cee5b33c7002252f70ab5ec", func := "syllabary/syllabarylaw33.RetakeSegments", spec := "retakeSegments", unfollowed := true, recurses := true, plainKeys := false, apart := false }
def RetakeSegmentsSaid : Prop := retakeSegmentsRow.holds Tryz.pinned (OpenSpec.ofChange retakeSegmentsSpec)

/-- ITS FALSE NEIGHBOUR: 'it returns false'. Refute it at one input. -/
def retakeSegmentsWrong : ChangeSpec := { name := "retakeSegments", fn := fun _ => fun
  | [d1, d2] => { results := [.lit (.bool false)], args := [d1, d2] }
  | _ => none }
def RetakeSegmentsWrongFalsely : Prop := retakeSegmentsRow.holds Tryz.pinned (OpenSpec.ofChange retakeSegmentsWrong)

/-- 'syllabarylaw33.RetakeParts': WHATEVER THE INPUT: true; the input reads as it did. -/
def retakePartsSpec : ChangeSpec := { name := "retakeParts", fn := fun _ => fun
  | [d1, d2, d3] => { results := [.lit (.bool true)], args := [d1, d2, d3] }
  | _ => none }
def retakePartsRow : OpenClaim := { program := "ytgpkijnphchkpaagreat", sum := "cc6f77d2df74b73ff0a1c28f05c76984c1dd09a80cee5b33c7002252f70ab5ec", func := "syllabary/syllabarylaw33.RetakeParts", spec := "retakeParts", unfollowed := true, recurses := true, plainKeys := false, apart := false }
def RetakePartsSaid : Prop := retakePartsRow.holds Tryz.pinned (OpenSpec.ofChange retakePartsSpec)

/-- ITS FALSE NEIGHBOUR: 'it returns false'. Refute it at one input. -/
def retakePartsWrong : ChangeSpec := { name := "retakeParts", fn := fun _ => fun
  | [d1, d2, d3] => { results := [.lit (.bool false)], args := [d1, d2, d3] }
  | _ => none }
def RetakePartsWrongFalsely : Prop := retakePartsRow.holds Tryz.pinned (OpenSpec.ofChange retakePartsWrong)

/-- 'syllabarylaw33.RetakeWithdraws': WHATEVER THE INPUT: true; the input reads as it did. -/
def retakeWithdrawsSpec : ChangeSpec := { name := "retakeWithdraws", fn := fun _ => fun
  | [d1, d2, d3] => { results := [.lit (.bool true)], args := [d1, d2, d3] }
  | _ => none }
def retakeWithdrawsRow : OpenClaim := { program := "ytgpkijnphchkpaagreat", sum := "cc6f77d2df74b73ff0a1c28f05c76984c1dd09a80cee5b33c7002252f70ab5ec", func := "syllabary/syllabarylaw33.RetakeWithdraws", spec := "retakeWithdraws", unfollowed := true, recurses := true, plainKeys := false, apart := false }
def RetakeWithdrawsSaid : Prop := retakeWithdrawsRow.holds Tryz.pinned (OpenSpec.ofChange retakeWithdrawsSpec)

/-- ITS FALSE NEIGHBOUR: 'it returns false'. Refute it at one input. -/
def retakeWithdrawsWrong : ChangeSpec := { name := "retakeWithdraws", fn := fun _ => fun
  | [d1, d2, d3] => { results := [.lit (.bool false)], args := [d1, d2, d3] }
  | _ => none }
def RetakeWithdrawsWrongFalsely : Prop := retakeWithdrawsRow.holds Tryz.pinned (OpenSpec.ofChange retakeWithdrawsWrong)

/-- 'syllabarylaw33.RetakeRefuses': WHATEVER THE INPUT: true; the input reads as it did. -/
def retakeRefusesSpec : ChangeSpec := { name := "retakeRefuses", fn := fun _ => fun
  | [d1, d2, d3] => { results := [.lit (.bool true)], args := [d1, d2, d3] }
  | _ => none }
def retakeRefusesRow : OpenClaim := { program := "ytgpkijnphchkpaagreat", sum := "cc6f77d2df74b73ff0a1c28f05c76984c1dd09a80cee5b33c7002252f70ab5ec", func := "syllabary/syllabarylaw33.RetakeRefuses", spec := "retakeRefuses", unfollowed := true, recurses := true, plainKeys := false, apart := false }
def RetakeRefusesSaid : Prop := retakeRefusesRow.holds Tryz.pinned (OpenSpec.ofChange retakeRefusesSpec)

/-- ITS FALSE NEIGHBOUR: 'it returns false'. Refute it at one input. -/
def retakeRefusesWrong : ChangeSpec := { name := "retakeRefuses", fn := fun _ => fun
  | [d1, d2, d3] => { results := [.lit (.bool false)], args := [d1, d2, d3] }
  | _ => none }
def RetakeRefusesWrongFalsely : Prop := retakeRefusesRow.holds Tryz.pinned (OpenSpec.ofChange retakeRefusesWrong)

/-- 'syllabarylaw33.RetakeReturns': WHATEVER THE INPUT: true; the input reads as it did. -/
def retakeReturnsSpec : ChangeSpec := { name := "retakeReturns", fn := fun _ => fun
  | [d1, d2] => { results := [.lit (.bool true)], args := [d1, d2] }
  | _ => none }
def retakeReturnsRow : OpenClaim := { program := "ytgpkijnphchkpaagreat", sum := "cc6f77d2df74b73ff0a1c28f05c76984c1dd09a80cee5b33c7002252f70ab5ec", func := "syllabary/syllabarylaw33.RetakeReturns", spec := "retakeReturns", unfollowed := true, recurses := true, plainKeys := false, apart := false }
def RetakeReturnsSaid : Prop := retakeReturnsRow.holds Tryz.pinned (OpenSpec.ofChange retakeReturnsSpec)

/-- ITS FALSE NEIGHBOUR: 'it returns false'. Refute it at one input. -/
def retakeReturnsWrong : ChangeSpec := { name := "retakeReturns", fn := fun _ => fun
  | [d1, d2] => { results := [.lit (.bool false)], args := [d1, d2] }
  | _ => none }
def RetakeReturnsWrongFalsely : Prop := retakeReturnsRow.holds Tryz.pinned (OpenSpec.ofChange retakeReturnsWrong)

/- THE SECOND FORM. 'bulk': how many values and letters a reading holds, each counted each time it is reached (what is shared counts as often as it is met; a slice's spare places count too). A statement '..UptoSaid' is the law's where the arguments, and the package variables that the reading takes, are together of bulk at most 1048576: NARROWER than '..Said'. Prove '..Said' where nothing that the law and all that it calls make is longer than what came in: it says more and counts as full. Else prove '..UptoSaid'. A law counts once. -/
mutual
def uptoBulk {H : Type} : DataW H → Nat
  | .lit (.string bytes) => bytes.length + 1
  | .lit _ => 1
  | .nil => 1
  | .ptr d => uptoBulk d + 1
  | .slice elems spare => uptoBulkAll elems + uptoBulkAll spare + 1
  | .agg parts => uptoBulkAll parts + 1
  | .iface _ d => uptoBulk d + 1
  | .map entries => uptoBulkEntries entries + 1
  | .held _ => 1
def uptoBulkAll {H : Type} : List (DataW H) → Nat
  | [] => 0
  | d :: r => uptoBulk d + uptoBulkAll r
def uptoBulkEntries {H : Type} : List (Lit × DataW H) → Nat
  | [] => 0
  | x :: r => uptoBulkEntry x + uptoBulkEntries r
def uptoBulkEntry {H : Type} : Lit × DataW H → Nat
  | (.string bytes, d) => bytes.length + uptoBulk d + 1
  | (_, d) => uptoBulk d + 1
 end
def uptoSmall : (H : Type) → List (DataW H) → Bool := fun _ ds => decide (uptoBulkAll ds ≤ 1048576)
def OpenSpec.upto (s : _root_.Go.ChangeSpec) : _root_.Go.OpenSpec := { _root_.Go.OpenSpec.ofChange s with cond := some uptoSmall }

/-- 'syllabarylaw33.RetakeMatchesReference', WHERE WHAT IT READS IS OF BULK AT MOST 1048576: true; the input reads as it did. -/
def retakeMatchesReferenceUptoRow : OpenClaim := { program := "ytgpkijnphchkpaagreat", sum := "cc6f77d2df74b73ff0a1c28f05c76984c1dd09a80cee5b33c7002252f70ab5ec", func := "syllabary/syllabarylaw33.RetakeMatchesReference", spec := "retakeMatchesReference", unfollowed := true, recurses := true, plainKeys := false, apart := false, narrowed := true }
def RetakeMatchesReferenceUptoSaid : Prop := retakeMatchesReferenceUptoRow.holds Tryz.pinned (OpenSpec.upto retakeMatchesReferenceSpec)

/-- 'syllabarylaw33.RetakeSegments', WHERE WHAT IT READS IS OF BULK AT MOST 1048576: true; the input reads as it did. -/
def retakeSegmentsUptoRow : OpenClaim := { program := "ytgpkijnphchkpaagreat", sum := "cc6f77d2df74b73ff0a1c28f05c76984c1dd09a80cee5b33c7002252f70ab5ec", func := "syllabary/syllabarylaw33.RetakeSegments", spec := "retakeSegments", unfollowed := true, recurses := true, plainKeys := false, apart := false, narrowed := true }
def RetakeSegmentsUptoSaid : Prop := retakeSegmentsUptoRow.holds Tryz.pinned (OpenSpec.upto retakeSegmentsSpec)

/-- 'syllabarylaw33.RetakeParts', WHERE WHAT IT READS IS OF BULK AT MOST 1048576: true; the input reads as it did. -/
def retakePartsUptoRow : OpenClaim := { program := "ytgpkijnphchkpaagreat", sum := "cc6f77d2df74b73ff0a1c28f05c76984c1dd09a80cee5b33c7002252f70ab5ec", func := "syllabary/syllabarylaw33.RetakeParts", spec := "retakeParts", unfollowed := true, recurses := true, plainKeys := false, apart := false, narrowed := true }
def RetakePartsUptoSaid : Prop := retakePartsUptoRow.holds Tryz.pinned (OpenSpec.upto retakePartsSpec)

/-- 'syllabarylaw33.RetakeWithdraws', WHERE WHAT IT READS IS OF BULK AT MOST 1048576: true; the input reads as it did. -/
def retakeWithdrawsUptoRow : OpenClaim := { program := "ytgpkijnphchkpaagreat", sum := "cc6f77d2df74b73ff0a1c28f05c76984c1dd09a80cee5b33c7002252f70ab5ec", func := "syllabary/syllabarylaw33.RetakeWithdraws", spec := "retakeWithdraws", unfollowed := true, recurses := true, plainKeys := false, apart := false, narrowed := true }
def RetakeWithdrawsUptoSaid : Prop := retakeWithdrawsUptoRow.holds Tryz.pinned (OpenSpec.upto retakeWithdrawsSpec)

/-- 'syllabarylaw33.RetakeRefuses', WHERE WHAT IT READS IS OF BULK AT MOST 1048576: true; the input reads as it did. -/
def retakeRefusesUptoRow : OpenClaim := { program := "ytgpkijnphchkpaagreat", sum := "cc6f77d2df74b73ff0a1c28f05c76984c1dd09a80cee5b33c7002252f70ab5ec", func := "syllabary/syllabarylaw33.RetakeRefuses", spec := "retakeRefuses", unfollowed := true, recurses := true, plainKeys := false, apart := false, narrowed := true }
def RetakeRefusesUptoSaid : Prop := retakeRefusesUptoRow.holds Tryz.pinned (OpenSpec.upto retakeRefusesSpec)

/-- 'syllabarylaw33.RetakeReturns', WHERE WHAT IT READS IS OF BULK AT MOST 1048576: true; the input reads as it did. -/
def retakeReturnsUptoRow : OpenClaim := { program := "ytgpkijnphchkpaagreat", sum := "cc6f77d2df74b73ff0a1c28f05c76984c1dd09a80cee5b33c7002252f70ab5ec", func := "syllabary/syllabarylaw33.RetakeReturns", spec := "retakeReturns", unfollowed := true, recurses := true, plainKeys := false, apart := false, narrowed := true }
def RetakeReturnsUptoSaid : Prop := retakeReturnsUptoRow.holds Tryz.pinned (OpenSpec.upto retakeReturnsSpec)

end Rows
end Go.Proofs.YtgpkijnphchkpaaGreat
