/-
  No cell of these rows narrows 'for every input' (looked for: loops, veiled, ifaces, maps, wideKeys, modest, calm, conditions, laid).
  DERIVED. THE GIVEN ROWS OF THIS SEAT. 6 by the template 'for every input the law returns true; each argument reads behind the call as it read before'; 0 by the template 'total and deterministic' (their statements: YtefpgfdemmllpaaTotals.lean).
  GIVEN WITH THE SEED: the statements are not yours to turn. If you find one false, say at which input.
  Laid BY PROGRAM, IN A SANDBOX (cutbox-rows.mjs): the forced cells as the released guide's own fill.sh prints them over the translation fcbd88eff6e56ef0… (all of the seat's roots in one cut). By AI agents, Wed Nov 11 2026. No macro, syntax, notation, axiom, sorry.
-/
import Derived.Test.YtefpgfdemmllpaaChecked
import GoSem.Claim
import GoSem.ClaimJoined
import GoSem.ClaimMapViews
import Derived.JoinedTies
import Derived.KernelRfl
namespace Go.Proofs.Ytefpgfdemmllpaa
/- THE CELL 'sum', in the pinned program and in every row, IS THE sha256 OF THE DUMP (.gsa) THAT YtefpgfdemmllpaaProg.lean LOADS. Nothing in Lean hashes anything: it is a label: what it is worth is what the hold of that sum in a sandbox is worth. -/
noncomputable def Try.pinned : Pinned := { name := "ytefpgfdemmllpaa", sum := "fcbd88eff6e56ef0714deee7194d666195da15da2e270becad313047f449d7f3", checked := Try.checked }
namespace Rows
def none {H : Type} : Left H := { results := [], args := [] }

/-- 'syllabarylaw06.ReverseMatchesReference': WHATEVER THE INPUT: true; the input reads as it did. -/
def reverseMatchesReferenceSpec : ChangeSpec := { name := "reverseMatchesReference", fn := fun _ => fun
  | [d1, d2, d3] => { results := [.lit (.bool true)], args := [d1, d2, d3] }
  | _ => none }
def reverseMatchesReferenceRow : OpenClaim := { program := "ytefpgfdemmllpaa", sum := "fcbd88eff6e56ef0714deee7194d666195da15da2e270becad313047f449d7f3", func := "syllabary/syllabarylaw06.ReverseMatchesReference", spec := "reverseMatchesReference", unfollowed := true, recurses := true, plainKeys := false, apart := false }
def ReverseMatchesReferenceSaid : Prop := reverseMatchesReferenceRow.holds Try.pinned (OpenSpec.ofChange reverseMatchesReferenceSpec)

/-- ITS FALSE NEIGHBOUR: 'it returns false'. Refute it at one input. -/
def reverseMatchesReferenceWrong : ChangeSpec := { name := "reverseMatchesReference", fn := fun _ => fun
  | [d1, d2, d3] => { results := [.lit (.bool false)], args := [d1, d2, d3] }
  | _ => none }
def ReverseMatchesReferenceWrongFalsely : Prop := reverseMatchesReferenceRow.holds Try.pinned (OpenSpec.ofChange reverseMatchesReferenceWrong)

/-- 'syllabarylaw06.ReverseFinds': WHATEVER THE INPUT: true; the input reads as it did. -/
def reverseFindsSpec : ChangeSpec := { name := "reverseFinds", fn := fun _ => fun
  | [d1, d2] => { results := [.lit (.bool true)], args := [d1, d2] }
  | _ => none }
def reverseFindsRow : OpenClaim := { program := "ytefpgfdemmllpaa", sum := "fcbd88eff6e56ef0714deee7194d666195da15da2e270becad313047f449d7f3", func := "syllabary/syllabarylaw06.ReverseFinds", spec := "reverseFinds", unfollowed := true, recurses := true, plainKeys := false, apart := false }
def ReverseFindsSaid : Prop := reverseFindsRow.holds Try.pinned (OpenSpec.ofChange reverseFindsSpec)

/-- ITS FALSE NEIGHBOUR: 'it returns false'. Refute it at one input. -/
def reverseFindsWrong : ChangeSpec := { name := "reverseFinds", fn := fun _ => fun
  | [d1, d2] => { results := [.lit (.bool false)], args := [d1, d2] }
  | _ => none }
def ReverseFindsWrongFalsely : Prop := reverseFindsRow.holds Try.pinned (OpenSpec.ofChange reverseFindsWrong)

/-- 'syllabarylaw06.ReverseBegins': WHATEVER THE INPUT: true; the input reads as it did. -/
def reverseBeginsSpec : ChangeSpec := { name := "reverseBegins", fn := fun _ => fun
  | [d1, d2, d3] => { results := [.lit (.bool true)], args := [d1, d2, d3] }
  | _ => none }
def reverseBeginsRow : OpenClaim := { program := "ytefpgfdemmllpaa", sum := "fcbd88eff6e56ef0714deee7194d666195da15da2e270becad313047f449d7f3", func := "syllabary/syllabarylaw06.ReverseBegins", spec := "reverseBegins", unfollowed := true, recurses := true, plainKeys := false, apart := false }
def ReverseBeginsSaid : Prop := reverseBeginsRow.holds Try.pinned (OpenSpec.ofChange reverseBeginsSpec)

/-- ITS FALSE NEIGHBOUR: 'it returns false'. Refute it at one input. -/
def reverseBeginsWrong : ChangeSpec := { name := "reverseBegins", fn := fun _ => fun
  | [d1, d2, d3] => { results := [.lit (.bool false)], args := [d1, d2, d3] }
  | _ => none }
def ReverseBeginsWrongFalsely : Prop := reverseBeginsRow.holds Try.pinned (OpenSpec.ofChange reverseBeginsWrong)

/-- 'syllabarylaw06.ReverseGrows': WHATEVER THE INPUT: true; the input reads as it did. -/
def reverseGrowsSpec : ChangeSpec := { name := "reverseGrows", fn := fun _ => fun
  | [d1, d2, d3] => { results := [.lit (.bool true)], args := [d1, d2, d3] }
  | _ => none }
def reverseGrowsRow : OpenClaim := { program := "ytefpgfdemmllpaa", sum := "fcbd88eff6e56ef0714deee7194d666195da15da2e270becad313047f449d7f3", func := "syllabary/syllabarylaw06.ReverseGrows", spec := "reverseGrows", unfollowed := true, recurses := true, plainKeys := false, apart := false }
def ReverseGrowsSaid : Prop := reverseGrowsRow.holds Try.pinned (OpenSpec.ofChange reverseGrowsSpec)

/-- ITS FALSE NEIGHBOUR: 'it returns false'. Refute it at one input. -/
def reverseGrowsWrong : ChangeSpec := { name := "reverseGrows", fn := fun _ => fun
  | [d1, d2, d3] => { results := [.lit (.bool false)], args := [d1, d2, d3] }
  | _ => none }
def ReverseGrowsWrongFalsely : Prop := reverseGrowsRow.holds Try.pinned (OpenSpec.ofChange reverseGrowsWrong)

/-- 'syllabarylaw06.ReverseRefuses': WHATEVER THE INPUT: true; the input reads as it did. -/
def reverseRefusesSpec : ChangeSpec := { name := "reverseRefuses", fn := fun _ => fun
  | [d1, d2, d3] => { results := [.lit (.bool true)], args := [d1, d2, d3] }
  | _ => none }
def reverseRefusesRow : OpenClaim := { program := "ytefpgfdemmllpaa", sum := "fcbd88eff6e56ef0714deee7194d666195da15da2e270becad313047f449d7f3", func := "syllabary/syllabarylaw06.ReverseRefuses", spec := "reverseRefuses", unfollowed := true, recurses := true, plainKeys := false, apart := false }
def ReverseRefusesSaid : Prop := reverseRefusesRow.holds Try.pinned (OpenSpec.ofChange reverseRefusesSpec)

/-- ITS FALSE NEIGHBOUR: 'it returns false'. Refute it at one input. -/
def reverseRefusesWrong : ChangeSpec := { name := "reverseRefuses", fn := fun _ => fun
  | [d1, d2, d3] => { results := [.lit (.bool false)], args := [d1, d2, d3] }
  | _ => none }
def ReverseRefusesWrongFalsely : Prop := reverseRefusesRow.holds Try.pinned (OpenSpec.ofChange reverseRefusesWrong)

/-- 'syllabarylaw06.ReverseRuns': WHATEVER THE INPUT: true; the input reads as it did. -/
def reverseRunsSpec : ChangeSpec := { name := "reverseRuns", fn := fun _ => fun
  | [d1, d2] => { results := [.lit (.bool true)], args := [d1, d2] }
  | _ => none }
def reverseRunsRow : OpenClaim := { program := "ytefpgfdemmllpaa", sum := "fcbd88eff6e56ef0714deee7194d666195da15da2e270becad313047f449d7f3", func := "syllabary/syllabarylaw06.ReverseRuns", spec := "reverseRuns", inPlace := ["internal/abi.NoEscape"], unfollowed := true, recurses := true, plainKeys := false, apart := false }
def ReverseRunsSaid : Prop := reverseRunsRow.holds Try.pinned (OpenSpec.ofChange reverseRunsSpec)

/-- ITS FALSE NEIGHBOUR: 'it returns false'. Refute it at one input. -/
def reverseRunsWrong : ChangeSpec := { name := "reverseRuns", fn := fun _ => fun
  | [d1, d2] => { results := [.lit (.bool false)], args := [d1, d2] }
  | _ => none }
def ReverseRunsWrongFalsely : Prop := reverseRunsRow.holds Try.pinned (OpenSpec.ofChange reverseRunsWrong)

/- THE SECOND FORM. 'bulk': how many values and letters a reading holds, each counted each time it is reached (what is shared counts as often as it is met; a slice's spare places count too). A statement '..UptoSaid' is the law's where the arguments, and the package variables that the reading takes, are together of bulk at most 1048576: NARROWER than '..Said'. Prove '..Said' where nothing that the law and all that it calls make is longer than what came in: it says more and counts as full. Else prove '..UptoSaid'. A law counts once. -/
mutual
def uptoBulk {H : Type} : DataW H → Nat
  | .lit (.string bytes) => bytes.length + 1
  | .lit _ => 1
  | .nil => 1
  | .ptr d => uptoBulk d + 1
  | .slice elems spare => uptoBulkAll elems + uptoBulkAll spare + 1
  | .agg parts => uptoBulkAll parts + 1
  | .iface _ d => uptoBulk d + 1
  | .map entries => uptoBulkEntries entries + 1
  | .held _ => 1
def uptoBulkAll {H : Type} : List (DataW H) → Nat
  | [] => 0
  | d :: r => uptoBulk d + uptoBulkAll r
def uptoBulkEntries {H : Type} : List (Lit × DataW H) → Nat
  | [] => 0
  | x :: r => uptoBulkEntry x + uptoBulkEntries r
def uptoBulkEntry {H : Type} : Lit × DataW H → Nat
  | (.string bytes, d) => bytes.length + uptoBulk d + 1
  | (_, d) => uptoBulk d + 1
 end
def uptoSmall : (H : Type) → List (DataW H) → Bool := fun _ ds => decide (uptoBulkAll ds ≤ 1048576)
def OpenSpec.upto (s : _root_.Go.ChangeSpec) : _root_.Go.OpenSpec := { _root_.Go.OpenSpec.ofChange s with cond := some uptoSmall }

/-- 'syllabarylaw06.ReverseMatchesReference', WHERE WHAT IT READS IS OF BULK AT MOST 1048576: true; the input reads as it did. -/
def reverseMatchesReferenceUptoRow : OpenClaim := { program := "ytefpgfdemmllpaa", sum := "fcbd88eff6e56ef0714deee7194d666195da15da2e270becad313047f449d7f3", func := "syllabary/syllabarylaw06.ReverseMatchesReference", spec := "reverseMatchesReference", unfollowed := true, recurses := true, plainKeys := false, apart := false, narrowed := true }
def ReverseMatchesReferenceUptoSaid : Prop := reverseMatchesReferenceUptoRow.holds Try.pinned (OpenSpec.upto reverseMatchesReferenceSpec)

/-- 'syllabarylaw06.ReverseFinds', WHERE WHAT IT READS IS OF BULK AT MOST 1048576: true; the input reads as it did. -/
def reverseFindsUptoRow : OpenClaim := { program := "ytefpgfdemmllpaa", sum := "fcbd88eff6e56ef0714deee7194d666195da15da2e270becad313047f449d7f3", func := "syllabary/syllabarylaw06.ReverseFinds", spec := "reverseFinds", unfollowed := true, recurses := true, plainKeys := false, apart := false, narrowed := true }
def ReverseFindsUptoSaid : Prop := reverseFindsUptoRow.holds Try.pinned (OpenSpec.upto reverseFindsSpec)

/-- 'syllabarylaw06.ReverseBegins', WHERE WHAT IT READS IS OF BULK AT MOST 1048576: true; the input reads as it did. -/
def reverseBeginsUptoRow : OpenClaim := { program := "ytefpgfdemmllpaa", sum := "fcbd88eff6e56ef0714deee7194d666195da15da2e270becad313047f449d7f3", func := "syllabary/syllabarylaw06.ReverseBegins", spec := "reverseBegins", unfollowed := true, recurses := true, plainKeys := false, apart := false, narrowed := true }
def ReverseBeginsUptoSaid : Prop := reverseBeginsUptoRow.holds Try.pinned (OpenSpec.upto reverseBeginsSpec)

/-- 'syllabarylaw06.ReverseGrows', WHERE WHAT IT READS IS OF BULK AT MOST 1048576: true; the input reads as it did. -/
def reverseGrowsUptoRow : OpenClaim := { program := "ytefpgfdemmllpaa", sum := "fcbd88eff6e56ef0714deee7194d666195da15da2e270becad313047f449d7f3", func := "syllabary/syllabarylaw06.ReverseGrows", spec := "reverseGrows", unfollowed := true, recurses := true, plainKeys := false, apart := false, narrowed := true }
def ReverseGrowsUptoSaid : Prop := reverseGrowsUptoRow.holds Try.pinned (OpenSpec.upto reverseGrowsSpec)

/-- 'syllabarylaw06.ReverseRefuses', WHERE WHAT IT READS IS OF BULK AT MOST 1048576: true; the input reads as it did. -/
def reverseRefusesUptoRow : OpenClaim := { program := "ytefpgfdemmllpaa", sum := "fcbd88eff6e56ef0714deee7194d666195da15da2e270becad313047f449d7f3", func := "syllabary/syllabarylaw06.ReverseRefuses", spec := "reverseRefuses", unfollowed := true, recurses := true, plainKeys := false, apart := false, narrowed := true }
def ReverseRefusesUptoSaid : Prop := reverseRefusesUptoRow.holds Try.pinned (OpenSpec.upto reverseRefusesSpec)

/-- 'syllabarylaw06.ReverseRuns', WHERE WHAT IT READS IS OF BULK AT MOST 1048576: true; the input reads as it did. -/
def reverseRunsUptoRow : OpenClaim := { program := "ytefpgfdemmllpaa", sum := "fcbd88eff6e56ef0714deee7194d666195da15da2e270becad313047f449d7f3", func := "syllabary/syllabarylaw06.ReverseRuns", spec := "reverseRuns", inPlace := ["internal/abi.NoEscape"], unfollowed := true, recurses := true, plainKeys := false, apart := false, narrowed := true }
def ReverseRunsUptoSaid : Prop := reverseRunsUptoRow.holds Try.pinned (OpenSpec.upto reverseRunsSpec)

end Rows
end Go.Proofs.Ytefpgfdemmllpaa
