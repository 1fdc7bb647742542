/-
  No cell of these rows narrows 'for every input' (looked for: loops, veiled, ifaces, maps, wideKeys, modest, calm, conditions, laid).
  DERIVED. THE GIVEN ROWS OF THIS SEAT. 7 by the template 'for every input the law returns true; each argument reads behind the call as it read before'; 0 by the template 'total and deterministic' (their statements: YtnncphnpajkojaaTotals.lean).
  GIVEN WITH THE SEED: the statements are not yours to turn. If you find one false, say at which input.
  Laid BY PROGRAM, IN A SANDBOX (cutbox-rows.mjs): the forced cells as the released guide's own fill.sh prints them over the translation fa3570fab2f3d482… (all of the seat's roots in one cut). By AI agents, Wed Nov 11 2026. No macro, syntax, notation, axiom, sorry.
-/
import Derived.Test.YtnncphnpajkojaaChecked
import GoSem.Claim
import GoSem.ClaimJoined
import GoSem.ClaimMapViews
import Derived.JoinedTies
import Derived.KernelRfl
namespace Go.Proofs.Ytnncphnpajkojaa
/- THE CELL 'sum', in the pinned program and in every row, IS THE sha256 OF THE DUMP (.gsa) THAT YtnncphnpajkojaaProg.lean LOADS. Nothing in Lean hashes anything: it is a label: what it is worth is what the hold of that sum in a sandbox is worth. -/
noncomputable def Try.pinned : Pinned := { name := "ytnncphnpajkojaa", sum := "fa3570fab2f3d4821e8bec87af517055d902c1bdc2ff9df920f858a904b8807e", checked := Try.checked }
namespace Rows
def none {H : Type} : Left H := { results := [], args := [] }

/-- 'syllabarylaw24.LearnMatchesReference': WHATEVER THE INPUT: true; the input reads as it did. -/
def learnMatchesReferenceSpec : ChangeSpec := { name := "learnMatchesReference", fn := fun _ => fun
  | [d1, d2] => { results := [.lit (.bool true)], args := [d1, d2] }
  | _ => none }
def learnMatchesReferenceRow : OpenClaim := { program := "ytnncphnpajkojaa", sum := "fa3570fab2f3d4821e8bec87af517055d902c1bdc2ff9df920f858a904b8807e", func := "syllabary/syllabarylaw24.LearnMatchesReference", spec := "learnMatchesReference", unfollowed := true, recurses := true, apart := false }
def LearnMatchesReferenceSaid : Prop := learnMatchesReferenceRow.holds Try.pinned (OpenSpec.ofChange learnMatchesReferenceSpec)

/-- ITS FALSE NEIGHBOUR: 'it returns false'. Refute it at one input. -/
def learnMatchesReferenceWrong : ChangeSpec := { name := "learnMatchesReference", fn := fun _ => fun
  | [d1, d2] => { results := [.lit (.bool false)], args := [d1, d2] }
  | _ => none }
def LearnMatchesReferenceWrongFalsely : Prop := learnMatchesReferenceRow.holds Try.pinned (OpenSpec.ofChange learnMatchesReferenceWrong)

/-- 'syllabarylaw24.LearnRefuses': WHATEVER THE INPUT: true; the input reads as it did. -/
def learnRefusesSpec : ChangeSpec := { name := "learnRefuses", fn := fun _ => fun
  | [d1, d2, d3] => { results := [.lit (.bool true)], args := [d1, d2, d3] }
  | _ => none }
def learnRefusesRow : OpenClaim := { program := "ytnncphnpajkojaa", sum := "fa3570fab2f3d4821e8bec87af517055d902c1bdc2ff9df920f858a904b8807e", func := "syllabary/syllabarylaw24.LearnRefuses", spec := "learnRefuses", unfollowed := true, recurses := true, apart := false }
def LearnRefusesSaid : Prop := learnRefusesRow.holds Try.pinned (OpenSpec.ofChange learnRefusesSpec)

/-- ITS FALSE NEIGHBOUR: 'it returns false'. Refute it at one input. -/
def learnRefusesWrong : ChangeSpec := { name := "learnRefuses", fn := fun _ => fun
  | [d1, d2, d3] => { results := [.lit (.bool false)], args := [d1, d2, d3] }
  | _ => none }
def LearnRefusesWrongFalsely : Prop := learnRefusesRow.holds Try.pinned (OpenSpec.ofChange learnRefusesWrong)

/-- 'syllabarylaw24.LearnForgets': WHATEVER THE INPUT: true; the input reads as it did. -/
def learnForgetsSpec : ChangeSpec := { name := "learnForgets", fn := fun _ => fun
  | [d] => { results := [.lit (.bool true)], args := [d] }
  | _ => none }
def learnForgetsRow : OpenClaim := { program := "ytnncphnpajkojaa", sum := "fa3570fab2f3d4821e8bec87af517055d902c1bdc2ff9df920f858a904b8807e", func := "syllabary/syllabarylaw24.LearnForgets", spec := "learnForgets", unfollowed := true, recurses := true, apart := false }
def LearnForgetsSaid : Prop := learnForgetsRow.holds Try.pinned (OpenSpec.ofChange learnForgetsSpec)

/-- ITS FALSE NEIGHBOUR: 'it returns false'. Refute it at one input. -/
def learnForgetsWrong : ChangeSpec := { name := "learnForgets", fn := fun _ => fun
  | [d] => { results := [.lit (.bool false)], args := [d] }
  | _ => none }
def LearnForgetsWrongFalsely : Prop := learnForgetsRow.holds Try.pinned (OpenSpec.ofChange learnForgetsWrong)

/-- 'syllabarylaw24.LearnNumbers': WHATEVER THE INPUT: true; the input reads as it did. -/
def learnNumbersSpec : ChangeSpec := { name := "learnNumbers", fn := fun _ => fun
  | [d] => { results := [.lit (.bool true)], args := [d] }
  | _ => none }
def learnNumbersRow : OpenClaim := { program := "ytnncphnpajkojaa", sum := "fa3570fab2f3d4821e8bec87af517055d902c1bdc2ff9df920f858a904b8807e", func := "syllabary/syllabarylaw24.LearnNumbers", spec := "learnNumbers", unfollowed := true, recurses := true, apart := false }
def LearnNumbersSaid : Prop := learnNumbersRow.holds Try.pinned (OpenSpec.ofChange learnNumbersSpec)

/-- ITS FALSE NEIGHBOUR: 'it returns false'. Refute it at one input. -/
def learnNumbersWrong : ChangeSpec := { name := "learnNumbers", fn := fun _ => fun
  | [d] => { results := [.lit (.bool false)], args := [d] }
  | _ => none }
def LearnNumbersWrongFalsely : Prop := learnNumbersRow.holds Try.pinned (OpenSpec.ofChange learnNumbersWrong)

/-- 'syllabarylaw24.LearnCounts': WHATEVER THE INPUT: true; the input reads as it did. -/
def learnCountsSpec : ChangeSpec := { name := "learnCounts", fn := fun _ => fun
  | [d1, d2, d3] => { results := [.lit (.bool true)], args := [d1, d2, d3] }
  | _ => none }
def learnCountsRow : OpenClaim := { program := "ytnncphnpajkojaa", sum := "fa3570fab2f3d4821e8bec87af517055d902c1bdc2ff9df920f858a904b8807e", func := "syllabary/syllabarylaw24.LearnCounts", spec := "learnCounts", unfollowed := true, recurses := true, apart := false }
def LearnCountsSaid : Prop := learnCountsRow.holds Try.pinned (OpenSpec.ofChange learnCountsSpec)

/-- ITS FALSE NEIGHBOUR: 'it returns false'. Refute it at one input. -/
def learnCountsWrong : ChangeSpec := { name := "learnCounts", fn := fun _ => fun
  | [d1, d2, d3] => { results := [.lit (.bool false)], args := [d1, d2, d3] }
  | _ => none }
def LearnCountsWrongFalsely : Prop := learnCountsRow.holds Try.pinned (OpenSpec.ofChange learnCountsWrong)

/-- 'syllabarylaw24.LearnOthers': WHATEVER THE INPUT: true; the input reads as it did. -/
def learnOthersSpec : ChangeSpec := { name := "learnOthers", fn := fun _ => fun
  | [d1, d2, d3] => { results := [.lit (.bool true)], args := [d1, d2, d3] }
  | _ => none }
def learnOthersRow : OpenClaim := { program := "ytnncphnpajkojaa", sum := "fa3570fab2f3d4821e8bec87af517055d902c1bdc2ff9df920f858a904b8807e", func := "syllabary/syllabarylaw24.LearnOthers", spec := "learnOthers", unfollowed := true, recurses := true, apart := false }
def LearnOthersSaid : Prop := learnOthersRow.holds Try.pinned (OpenSpec.ofChange learnOthersSpec)

/-- ITS FALSE NEIGHBOUR: 'it returns false'. Refute it at one input. -/
def learnOthersWrong : ChangeSpec := { name := "learnOthers", fn := fun _ => fun
  | [d1, d2, d3] => { results := [.lit (.bool false)], args := [d1, d2, d3] }
  | _ => none }
def LearnOthersWrongFalsely : Prop := learnOthersRow.holds Try.pinned (OpenSpec.ofChange learnOthersWrong)

/-- 'syllabarylaw24.LearnOrder': WHATEVER THE INPUT: true; the input reads as it did. -/
def learnOrderSpec : ChangeSpec := { name := "learnOrder", fn := fun _ => fun
  | [d1, d2] => { results := [.lit (.bool true)], args := [d1, d2] }
  | _ => none }
def learnOrderRow : OpenClaim := { program := "ytnncphnpajkojaa", sum := "fa3570fab2f3d4821e8bec87af517055d902c1bdc2ff9df920f858a904b8807e", func := "syllabary/syllabarylaw24.LearnOrder", spec := "learnOrder", unfollowed := true, recurses := true, apart := false }
def LearnOrderSaid : Prop := learnOrderRow.holds Try.pinned (OpenSpec.ofChange learnOrderSpec)

/-- ITS FALSE NEIGHBOUR: 'it returns false'. Refute it at one input. -/
def learnOrderWrong : ChangeSpec := { name := "learnOrder", fn := fun _ => fun
  | [d1, d2] => { results := [.lit (.bool false)], args := [d1, d2] }
  | _ => none }
def LearnOrderWrongFalsely : Prop := learnOrderRow.holds Try.pinned (OpenSpec.ofChange learnOrderWrong)

/- THE SECOND FORM. 'bulk': how many values and letters a reading holds, each counted each time it is reached (what is shared counts as often as it is met; a slice's spare places count too). A statement '..UptoSaid' is the law's where the arguments, and the package variables that the reading takes, are together of bulk at most 1048576: NARROWER than '..Said'. Prove '..Said' where nothing that the law and all that it calls make is longer than what came in: it says more and counts as full. Else prove '..UptoSaid'. A law counts once. -/
mutual
def uptoBulk {H : Type} : DataW H → Nat
  | .lit (.string bytes) => bytes.length + 1
  | .lit _ => 1
  | .nil => 1
  | .ptr d => uptoBulk d + 1
  | .slice elems spare => uptoBulkAll elems + uptoBulkAll spare + 1
  | .agg parts => uptoBulkAll parts + 1
  | .iface _ d => uptoBulk d + 1
  | .map entries => uptoBulkEntries entries + 1
  | .held _ => 1
def uptoBulkAll {H : Type} : List (DataW H) → Nat
  | [] => 0
  | d :: r => uptoBulk d + uptoBulkAll r
def uptoBulkEntries {H : Type} : List (Lit × DataW H) → Nat
  | [] => 0
  | x :: r => uptoBulkEntry x + uptoBulkEntries r
def uptoBulkEntry {H : Type} : Lit × DataW H → Nat
  | (.string bytes, d) => bytes.length + uptoBulk d + 1
  | (_, d) => uptoBulk d + 1
 end
def uptoSmall : (H : Type) → List (DataW H) → Bool := fun _ ds => decide (uptoBulkAll ds ≤ 1048576)
def OpenSpec.upto (s : _root_.Go.ChangeSpec) : _root_.Go.OpenSpec := { _root_.Go.OpenSpec.ofChange s with cond := some uptoSmall }

/-- 'syllabarylaw24.LearnMatchesReference', WHERE WHAT IT READS IS OF BULK AT MOST 1048576: true; the input reads as it did. -/
def learnMatchesReferenceUptoRow : OpenClaim := { program := "ytnncphnpajkojaa", sum := "fa3570fab2f3d4821e8bec87af517055d902c1bdc2ff9df920f858a904b8807e", func := "syllabary/syllabarylaw24.LearnMatchesReference", spec := "learnMatchesReference", unfollowed := true, recurses := true, apart := false, narrowed := true }
def LearnMatchesReferenceUptoSaid : Prop := learnMatchesReferenceUptoRow.holds Try.pinned (OpenSpec.upto learnMatchesReferenceSpec)

/-- 'syllabarylaw24.LearnRefuses', WHERE WHAT IT READS IS OF BULK AT MOST 1048576: true; the input reads as it did. -/
def learnRefusesUptoRow : OpenClaim := { program := "ytnncphnpajkojaa", sum := "fa3570fab2f3d4821e8bec87af517055d902c1bdc2ff9df920f858a904b8807e", func := "syllabary/syllabarylaw24.LearnRefuses", spec := "learnRefuses", unfollowed := true, recurses := true, apart := false, narrowed := true }
def LearnRefusesUptoSaid : Prop := learnRefusesUptoRow.holds Try.pinned (OpenSpec.upto learnRefusesSpec)

/-- 'syllabarylaw24.LearnForgets', WHERE WHAT IT READS IS OF BULK AT MOST 1048576: true; the input reads as it did. -/
def learnForgetsUptoRow : OpenClaim := { program := "ytnncphnpajkojaa", sum := "fa3570fab2f3d4821e8bec87af517055d902c1bdc2ff9df920f858a904b8807e", func := "syllabary/syllabarylaw24.LearnForgets", spec := "learnForgets", unfollowed := true, recurses := true, apart := false, narrowed := true }
def LearnForgetsUptoSaid : Prop := learnForgetsUptoRow.holds Try.pinned (OpenSpec.upto learnForgetsSpec)

/-- 'syllabarylaw24.LearnNumbers', WHERE WHAT IT READS IS OF BULK AT MOST 1048576: true; the input reads as it did. -/
def learnNumbersUptoRow : OpenClaim := { program := "ytnncphnpajkojaa", sum := "fa3570fab2f3d4821e8bec87af517055d902c1bdc2ff9df920f858a904b8807e", func := "syllabary/syllabarylaw24.LearnNumbers", spec := "learnNumbers", unfollowed := true, recurses := true, apart := false, narrowed := true }
def LearnNumbersUptoSaid : Prop := learnNumbersUptoRow.holds Try.pinned (OpenSpec.upto learnNumbersSpec)

/-- 'syllabarylaw24.LearnCounts', WHERE WHAT IT READS IS OF BULK AT MOST 1048576: true; the input reads as it did. -/
def learnCountsUptoRow : OpenClaim := { program := "ytnncphnpajkojaa", sum := "fa3570fab2f3d4821e8bec87af517055d902c1bdc2ff9df920f858a904b8807e", func := "syllabary/syllabarylaw24.LearnCounts", spec := "learnCounts", unfollowed := true, recurses := true, apart := false, narrowed := true }
def LearnCountsUptoSaid : Prop := learnCountsUptoRow.holds Try.pinned (OpenSpec.upto learnCountsSpec)

/-- 'syllabarylaw24.LearnOthers', WHERE WHAT IT READS IS OF BULK AT MOST 1048576: true; the input reads as it did. -/
def learnOthersUptoRow : OpenClaim := { program := "ytnncphnpajkojaa", sum := "fa3570fab2f3d4821e8bec87af517055d902c1bdc2ff9df920f858a904b8807e", func := "syllabary/syllabarylaw24.LearnOthers", spec := "learnOthers", unfollowed := true, recurses := true, apart := false, narrowed := true }
def LearnOthersUptoSaid : Prop := learnOthersUptoRow.holds Try.pinned (OpenSpec.upto learnOthersSpec)

/-- 'syllabarylaw24.LearnOrder', WHERE WHAT IT READS IS OF BULK AT MOST 1048576: true; the input reads as it did. -/
def learnOrderUptoRow : OpenClaim := { program := "ytnncphnpajkojaa", sum := "fa3570fab2f3d4821e8bec87af517055d902c1bdc2ff9df920f858a904b8807e", func := "syllabary/syllabarylaw24.LearnOrder", spec := "learnOrder", unfollowed := true, recurses := true, apart := false, narrowed := true }
def LearnOrderUptoSaid : Prop := learnOrderUptoRow.holds Try.pinned (OpenSpec.upto learnOrderSpec)

end Rows
end Go.Proofs.Ytnncphnpajkojaa
