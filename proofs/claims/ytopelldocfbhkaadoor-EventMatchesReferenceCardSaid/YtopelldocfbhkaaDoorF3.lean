/- The law EventMatchesReference holds for every input. No condition. -/
import Derived.Test.YtopelldocfbhkaaDoorB5
import Derived.Test.YtopelldocfbhkaaDoorCards
import Derived.Test.YtopelldocfbhkaaDoorTie
import Derived.SevenTiedAt
set_option linter.unusedSimpArgs false
set_option linter.unusedVariables false
namespace Go.Proofs.YtopelldocfbhkaaDoor
open Go.ChangeShapes Go.WideShapes Go.ChangeAt Go.RowKit
theorem matches_all (xs : List (Sigma Ty.den)) (h : xs.map (·.1) = [RawT, .str, .st (.pair (.int .u8) (.int .u8))]) : PC env 3 xs .bool true := by
  match xs, h with
  | [⟨_, y0⟩, ⟨_, y1⟩, ⟨_, y2⟩], h =>
    injection h with h1 h
    injection h with h2 h
    injection h with h3 h
    dsimp only at h1 h2 h3
    subst h1 h2 h3
    exact c_Matches y0 y1 y2.1 y2.2
set_option maxRecDepth 100000 in
theorem matches_lifted (os : Os) (started : os.Started) (H : Type) (enc : TypeId × Value → H) :
    ReturnsInHanded {} Tryd.checked os 3 .any (Rows.eventMatchesReferenceRow.pre enc Tryd.prog Tryd.f3 (OpenSpec.ofChange Rows.eventMatchesReferenceSpec)) (Rows.eventMatchesReferenceSpec.post enc Tryd.prog Tryd.f3 false true false false) := by
  rw [pre_laid (c := Rows.eventMatchesReferenceRow) (s := Rows.eventMatchesReferenceSpec) rfl]
  refine lift_laid (C := Tryd.checked) (X := fun w _ => laidMet Tryd.prog laidL w) laid_heap own_none started (by kernel_rfl) fn_3
    (ChangeSpec.witness_at (enc := enc) (C := Tryd.checked) (X := fun w _ => laidMet Tryd.prog laidL w) false (laidWorld os) #[.agg #[.int .u8 0, .slice none 0 0, .slice none 0 0, .int .u8 0, .int .u8 0], .string ⟨#[]⟩, .agg #[.int .u8 0, .int .u8 0]] 8 (by kernel_rfl) (by kernel_rfl) (by kernel_rfl) (by kernel_rfl) (by kernel_rfl) (by kernel_rfl) (laid_met os _)) ?_
  intro W base args ds gs before hval hW hx hsh
  refine law_calls (E := env) (b0 := base) (Ts := [RawT, .str, .st (.pair (.int .u8) (.int .u8))]) (tb := 4) env_ok laid_out (of_decide_eq_true (by kernel_rfl)) rfl rfl rfl (by kernel_rfl) rfl ?_ matches_all (tabs_of hsh hx) hval hW
  intro ds hds
  match ds, hds with
  | [d0, d1, d2], _ => rfl
theorem matches_holds : Rows.EventMatchesReferenceSaid :=
  OpenClaim.holds_of_wide 3 Tryd.f3 rfl rfl rfl rfl rfl rfl rfl ⟨rfl, rfl, rfl, rfl, rfl⟩ rfl rfl rfl rfl rfl (by kernel_rfl) fn_3 (by kernel_rfl)
    (of_decide_eq_true (by kernel_rfl)) (by unfold Func.isWrapper; first | (rw [if_pos (by decide +kernel)]; kernel_rfl) | (rw [if_neg (by decide +kernel)]; exact ⟨rfl, rfl⟩))
    (fun os started H enc _ => matches_lifted os started H enc)
theorem matches_card : Rows.EventMatchesReferenceCardSaid :=
  Claim7.holds_tied_plain_at .later [] [.data, .data, .data, .data, .pinned] true (true, "5dc4ae48ce4c2a9348dcc132f8ec6b161086df3f9f12457d6c6e77583ebed4cd") false
    matches_holds (fun _ h => by cases h) (by kernel_rfl) (fun _ h => by cases h) eventMatchesReference_row_tie rfl ⟨rfl, rfl⟩ (by kernel_rfl) rfl
    (fun f fn hf hfn => by
      obtain rfl : f = 3 := Option.some.inj ((show Tryd.prog.funcNamed "syllabary/syllabarylaw01.EventMatchesReference" = some 3 by kernel_rfl).symm.trans hf) |>.symm
      obtain rfl : fn = Tryd.f3 := (Option.some.inj (fn_3.symm.trans hfn)).symm
      exact ⟨by kernel_rfl, fun j t ht => by
        have hall : (Tryd.f3.params.toList.all fun u => !Tryd.prog.wantsStandIn u) = true := by kernel_rfl
        have hm : t ∈ Tryd.f3.params.toList := Array.mem_toList_iff.2 (Array.mem_of_getElem? ht)
        exact (show Tryd.prog.wantsStandIn t = false by simpa using List.all_eq_true.1 hall t hm)⟩)
    (by kernel_rfl)
end Go.Proofs.YtopelldocfbhkaaDoor
