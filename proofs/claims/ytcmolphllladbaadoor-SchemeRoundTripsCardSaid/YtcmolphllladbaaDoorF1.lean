/- The law SchemeRoundTrips holds for every input. No condition. -/
import Derived.Test.YtcmolphllladbaaDoorB6
import Derived.Test.YtcmolphllladbaaDoorCards
import Derived.Test.YtcmolphllladbaaDoorTie
import Derived.SevenTiedAt
set_option linter.unusedSimpArgs false
set_option linter.unusedVariables false
namespace Go.Proofs.YtcmolphllladbaaDoor
open Go.ChangeShapes Go.WideShapes Go.ChangeAt Go.RowKit
theorem roundtrips_all (xs : List (Sigma Ty.den)) (h : xs.map (·.1) = [RawT, RawT]) : PC env 4 xs .bool true := by
  match xs, h with
  | [⟨_, y0⟩, ⟨_, y1⟩], h =>
    injection h with h1 h
    injection h with h2 h
    dsimp only at h1 h2
    subst h1 h2
    exact c_RoundTrips y0 y1
set_option maxRecDepth 100000 in
theorem roundtrips_lifted (os : Os) (started : os.Started) (H : Type) (enc : TypeId × Value → H) :
    ReturnsInHanded {} Tryd.checked os 4 .any (Rows.schemeRoundTripsRow.pre enc Tryd.prog Tryd.f4 (OpenSpec.ofChange Rows.schemeRoundTripsSpec)) (Rows.schemeRoundTripsSpec.post enc Tryd.prog Tryd.f4 false true false false) := by
  rw [pre_laid (c := Rows.schemeRoundTripsRow) (s := Rows.schemeRoundTripsSpec) rfl]
  refine lift_laid (C := Tryd.checked) (X := fun w _ => laidMet Tryd.prog laidL w) laid_heap own_none started (by kernel_rfl) fn_4
    (ChangeSpec.witness_at (enc := enc) (C := Tryd.checked) (X := fun w _ => laidMet Tryd.prog laidL w) false (laidWorld os) #[.agg #[.int .u8 0, .int .u8 0, .slice none 0 0], .agg #[.int .u8 0, .int .u8 0, .slice none 0 0]] 8 (by kernel_rfl) (by kernel_rfl) (by kernel_rfl) (by kernel_rfl) (by kernel_rfl) (by kernel_rfl) (laid_met os _)) ?_
  intro W base args ds gs before hval hW hx hsh
  refine law_calls (E := env) (b0 := base) (Ts := [RawT, RawT]) (tb := 4) env_ok laid_out (of_decide_eq_true (by kernel_rfl)) rfl rfl rfl (by kernel_rfl) rfl ?_ roundtrips_all (tabs_of hsh hx) hval hW
  intro ds hds
  match ds, hds with
  | [d0, d1], _ => rfl
theorem roundtrips_holds : Rows.SchemeRoundTripsSaid :=
  OpenClaim.holds_of_wide 4 Tryd.f4 rfl rfl rfl rfl rfl rfl rfl ⟨rfl, rfl, rfl, rfl, rfl⟩ rfl rfl rfl rfl rfl (by kernel_rfl) fn_4 (by kernel_rfl)
    (of_decide_eq_true (by kernel_rfl)) (by unfold Func.isWrapper; first | (rw [if_pos (by decide +kernel)]; kernel_rfl) | (rw [if_neg (by decide +kernel)]; exact ⟨rfl, rfl⟩))
    (fun os started H enc _ => roundtrips_lifted os started H enc)
theorem roundtrips_card : Rows.SchemeRoundTripsCardSaid :=
  Claim7.holds_tied_plain_at .later [] [.data, .data, .data, .data, .pinned] true (true, "34baf661d054b563b50d6273a2529c45ae94fe38806658fc0c33bd088ca5fb84") false
    roundtrips_holds (fun _ h => by cases h) (by kernel_rfl) (fun _ h => by cases h) schemeRoundTrips_row_tie rfl ⟨rfl, rfl⟩ (by kernel_rfl) rfl
    (fun f fn hf hfn => by
      obtain rfl : f = 4 := Option.some.inj ((show Tryd.prog.funcNamed "syllabary/syllabarylaw02.SchemeRoundTrips" = some 4 by kernel_rfl).symm.trans hf) |>.symm
      obtain rfl : fn = Tryd.f4 := (Option.some.inj (fn_4.symm.trans hfn)).symm
      exact ⟨by kernel_rfl, fun j t ht => by
        have hall : (Tryd.f4.params.toList.all fun u => !Tryd.prog.wantsStandIn u) = true := by kernel_rfl
        have hm : t ∈ Tryd.f4.params.toList := Array.mem_toList_iff.2 (Array.mem_of_getElem? ht)
        exact (show Tryd.prog.wantsStandIn t = false by simpa using List.all_eq_true.1 hall t hm)⟩)
    (by kernel_rfl)
end Go.Proofs.YtcmolphllladbaaDoor
