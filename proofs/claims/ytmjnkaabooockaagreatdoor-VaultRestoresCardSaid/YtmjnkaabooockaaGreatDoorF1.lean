/- The law VaultRestores holds for every input. No condition. -/
import Derived.Test.YtmjnkaabooockaaGreatDoorB6
import Derived.Test.YtmjnkaabooockaaGreatDoorCards
import Derived.Test.YtmjnkaabooockaaGreatDoorTie
import Derived.SevenTiedAt
set_option linter.unusedSimpArgs false
set_option linter.unusedVariables false
namespace Go.Proofs.YtmjnkaabooockaaGreatDoor
open Go.ChangeShapes Go.WideShapes Go.ChangeAt Go.RowKit
theorem restores_all (xs : List (Sigma Ty.den)) (h : xs.map (·.1) = [.sl RawT, .st (.pair (.int .u8) (.int .u8))]) : PC env 3 xs .bool true := by
  match xs, h with
  | [⟨_, y0⟩, ⟨_, y1⟩], h =>
    injection h with h1 h
    injection h with h2 h
    dsimp only at h1 h2
    subst h1 h2
    exact c_Restores y0 y1
set_option maxRecDepth 100000 in
theorem restores_lifted (os : Os) (started : os.Started) (H : Type) (enc : TypeId × Value → H) :
    ReturnsInHanded {} Tryz.checked os 3 .any (Rows.vaultRestoresRow.pre enc Tryz.prog Tryz.f3 (OpenSpec.ofChange Rows.vaultRestoresSpec)) (Rows.vaultRestoresSpec.post enc Tryz.prog Tryz.f3 false true false false) := by
  rw [pre_laid (c := Rows.vaultRestoresRow) (s := Rows.vaultRestoresSpec) rfl]
  refine lift_laid (C := Tryz.checked) (X := fun w _ => laidMet Tryz.prog laidL w) laid_heap own_none started (by kernel_rfl) fn_3
    (ChangeSpec.witness_at (enc := enc) (C := Tryz.checked) (X := fun w _ => laidMet Tryz.prog laidL w) false (laidWorld os) #[.slice none 0 0, .agg #[.int .u8 0, .int .u8 0]] 8 (by kernel_rfl) (by kernel_rfl) (by kernel_rfl) (by kernel_rfl) (by kernel_rfl) (by kernel_rfl) (laid_met os _)) ?_
  intro W base args ds gs before hval hW hx hsh
  refine law_calls (E := env) (b0 := base) (Ts := [.sl RawT, .st (.pair (.int .u8) (.int .u8))]) (tb := 4) env_ok laid_out (of_decide_eq_true (by kernel_rfl)) rfl rfl rfl (by kernel_rfl) rfl ?_ restores_all (tabs_of hsh hx) hval hW
  intro ds hds
  match ds, hds with
  | [d0, d1], _ => rfl
theorem restores_holds : Rows.VaultRestoresSaid :=
  OpenClaim.holds_of_wide 3 Tryz.f3 rfl rfl rfl rfl rfl rfl rfl ⟨rfl, rfl, rfl, rfl, rfl⟩ rfl rfl rfl rfl rfl (by kernel_rfl) fn_3 (by kernel_rfl)
    (of_decide_eq_true (by kernel_rfl)) (by unfold Func.isWrapper; first | (rw [if_pos (by decide +kernel)]; kernel_rfl) | (rw [if_neg (by decide +kernel)]; exact ⟨rfl, rfl⟩))
    (fun os started H enc _ => restores_lifted os started H enc)
theorem restores_card : Rows.VaultRestoresCardSaid :=
  Claim7.holds_tied_plain_at .later [] [.data, .data, .data] true (true, "426d57a87c791b27104f04666428ef46072b02b99fc935c38a2ca183da242164") false
    restores_holds (fun _ h => by cases h) (by kernel_rfl) (fun _ h => by cases h) vaultRestores_row_tie rfl ⟨rfl, rfl⟩ (by kernel_rfl) rfl
    (fun f fn hf hfn => by
      obtain rfl : f = 3 := Option.some.inj ((show Tryz.prog.funcNamed "syllabary/syllabarylaw27.VaultRestores" = some 3 by kernel_rfl).symm.trans hf) |>.symm
      obtain rfl : fn = Tryz.f3 := (Option.some.inj (fn_3.symm.trans hfn)).symm
      exact ⟨by kernel_rfl, fun j t ht => by
        have hall : (Tryz.f3.params.toList.all fun u => !Tryz.prog.wantsStandIn u) = true := by kernel_rfl
        have hm : t ∈ Tryz.f3.params.toList := Array.mem_toList_iff.2 (Array.mem_of_getElem? ht)
        exact (show Tryz.prog.wantsStandIn t = false by simpa using List.all_eq_true.1 hall t hm)⟩)
    (by kernel_rfl)
end Go.Proofs.YtmjnkaabooockaaGreatDoor
