/- The law SchemeChecks holds for every input. No condition. -/
import Derived.Test.YtcmolphllladbaaDoorB6
import Derived.Test.YtcmolphllladbaaDoorCards
import Derived.Test.YtcmolphllladbaaDoorTie
import Derived.SevenTiedAt
set_option linter.unusedSimpArgs false
set_option linter.unusedVariables false
--SET+ by32, by10, litP, appendC, Int.reduceEq, not_true_eq_false, not_false_eq_true, false_implies
namespace Go.Proofs.YtcmolphllladbaaDoor
open Go.Lib
set_option maxHeartbeats 4000000
set_option maxRecDepth 100000
theorem c_Checks (s : Sch) (x : RawS) (r : Rl) : PC env 3 [⟨SchemeT, s⟩, ⟨RawT, x⟩, ⟨RuleT, r⟩] .bool true := by
  have hs := (made2_ok x)
  have k1 := c_Made2 x
  generalize made2E x = t at hs k1
  refine PC.of_PW (m := 2000) env_ok fn_3 rfl rfl rfl rfl (by kernel_rfl) ?_; intro hx; simp only [Tryd.f3]; simp only [go_sem, Nat.reduceBEq, ↓reduceIte, ↓reduceDIte, Nat.reduceAdd, Nat.reduceSub, Nat.reduceMul, Nat.reduceLeDiff, ← Bool.decide_and, ← Bool.decide_or, ← decide_not, Int.reduceLT, Int.reduceLE, Int.reduceToNat, Int.reduceNeg, by32, by10, litP, appendC, Int.reduceEq, not_true_eq_false, not_false_eq_true, false_implies]
  have hne : t.2.2 ≠ [] := fun e => by have := hs.2.2.1; rw [e] at this; simp at this
  have hl9 := hs.2.2.2
  apply Walks.shareX (X := Unit) (fun _ => ⟨[(8, .ref 8 0), (3, .ref 3 0), (4, .ref 4 0), (7, .iv .bool true)], [(8, .box [.iv (.int .i64) t.1, .iv (.int .u8) t.2.1, .lfull 26]), (26, .arr RuleT (t.2.2 ++ [r])), (3, .box [.iv (.int .i64) s.1, .iv (.int .u8) s.2.1, .iv (.sl RuleT) s.2.2]), (4, .box [.iv (.int .u8) x.1, .iv (.int .u8) x.2.1, .iv (.sl RawRuleT) x.2.2])]⟩) (fun _ => True)
  · intro key
    refine ⟨_, c_sanity, fun _ => rfl, fun g0 => ⟨_, k1, fun _ => ?_⟩⟩
    repeat' (first | (with_reducible apply And.intro) | fail)
    all_goals first
      | exact hne
      | omega
      | exact key _ () trivial (by refine ⟨?_, ?_, rfl, rfl⟩ <;> repeat' (first | exact trivial | exact Or.inl rfl | exact Or.inr rfl | (refine And.intro (Or.inl rfl) ?_) | (refine And.intro (Or.inr (Or.inl rfl)) ?_) | (refine And.intro (Or.inr (Or.inr (Or.inr ⟨rfl, rfl⟩))) ?_) | (refine And.intro (Or.inr (Or.inr (Or.inl ⟨rfl, rfl, trivial⟩))) ?_) | exact ⟨(by show (_ : Nat) < 1000000000; omega), rfl, rfl⟩ | rfl | (refine And.intro (Or.inl ?_) ?_) | (refine And.intro ?_ ?_)))
  intro _ _
  refine Walks.sealw [26] ?_
  simp only [go_sem, Nat.reduceBEq, ↓reduceIte, ↓reduceDIte, Nat.reduceAdd, Nat.reduceSub, Nat.reduceMul, Nat.reduceLeDiff, ← Bool.decide_and, ← Bool.decide_or, ← decide_not, Int.reduceLT, Int.reduceLE, Int.reduceToNat, Int.reduceNeg, by32, by10, litP, appendC, Int.reduceEq, not_true_eq_false, not_false_eq_true, false_implies]
  refine PW_go env_ok ⟨_, fn_3, rfl⟩ 2000 _ _ (by kernel_rfl) ?_; simp only [go_sem, Nat.reduceBEq, ↓reduceIte, ↓reduceDIte, Nat.reduceAdd, Nat.reduceSub, Nat.reduceMul, Nat.reduceLeDiff, ← Bool.decide_and, ← Bool.decide_or, ← decide_not, Int.reduceLT, Int.reduceLE, Int.reduceToNat, Int.reduceNeg, by32, by10, litP, appendC, Int.reduceEq, not_true_eq_false, not_false_eq_true, false_implies]
  refine ⟨_, k1, fun _ => ?_⟩
  refine Walks.loopA (X := Nat) (fun (z : Nat) => [(10, .iv (.int .i64) (z : Int)), (11, .any), (12, .any), (13, .any), (14, .any)]) (fun (z : Nat) => []) (fun (z : Nat) => z ≤ 3) (fun (z : Nat) => 3 - z) 0 ?_; intro b1 b2 hb1 hb2; simp (config := {maxSteps := 4000000}) only [go_sem, Nat.reduceBEq, ↓reduceIte, ↓reduceDIte, Nat.reduceAdd, Nat.reduceSub, Nat.reduceMul, Nat.reduceLeDiff, ← Bool.decide_and, ← Bool.decide_or, ← decide_not, Int.reduceLT, Int.reduceLE, Int.reduceToNat, Int.reduceNeg, by32, by10, litP, appendC, Int.reduceEq, not_true_eq_false, not_false_eq_true, false_implies] at hb1 hb2; subst hb1; subst hb2; refine ⟨(by refine ⟨?_, ?_, rfl, rfl⟩ <;> repeat' (first | exact trivial | exact Or.inl rfl | exact Or.inr rfl | (refine And.intro (Or.inl rfl) ?_) | (refine And.intro (Or.inr (Or.inl rfl)) ?_) | (refine And.intro (Or.inr (Or.inr (Or.inr ⟨rfl, rfl⟩))) ?_) | (refine And.intro (Or.inr (Or.inr (Or.inl ⟨rfl, rfl, trivial⟩))) ?_) | exact ⟨(by show (_ : Nat) < 1000000000; omega), rfl, rfl⟩ | rfl | (refine And.intro (Or.inl ?_) ?_) | (refine And.intro ?_ ?_))), ?_, ?_⟩
  · exact Nat.zero_le _
  intro j hj back
  refine PW_sound env_ok ⟨_, fn_3, rfl⟩ 2000 _ _ (by kernel_rfl) ?_; simp only [go_sem, Nat.reduceBEq, ↓reduceIte, ↓reduceDIte, Nat.reduceAdd, Nat.reduceSub, Nat.reduceMul, Nat.reduceLeDiff, ← Bool.decide_and, ← Bool.decide_or, ← decide_not, Int.reduceLT, Int.reduceLE, Int.reduceToNat, Int.reduceNeg, by32, by10, litP, appendC, Int.reduceEq, not_true_eq_false, not_false_eq_true, false_implies]
  refine ⟨fun g => ?_, fun _ => trivial⟩
  obtain ⟨u, hu⟩ : ∃ u, ([(s.1, s.2.1, s.2.2), t, (t.1, t.2.1, t.2.2 ++ [r])] : List Sch)[j]? = some u := get_of_lt (by simp only [List.length_cons, List.length_nil]; omega)
  have j0 := Int.natCast_nonneg j
  refine ⟨⟨j0, by omega⟩, u, hu, _, c_Check u, fun _ => ⟨⟨j0, by omega⟩, u, hu, _, c_Check2 u, fun _ => ⟨fun _ => ⟨fun _ => ⟨⟨j0, by omega⟩, u, hu, _, c_Valid u, PK_cast (b' := false) (by simp) ?_⟩, fun h => absurd rfl h⟩, fun h => absurd rfl h⟩⟩⟩
  simp only [go_sem, Nat.reduceBEq, ↓reduceIte, ↓reduceDIte, Nat.reduceAdd, Nat.reduceSub, Nat.reduceMul, Nat.reduceLeDiff, ← Bool.decide_and, ← Bool.decide_or, ← decide_not, Int.reduceLT, Int.reduceLE, Int.reduceToNat, Int.reduceNeg, by32, by10, litP, appendC, Int.reduceEq, not_true_eq_false, not_false_eq_true, false_implies]
  exact ⟨⟨j0, by omega⟩, u, hu, _, c_Print u, fun _ => ⟨⟨j0, by omega⟩, u, hu, _, c_Print2 u, fun _ => ⟨fun h => absurd rfl h, fun _ => ⟨i64_ok (by omega) (by omega), back _ (j + 1) (by refine ⟨?_, ?_, rfl, rfl⟩ <;> repeat' (first | exact trivial | exact Or.inl rfl | exact Or.inr rfl | (refine And.intro (Or.inl rfl) ?_) | (refine And.intro (Or.inr (Or.inl rfl)) ?_) | (refine And.intro (Or.inr (Or.inr (Or.inr ⟨rfl, rfl⟩))) ?_) | (refine And.intro (Or.inr (Or.inr (Or.inl ⟨rfl, rfl, trivial⟩))) ?_) | exact ⟨(by show (_ : Nat) < 1000000000; omega), rfl, rfl⟩ | rfl | (refine And.intro (Or.inl ?_) ?_) | (refine And.intro ?_ ?_))) (by omega) (by omega)⟩⟩⟩⟩
end Go.Proofs.YtcmolphllladbaaDoor
namespace Go.Proofs.YtcmolphllladbaaDoor
open Go.ChangeShapes Go.WideShapes Go.ChangeAt Go.RowKit
theorem checks_all (xs : List (Sigma Ty.den)) (h : xs.map (·.1) = [SchemeT, RawT, RuleT]) : PC env 3 xs .bool true := by
  match xs, h with
  | [⟨_, y0⟩, ⟨_, y1⟩, ⟨_, y2⟩], h =>
    injection h with h1 h
    injection h with h2 h
    injection h with h3 h
    dsimp only at h1 h2 h3
    subst h1 h2 h3
    exact c_Checks y0 y1 y2
set_option maxRecDepth 100000 in
theorem checks_lifted (os : Os) (started : os.Started) (H : Type) (enc : TypeId × Value → H) :
    ReturnsInHanded {} Tryd.checked os 3 .any (Rows.schemeChecksRow.pre enc Tryd.prog Tryd.f3 (OpenSpec.ofChange Rows.schemeChecksSpec)) (Rows.schemeChecksSpec.post enc Tryd.prog Tryd.f3 false true false false) := by
  rw [pre_laid (c := Rows.schemeChecksRow) (s := Rows.schemeChecksSpec) rfl]
  refine lift_laid (C := Tryd.checked) (X := fun w _ => laidMet Tryd.prog laidL w) laid_heap own_none started (by kernel_rfl) fn_3
    (ChangeSpec.witness_at (enc := enc) (C := Tryd.checked) (X := fun w _ => laidMet Tryd.prog laidL w) false (laidWorld os) #[.agg #[.int .i64 0, .int .u8 0, .slice none 0 0], .agg #[.int .u8 0, .int .u8 0, .slice none 0 0], .agg #[.int .i64 0, .int .i64 0, .string ⟨#[]⟩, .string ⟨#[]⟩, .int .i64 0]] 8 (by kernel_rfl) (by kernel_rfl) (by kernel_rfl) (by kernel_rfl) (by kernel_rfl) (by kernel_rfl) (laid_met os _)) ?_
  intro W base args ds gs before hval hW hx hsh
  refine law_calls (E := env) (b0 := base) (Ts := [SchemeT, RawT, RuleT]) (tb := 4) env_ok laid_out (of_decide_eq_true (by kernel_rfl)) rfl rfl rfl (by kernel_rfl) rfl ?_ checks_all (tabs_of hsh hx) hval hW
  intro ds hds
  match ds, hds with
  | [d0, d1, d2], _ => rfl
theorem checks_holds : Rows.SchemeChecksSaid :=
  OpenClaim.holds_of_wide 3 Tryd.f3 rfl rfl rfl rfl rfl rfl rfl ⟨rfl, rfl, rfl, rfl, rfl⟩ rfl rfl rfl rfl rfl (by kernel_rfl) fn_3 (by kernel_rfl)
    (of_decide_eq_true (by kernel_rfl)) (by unfold Func.isWrapper; first | (rw [if_pos (by decide +kernel)]; kernel_rfl) | (rw [if_neg (by decide +kernel)]; exact ⟨rfl, rfl⟩))
    (fun os started H enc _ => checks_lifted os started H enc)
theorem checks_card : Rows.SchemeChecksCardSaid :=
  Claim7.holds_tied_plain_at .later [] [.data, .data, .data, .data, .pinned] true (true, "34baf661d054b563b50d6273a2529c45ae94fe38806658fc0c33bd088ca5fb84") false
    checks_holds (fun _ h => by cases h) (by kernel_rfl) (fun _ h => by cases h) schemeChecks_row_tie rfl ⟨rfl, rfl⟩ (by kernel_rfl) rfl
    (fun f fn hf hfn => by
      obtain rfl : f = 3 := Option.some.inj ((show Tryd.prog.funcNamed "syllabary/syllabarylaw02.SchemeChecks" = some 3 by kernel_rfl).symm.trans hf) |>.symm
      obtain rfl : fn = Tryd.f3 := (Option.some.inj (fn_3.symm.trans hfn)).symm
      exact ⟨by kernel_rfl, fun j t ht => by
        have hall : (Tryd.f3.params.toList.all fun u => !Tryd.prog.wantsStandIn u) = true := by kernel_rfl
        have hm : t ∈ Tryd.f3.params.toList := Array.mem_toList_iff.2 (Array.mem_of_getElem? ht)
        exact (show Tryd.prog.wantsStandIn t = false by simpa using List.all_eq_true.1 hall t hm)⟩)
    (by kernel_rfl)
end Go.Proofs.YtcmolphllladbaaDoor
