/- The law SchemeParses holds for every input. No condition. -/
import Derived.Test.YtcmolphllladbaaDoorB6
import Derived.Test.YtcmolphllladbaaDoorCards
import Derived.Test.YtcmolphllladbaaDoorTie
import Derived.SevenTiedAt
set_option linter.unusedSimpArgs false
set_option linter.unusedVariables false
--SET+ by32, by10, Int.reduceEq, not_true_eq_false, not_false_eq_true, false_implies
namespace Go.Proofs.YtcmolphllladbaaDoor
open Go.Lib
set_option maxHeartbeats 4000000
set_option maxRecDepth 100000
theorem c_Parses (x : RawS) (put : Str) (w : Int × Int) : PC env 5 [⟨RawT, x⟩, ⟨.str, put⟩, ⟨.st (.pair (.int .u16) (.int .u16)), w⟩] .bool true := by
  have hs := (made2_ok x).1
  have k1 := c_Made2 x
  generalize made2E x = s at hs k1
  have kp := c_Print2 s
  have hl := print_len hs
  refine PC.of_PW (m := 2000) env_ok fn_5 rfl rfl rfl rfl (by kernel_rfl) ?_; intro hx; simp only [Tryd.f5]; simp only [go_sem, Nat.reduceBEq, ↓reduceIte, ↓reduceDIte, Nat.reduceAdd, Nat.reduceSub, Nat.reduceMul, Nat.reduceLeDiff, ← Bool.decide_and, ← Bool.decide_or, ← decide_not, Int.reduceLT, Int.reduceLE, Int.reduceToNat, Int.reduceNeg, by32, by10, Int.reduceEq, not_true_eq_false, not_false_eq_true, false_implies]
  have hw0 : 0 ≤ w.1 ∧ w.1 ≤ 65535 := hx.2.2.1.1
  have hw1 : 0 ≤ w.2 ∧ w.2 ≤ 65535 := hx.2.2.1.2
  refine ⟨_, c_sanity, fun _ => rfl, fun g0 => ⟨_, k1, fun _ => ⟨_, kp, fun _ => ?_⟩⟩⟩
  generalize printE s = P at hl
  have t1 : Int.tmod w.1 ((P.length : Int) + 1) = w.1 % ((P.length : Int) + 1) := Int.tmod_eq_emod_of_nonneg hw0.1
  have t2 : Int.tmod w.2 12 = w.2 % 12 := Int.tmod_eq_emod_of_nonneg hw1.1
  have m1 := Int.emod_nonneg w.1 (b := (P.length : Int) + 1) (by omega)
  have m2 := Int.emod_lt_of_pos w.1 (b := (P.length : Int) + 1) (by omega)
  rw [t1, t2]
  generalize w.1 % ((P.length : Int) + 1) = i at m1 m2
  have hm : min (i + w.2 % 12) (P.length : Int) ≤ P.length := Int.min_le_right _ _
  have hm0 : 0 ≤ min (i + w.2 % 12) (P.length : Int) := by omega
  generalize min (i + w.2 % 12) (P.length : Int) = k at hm hm0
  have l1 : (P.take i.toNat).length ≤ P.length := List.length_take_le' _ _
  have l2 : (P.drop k.toNat).length ≤ P.length := by rw [List.length_drop]; omega
  refine ⟨i64_ok (by omega) (by omega), (by first | omega | (show (_ : Int) ≤ _; omega) | (show (_ : Int) < _; omega) | (dsimp only; omega)), i64_ok (by omega) (by omega), ⟨by omega, by omega⟩, by omega, ⟨by omega, by omega⟩, by rw [List.length_append]; omega, ?_⟩
  have hX : (P.take i.toNat ++ put ++ P.drop k.toNat).length ≤ 1000000000 := by simp only [List.length_append]; omega
  generalize P.take i.toNat ++ put ++ P.drop k.toNat = X at hX
  refine Walks.loopA (X := Nat) (fun (z : Nat) => [(12, .iv (.int .i64) (z : Int)), (13, .any), (14, .any), (15, .any), (16, .any), (17, .any), (18, .any)]) (fun (z : Nat) => []) (fun (z : Nat) => z ≤ 2) (fun (z : Nat) => 2 - z) 0 ?_; intro b1 b2 hb1 hb2; simp (config := {maxSteps := 4000000}) only [go_sem, Nat.reduceBEq, ↓reduceIte, ↓reduceDIte, Nat.reduceAdd, Nat.reduceSub, Nat.reduceMul, Nat.reduceLeDiff, ← Bool.decide_and, ← Bool.decide_or, ← decide_not, Int.reduceLT, Int.reduceLE, Int.reduceToNat, Int.reduceNeg, by32, by10, Int.reduceEq, not_true_eq_false, not_false_eq_true, false_implies] at hb1 hb2; subst hb1; subst hb2; refine ⟨(by refine ⟨?_, ?_, rfl, rfl⟩ <;> repeat' (first | exact trivial | exact Or.inl rfl | exact Or.inr rfl | (refine And.intro (Or.inl rfl) ?_) | (refine And.intro (Or.inr (Or.inl rfl)) ?_) | (refine And.intro (Or.inr (Or.inr (Or.inr ⟨rfl, rfl⟩))) ?_) | (refine And.intro (Or.inr (Or.inr (Or.inl ⟨rfl, rfl, trivial⟩))) ?_) | exact ⟨(by show (_ : Nat) < 1000000000; omega), rfl, rfl⟩ | rfl | (refine And.intro (Or.inl ?_) ?_) | (refine And.intro ?_ ?_))), ?_, ?_⟩
  · exact Nat.zero_le _
  intro j hj back
  refine PW_sound env_ok ⟨_, fn_5, rfl⟩ 2000 _ _ (by kernel_rfl) ?_; simp only [go_sem, Nat.reduceBEq, ↓reduceIte, ↓reduceDIte, Nat.reduceAdd, Nat.reduceSub, Nat.reduceMul, Nat.reduceLeDiff, ← Bool.decide_and, ← Bool.decide_or, ← decide_not, Int.reduceLT, Int.reduceLE, Int.reduceToNat, Int.reduceNeg, by32, by10, Int.reduceEq, not_true_eq_false, not_false_eq_true, false_implies]
  refine ⟨fun g => ?_, fun _ => trivial⟩
  obtain ⟨u, hu⟩ : ∃ u, ([put, X] : List Str)[j]? = some u := get_of_lt (by simp only [List.length_cons, List.length_nil]; omega)
  have hul : u.length ≤ 1000000000 := by
    have := List.mem_of_getElem? hu
    simp only [List.mem_cons, List.not_mem_nil, or_false] at this
    rcases this with rfl | rfl <;> omega
  have q1 := c_Parse u hul
  have q2 := c_Parse2 u hul
  have hpp : (parseE u).2.2 = 0 → printE (parseE u).1 = u := print_parse
  generalize parseE u = R at q1 q2 hpp
  obtain ⟨t, n, e⟩ := R
  dsimp only at hpp
  have j0 := Int.natCast_nonneg j
  refine ⟨⟨j0, by omega⟩, u, hu, _, q1, fun _ => ⟨⟨j0, by omega⟩, u, hu, _, q2, fun _ => ⟨_, c_Same2 t t, PK_cast (b' := false) (by simp) ?_⟩⟩⟩
  simp only [go_sem, Nat.reduceBEq, ↓reduceIte, ↓reduceDIte, Nat.reduceAdd, Nat.reduceSub, Nat.reduceMul, Nat.reduceLeDiff, ← Bool.decide_and, ← Bool.decide_or, ← decide_not, Int.reduceLT, Int.reduceLE, Int.reduceToNat, Int.reduceNeg, by32, by10, Int.reduceEq, not_true_eq_false, not_false_eq_true, false_implies]
  exact ⟨fun h => ⟨_, c_Print t, fun _ => ⟨⟨j0, by omega⟩, u, hu, fun hn => absurd (hpp h) hn, fun _ => ⟨i64_ok (by omega) (by omega), back _ (j + 1) (by refine ⟨?_, ?_, rfl, rfl⟩ <;> repeat' (first | exact trivial | exact Or.inl rfl | exact Or.inr rfl | (refine And.intro (Or.inl rfl) ?_) | (refine And.intro (Or.inr (Or.inl rfl)) ?_) | (refine And.intro (Or.inr (Or.inr (Or.inr ⟨rfl, rfl⟩))) ?_) | (refine And.intro (Or.inr (Or.inr (Or.inl ⟨rfl, rfl, trivial⟩))) ?_) | exact ⟨(by show (_ : Nat) < 1000000000; omega), rfl, rfl⟩ | rfl | (refine And.intro (Or.inl ?_) ?_) | (refine And.intro ?_ ?_))) (by omega) (by omega)⟩⟩⟩, fun _ => ⟨i64_ok (by omega) (by omega), back _ (j + 1) (by refine ⟨?_, ?_, rfl, rfl⟩ <;> repeat' (first | exact trivial | exact Or.inl rfl | exact Or.inr rfl | (refine And.intro (Or.inl rfl) ?_) | (refine And.intro (Or.inr (Or.inl rfl)) ?_) | (refine And.intro (Or.inr (Or.inr (Or.inr ⟨rfl, rfl⟩))) ?_) | (refine And.intro (Or.inr (Or.inr (Or.inl ⟨rfl, rfl, trivial⟩))) ?_) | exact ⟨(by show (_ : Nat) < 1000000000; omega), rfl, rfl⟩ | rfl | (refine And.intro (Or.inl ?_) ?_) | (refine And.intro ?_ ?_))) (by omega) (by omega)⟩⟩
end Go.Proofs.YtcmolphllladbaaDoor
namespace Go.Proofs.YtcmolphllladbaaDoor
open Go.ChangeShapes Go.WideShapes Go.ChangeAt Go.RowKit
theorem parses_all (xs : List (Sigma Ty.den)) (h : xs.map (·.1) = [RawT, .str, .st (.pair (.int .u16) (.int .u16))]) : PC env 5 xs .bool true := by
  match xs, h with
  | [⟨_, y0⟩, ⟨_, y1⟩, ⟨_, y2⟩], h =>
    injection h with h1 h
    injection h with h2 h
    injection h with h3 h
    dsimp only at h1 h2 h3
    subst h1 h2 h3
    exact c_Parses y0 y1 y2
set_option maxRecDepth 100000 in
theorem parses_lifted (os : Os) (started : os.Started) (H : Type) (enc : TypeId × Value → H) :
    ReturnsInHanded {} Tryd.checked os 5 .any (Rows.schemeParsesRow.pre enc Tryd.prog Tryd.f5 (OpenSpec.ofChange Rows.schemeParsesSpec)) (Rows.schemeParsesSpec.post enc Tryd.prog Tryd.f5 false true false false) := by
  rw [pre_laid (c := Rows.schemeParsesRow) (s := Rows.schemeParsesSpec) rfl]
  refine lift_laid (C := Tryd.checked) (X := fun w _ => laidMet Tryd.prog laidL w) laid_heap own_none started (by kernel_rfl) fn_5
    (ChangeSpec.witness_at (enc := enc) (C := Tryd.checked) (X := fun w _ => laidMet Tryd.prog laidL w) false (laidWorld os) #[.agg #[.int .u8 0, .int .u8 0, .slice none 0 0], .string ⟨#[]⟩, .agg #[.int .u16 0, .int .u16 0]] 8 (by kernel_rfl) (by kernel_rfl) (by kernel_rfl) (by kernel_rfl) (by kernel_rfl) (by kernel_rfl) (laid_met os _)) ?_
  intro W base args ds gs before hval hW hx hsh
  refine law_calls (E := env) (b0 := base) (Ts := [RawT, .str, .st (.pair (.int .u16) (.int .u16))]) (tb := 4) env_ok laid_out (of_decide_eq_true (by kernel_rfl)) rfl rfl rfl (by kernel_rfl) rfl ?_ parses_all (tabs_of hsh hx) hval hW
  intro ds hds
  match ds, hds with
  | [d0, d1, d2], _ => rfl
theorem parses_holds : Rows.SchemeParsesSaid :=
  OpenClaim.holds_of_wide 5 Tryd.f5 rfl rfl rfl rfl rfl rfl rfl ⟨rfl, rfl, rfl, rfl, rfl⟩ rfl rfl rfl rfl rfl (by kernel_rfl) fn_5 (by kernel_rfl)
    (of_decide_eq_true (by kernel_rfl)) (by unfold Func.isWrapper; first | (rw [if_pos (by decide +kernel)]; kernel_rfl) | (rw [if_neg (by decide +kernel)]; exact ⟨rfl, rfl⟩))
    (fun os started H enc _ => parses_lifted os started H enc)
theorem parses_card : Rows.SchemeParsesCardSaid :=
  Claim7.holds_tied_plain_at .later [] [.data, .data, .data, .data, .pinned] true (true, "34baf661d054b563b50d6273a2529c45ae94fe38806658fc0c33bd088ca5fb84") false
    parses_holds (fun _ h => by cases h) (by kernel_rfl) (fun _ h => by cases h) schemeParses_row_tie rfl ⟨rfl, rfl⟩ (by kernel_rfl) rfl
    (fun f fn hf hfn => by
      obtain rfl : f = 5 := Option.some.inj ((show Tryd.prog.funcNamed "syllabary/syllabarylaw02.SchemeParses" = some 5 by kernel_rfl).symm.trans hf) |>.symm
      obtain rfl : fn = Tryd.f5 := (Option.some.inj (fn_5.symm.trans hfn)).symm
      exact ⟨by kernel_rfl, fun j t ht => by
        have hall : (Tryd.f5.params.toList.all fun u => !Tryd.prog.wantsStandIn u) = true := by kernel_rfl
        have hm : t ∈ Tryd.f5.params.toList := Array.mem_toList_iff.2 (Array.mem_of_getElem? ht)
        exact (show Tryd.prog.wantsStandIn t = false by simpa using List.all_eq_true.1 hall t hm)⟩)
    (by kernel_rfl)
end Go.Proofs.YtcmolphllladbaaDoor
