/- The law SchemeTexts holds for every input. No condition. -/
import Derived.Test.YtcmolphllladbaaDoorB6
import Derived.Test.YtcmolphllladbaaDoorCards
import Derived.Test.YtcmolphllladbaaDoorTie
import Derived.SevenTiedAt
set_option linter.unusedSimpArgs false
set_option linter.unusedVariables false
--SET+ by32, by10, Int.reduceEq, not_true_eq_false, not_false_eq_true, false_implies
namespace Go.Proofs.YtcmolphllladbaaDoor
open Go.Lib
set_option maxHeartbeats 4000000
set_option maxRecDepth 100000
theorem abcAt_low (u : Int) : (abcAt u).all low = true := by
  unfold abcAt
  rw [List.all_eq_true]
  intro y hy
  have := List.mem_of_mem_drop (List.mem_of_mem_take hy)
  simp only [List.mem_cons, List.not_mem_nil, or_false] at this
  rcases this with rfl | rfl | rfl <;> rfl
theorem input_low (l : List Int) (n : Int) : (inputE l n).all low = true := by
  unfold inputE
  rw [List.all_eq_true]
  intro y hy
  obtain ⟨u, _, hu⟩ := List.mem_flatMap.1 hy
  exact List.all_eq_true.1 (abcAt_low u) y hu
theorem input_len (l : List Int) (n : Int) : (inputE l n).length ≤ n.toNat := by
  have : ∀ l : List Int, (l.flatMap abcAt).length ≤ l.length := by
    intro l
    induction l with
    | nil => simp
    | cons x l ih => simp only [List.flatMap_cons, List.length_append, List.length_cons, abcAt, List.length_take]; omega
  have h := this (l.take n.toNat)
  have h2 := List.length_take_le n.toNat l
  unfold inputE
  omega
theorem let_parts {s : Str} {i : Nat} (h : letB s = true) : letB (s.take i) = true ∧ letB (s.drop i) = true := by
  simp only [letB, Bool.and_eq_true, decide_eq_true_eq, List.all_eq_true] at h ⊢
  exact ⟨⟨by rw [List.length_take]; omega, fun x hx => h.2 x (List.mem_of_mem_take hx)⟩, ⟨by rw [List.length_drop]; omega, fun x hx => h.2 x (List.mem_of_mem_drop hx)⟩⟩
theorem word_parts {s : Str} {i : Nat} (h : wordB s = true) (hi : i ≤ s.length) : (i = 0 ∨ wordB (s.take i) = true) ∧ (i = s.length ∨ wordB (s.drop i) = true) := by
  simp only [wordB, Bool.and_eq_true, decide_eq_true_eq, List.all_eq_true] at h ⊢
  refine ⟨?_, ?_⟩
  · by_cases h0 : i = 0
    · exact .inl h0
    · exact .inr ⟨by rw [List.length_take]; omega, fun x hx => h.2 x (List.mem_of_mem_take hx)⟩
  · by_cases h0 : i = s.length
    · exact .inl h0
    · exact .inr ⟨by rw [List.length_drop]; omega, fun x hx => h.2 x (List.mem_of_mem_drop hx)⟩
theorem c_Texts (l : List Int) (s : Str) (n : Int) : PC env 9 [⟨.sl (.int .u8), l⟩, ⟨.str, s⟩, ⟨.int .u8, n⟩] .bool true := by
  refine PC.of_PW (m := 2000) env_ok fn_9 rfl rfl rfl rfl (by kernel_rfl) ?_; intro hx; simp only [Tryd.f9]; simp only [go_sem, Nat.reduceBEq, ↓reduceIte, ↓reduceDIte, Nat.reduceAdd, Nat.reduceSub, Nat.reduceMul, Nat.reduceLeDiff, ← Bool.decide_and, ← Bool.decide_or, ← decide_not, Int.reduceLT, Int.reduceLE, Int.reduceToNat, Int.reduceNeg, by32, by10, Int.reduceEq, not_true_eq_false, not_false_eq_true, false_implies]
  have hn := u8_of hx.2.2.1
  dsimp only at hn
  have t1 : Int.tmod n 25 = n % 25 := Int.tmod_eq_emod_of_nonneg hn.1
  have t2 : Int.tmod n ((s.length : Int) + 1) = n % ((s.length : Int) + 1) := Int.tmod_eq_emod_of_nonneg hn.1
  have m1 := Int.emod_nonneg n (b := (s.length : Int) + 1) (by omega)
  have m2 := Int.emod_lt_of_pos n (b := (s.length : Int) + 1) (by omega)
  rw [t1]
  have ka := c_Input l 25 ⟨by decide, by decide⟩
  have kb := c_Input l (n % 25) ⟨by omega, by omega⟩
  have la := input_len l 25
  have lb := input_len l (n % 25)
  have aa := input_low l 25
  have ab := input_low l (n % 25)
  generalize inputE l 25 = a at ka la aa
  generalize inputE l (n % 25) = b at kb lb ab
  generalize n % ((s.length : Int) + 1) = i at m1 m2 t2
  have la' : a.length ≤ 25 := la
  have hla : letB a = true := by simp [letB, aa]; omega
  have hlb : letB b = true := by simp [letB, ab]; omega
  have hwa : wordB a = decide (1 ≤ a.length ∧ a.length ≤ 20) := by unfold wordB; rw [low_aln aa, Bool.and_true]
  have hlo : letB (a ++ b) = decide ((a ++ b).length ≤ 40) := by unfold letB; rw [List.all_append, aa, ab]; simp
  have hwo : wordB (a ++ b) = decide (1 ≤ (a ++ b).length ∧ (a ++ b).length ≤ 20) := by unfold wordB; rw [List.all_append, low_aln aa, low_aln ab]; simp
  refine ⟨_, c_sanity, fun _ => rfl, fun g0 => ⟨_, ka, fun _ => ⟨_, kb, fun _ => ⟨by omega, _, c_Letters s, _, c_Letters2 s, PK_cast (b' := false) (by cases letB s <;> rfl) ?_⟩⟩⟩⟩
  simp only [go_sem, Nat.reduceBEq, ↓reduceIte, ↓reduceDIte, Nat.reduceAdd, Nat.reduceSub, Nat.reduceMul, Nat.reduceLeDiff, ← Bool.decide_and, ← Bool.decide_or, ← decide_not, Int.reduceLT, Int.reduceLE, Int.reduceToNat, Int.reduceNeg, by32, by10, Int.reduceEq, not_true_eq_false, not_false_eq_true, false_implies]
  refine ⟨_, c_Word s, _, c_Word2 s, PK_cast (b' := false) (by cases wordB s <;> rfl) ?_⟩
  simp only [go_sem, Nat.reduceBEq, ↓reduceIte, ↓reduceDIte, Nat.reduceAdd, Nat.reduceSub, Nat.reduceMul, Nat.reduceLeDiff, ← Bool.decide_and, ← Bool.decide_or, ← decide_not, Int.reduceLT, Int.reduceLE, Int.reduceToNat, Int.reduceNeg, by32, by10, Int.reduceEq, not_true_eq_false, not_false_eq_true, false_implies]
  have k1 := c_Letters a
  have k2 := c_Letters b
  have k3 := c_Word a
  have k4 := (c_Letters (a ++ b)).dec
  have k5 := c_Word (a ++ b)
  rw [hla] at k1
  rw [hlb] at k2
  refine ⟨_, k1, ?_⟩
  simp only [go_sem, Nat.reduceBEq, ↓reduceIte, ↓reduceDIte, Nat.reduceAdd, Nat.reduceSub, Nat.reduceMul, Nat.reduceLeDiff, ← Bool.decide_and, ← Bool.decide_or, ← decide_not, Int.reduceLT, Int.reduceLE, Int.reduceToNat, Int.reduceNeg, by32, by10, Int.reduceEq, not_true_eq_false, not_false_eq_true, false_implies]
  refine ⟨_, k2, PK_cast (b' := false) rfl ?_⟩
  simp only [go_sem, Nat.reduceBEq, ↓reduceIte, ↓reduceDIte, Nat.reduceAdd, Nat.reduceSub, Nat.reduceMul, Nat.reduceLeDiff, ← Bool.decide_and, ← Bool.decide_or, ← decide_not, Int.reduceLT, Int.reduceLE, Int.reduceToNat, Int.reduceNeg, by32, by10, Int.reduceEq, not_true_eq_false, not_false_eq_true, false_implies]
  rw [hwa] at k3
  refine ⟨_, k3, ?_⟩
  refine ⟨fun g1 => PB_cast (b' := false) (by by_cases h : a.length ≤ 20 <;> simp [h] <;> omega) ?_, fun g1 => PB_cast (b' := false) (by simp; omega) ?_⟩
  all_goals
    simp only [go_sem, Nat.reduceBEq, ↓reduceIte, ↓reduceDIte, Nat.reduceAdd, Nat.reduceSub, Nat.reduceMul, Nat.reduceLeDiff, ← Bool.decide_and, ← Bool.decide_or, ← decide_not, Int.reduceLT, Int.reduceLE, Int.reduceToNat, Int.reduceNeg, by32, by10, Int.reduceEq, not_true_eq_false, not_false_eq_true, false_implies]
    rw [hlo] at k4
    rw [hwo] at k5
    refine ⟨_, k4, PK_cast (b' := false) (by by_cases h : (a ++ b).length ≤ 40 <;> simp only [h, decide_true, decide_false] <;> simp <;> simp at h <;> omega) ?_⟩
    simp only [go_sem, Nat.reduceBEq, ↓reduceIte, ↓reduceDIte, Nat.reduceAdd, Nat.reduceSub, Nat.reduceMul, Nat.reduceLeDiff, ← Bool.decide_and, ← Bool.decide_or, ← decide_not, Int.reduceLT, Int.reduceLE, Int.reduceToNat, Int.reduceNeg, by32, by10, Int.reduceEq, not_true_eq_false, not_false_eq_true, false_implies]
    refine ⟨_, k5, fun g2 => PB_cast (b' := false) (by by_cases h : (a ++ b).length ≤ 20 <;> simp only [h, decide_true, decide_false] <;> simp <;> simp at h g2 <;> omega) ?_, fun g2 => PB_cast (b' := false) (by simp only [List.length_append] at g2 ⊢; simp; omega) ?_⟩
    all_goals
      simp only [go_sem, Nat.reduceBEq, ↓reduceIte, ↓reduceDIte, Nat.reduceAdd, Nat.reduceSub, Nat.reduceMul, Nat.reduceLeDiff, ← Bool.decide_and, ← Bool.decide_or, ← decide_not, Int.reduceLT, Int.reduceLE, Int.reduceToNat, Int.reduceNeg, by32, by10, Int.reduceEq, not_true_eq_false, not_false_eq_true, false_implies]
      rw [t2]
      refine ⟨⟨by omega, by omega⟩, by show (0:Int) < _; omega, _, c_Letters s, ?_⟩
      cases hL : letB s
      · simp only [go_sem, Nat.reduceBEq, ↓reduceIte, ↓reduceDIte, Nat.reduceAdd, Nat.reduceSub, Nat.reduceMul, Nat.reduceLeDiff, ← Bool.decide_and, ← Bool.decide_or, ← decide_not, Int.reduceLT, Int.reduceLE, Int.reduceToNat, Int.reduceNeg, by32, by10, Int.reduceEq, not_true_eq_false, not_false_eq_true, false_implies]
        refine ⟨_, c_Word s, ?_⟩
        cases hW : wordB s
        · simp only [go_sem, Nat.reduceBEq, ↓reduceIte, ↓reduceDIte, Nat.reduceAdd, Nat.reduceSub, Nat.reduceMul, Nat.reduceLeDiff, ← Bool.decide_and, ← Bool.decide_or, ← decide_not, Int.reduceLT, Int.reduceLE, Int.reduceToNat, Int.reduceNeg, by32, by10, Int.reduceEq, not_true_eq_false, not_false_eq_true, false_implies]
        · have wt : ¬ i = 0 → PC env 25 [⟨.str, s.take i.toNat⟩] .bool true := fun h0 => by
            have := (word_parts hW (i := i.toNat) (by omega)).1.resolve_left (by omega)
            rw [← this]; exact c_Word _
          have wd : ¬ i = (s.length : Int) → PC env 25 [⟨.str, s.drop i.toNat⟩] .bool true := fun h0 => by
            have := (word_parts hW (i := i.toNat) (by omega)).2.resolve_left (by omega)
            rw [← this]; exact c_Word _
          simp only [go_sem, Nat.reduceBEq, ↓reduceIte, ↓reduceDIte, Nat.reduceAdd, Nat.reduceSub, Nat.reduceMul, Nat.reduceLeDiff, ← Bool.decide_and, ← Bool.decide_or, ← decide_not, Int.reduceLT, Int.reduceLE, Int.reduceToNat, Int.reduceNeg, by32, by10, Int.reduceEq, not_true_eq_false, not_false_eq_true, false_implies]
          refine ⟨fun h0 => ⟨⟨by omega, by omega⟩, _, wt h0, ?_⟩, fun h0 => ⟨fun h1 => ⟨⟨by omega, by omega⟩, _, wd h1, ?_⟩, fun h1 => ?_⟩⟩
          · simp only [go_sem, Nat.reduceBEq, ↓reduceIte, ↓reduceDIte, Nat.reduceAdd, Nat.reduceSub, Nat.reduceMul, Nat.reduceLeDiff, ← Bool.decide_and, ← Bool.decide_or, ← decide_not, Int.reduceLT, Int.reduceLE, Int.reduceToNat, Int.reduceNeg, by32, by10, Int.reduceEq, not_true_eq_false, not_false_eq_true, false_implies]
            refine ⟨fun h1 => ⟨⟨by omega, by omega⟩, _, wd h1, ?_⟩, fun h1 => ?_⟩
            · simp only [go_sem, Nat.reduceBEq, ↓reduceIte, ↓reduceDIte, Nat.reduceAdd, Nat.reduceSub, Nat.reduceMul, Nat.reduceLeDiff, ← Bool.decide_and, ← Bool.decide_or, ← decide_not, Int.reduceLT, Int.reduceLE, Int.reduceToNat, Int.reduceNeg, by32, by10, Int.reduceEq, not_true_eq_false, not_false_eq_true, false_implies]
            · trivial
          · simp only [go_sem, Nat.reduceBEq, ↓reduceIte, ↓reduceDIte, Nat.reduceAdd, Nat.reduceSub, Nat.reduceMul, Nat.reduceLeDiff, ← Bool.decide_and, ← Bool.decide_or, ← decide_not, Int.reduceLT, Int.reduceLE, Int.reduceToNat, Int.reduceNeg, by32, by10, Int.reduceEq, not_true_eq_false, not_false_eq_true, false_implies]
          · trivial
      · have lt : PC env 23 [⟨.str, s.take i.toNat⟩] .bool true := by rw [← (let_parts hL (i := i.toNat)).1]; exact c_Letters _
        have ld : PC env 23 [⟨.str, s.drop i.toNat⟩] .bool true := by rw [← (let_parts hL (i := i.toNat)).2]; exact c_Letters _
        simp only [go_sem, Nat.reduceBEq, ↓reduceIte, ↓reduceDIte, Nat.reduceAdd, Nat.reduceSub, Nat.reduceMul, Nat.reduceLeDiff, ← Bool.decide_and, ← Bool.decide_or, ← decide_not, Int.reduceLT, Int.reduceLE, Int.reduceToNat, Int.reduceNeg, by32, by10, Int.reduceEq, not_true_eq_false, not_false_eq_true, false_implies]
        refine ⟨⟨by omega, by omega⟩, _, lt, ?_⟩
        simp only [go_sem, Nat.reduceBEq, ↓reduceIte, ↓reduceDIte, Nat.reduceAdd, Nat.reduceSub, Nat.reduceMul, Nat.reduceLeDiff, ← Bool.decide_and, ← Bool.decide_or, ← decide_not, Int.reduceLT, Int.reduceLE, Int.reduceToNat, Int.reduceNeg, by32, by10, Int.reduceEq, not_true_eq_false, not_false_eq_true, false_implies]
        refine ⟨⟨by omega, by omega⟩, _, ld, ?_⟩
        simp only [go_sem, Nat.reduceBEq, ↓reduceIte, ↓reduceDIte, Nat.reduceAdd, Nat.reduceSub, Nat.reduceMul, Nat.reduceLeDiff, ← Bool.decide_and, ← Bool.decide_or, ← decide_not, Int.reduceLT, Int.reduceLE, Int.reduceToNat, Int.reduceNeg, by32, by10, Int.reduceEq, not_true_eq_false, not_false_eq_true, false_implies]
        refine ⟨_, c_Word s, ?_⟩
        cases hW : wordB s
        · simp only [go_sem, Nat.reduceBEq, ↓reduceIte, ↓reduceDIte, Nat.reduceAdd, Nat.reduceSub, Nat.reduceMul, Nat.reduceLeDiff, ← Bool.decide_and, ← Bool.decide_or, ← decide_not, Int.reduceLT, Int.reduceLE, Int.reduceToNat, Int.reduceNeg, by32, by10, Int.reduceEq, not_true_eq_false, not_false_eq_true, false_implies]
        · have wt : ¬ i = 0 → PC env 25 [⟨.str, s.take i.toNat⟩] .bool true := fun h0 => by
            have := (word_parts hW (i := i.toNat) (by omega)).1.resolve_left (by omega)
            rw [← this]; exact c_Word _
          have wd : ¬ i = (s.length : Int) → PC env 25 [⟨.str, s.drop i.toNat⟩] .bool true := fun h0 => by
            have := (word_parts hW (i := i.toNat) (by omega)).2.resolve_left (by omega)
            rw [← this]; exact c_Word _
          simp only [go_sem, Nat.reduceBEq, ↓reduceIte, ↓reduceDIte, Nat.reduceAdd, Nat.reduceSub, Nat.reduceMul, Nat.reduceLeDiff, ← Bool.decide_and, ← Bool.decide_or, ← decide_not, Int.reduceLT, Int.reduceLE, Int.reduceToNat, Int.reduceNeg, by32, by10, Int.reduceEq, not_true_eq_false, not_false_eq_true, false_implies]
          refine ⟨fun h0 => ⟨⟨by omega, by omega⟩, _, wt h0, ?_⟩, fun h0 => ⟨fun h1 => ⟨⟨by omega, by omega⟩, _, wd h1, ?_⟩, fun h1 => ?_⟩⟩
          · simp only [go_sem, Nat.reduceBEq, ↓reduceIte, ↓reduceDIte, Nat.reduceAdd, Nat.reduceSub, Nat.reduceMul, Nat.reduceLeDiff, ← Bool.decide_and, ← Bool.decide_or, ← decide_not, Int.reduceLT, Int.reduceLE, Int.reduceToNat, Int.reduceNeg, by32, by10, Int.reduceEq, not_true_eq_false, not_false_eq_true, false_implies]
            refine ⟨fun h1 => ⟨⟨by omega, by omega⟩, _, wd h1, ?_⟩, fun h1 => ?_⟩
            · simp only [go_sem, Nat.reduceBEq, ↓reduceIte, ↓reduceDIte, Nat.reduceAdd, Nat.reduceSub, Nat.reduceMul, Nat.reduceLeDiff, ← Bool.decide_and, ← Bool.decide_or, ← decide_not, Int.reduceLT, Int.reduceLE, Int.reduceToNat, Int.reduceNeg, by32, by10, Int.reduceEq, not_true_eq_false, not_false_eq_true, false_implies]
            · trivial
          · simp only [go_sem, Nat.reduceBEq, ↓reduceIte, ↓reduceDIte, Nat.reduceAdd, Nat.reduceSub, Nat.reduceMul, Nat.reduceLeDiff, ← Bool.decide_and, ← Bool.decide_or, ← decide_not, Int.reduceLT, Int.reduceLE, Int.reduceToNat, Int.reduceNeg, by32, by10, Int.reduceEq, not_true_eq_false, not_false_eq_true, false_implies]
          · trivial
end Go.Proofs.YtcmolphllladbaaDoor
namespace Go.Proofs.YtcmolphllladbaaDoor
open Go.ChangeShapes Go.WideShapes Go.ChangeAt Go.RowKit
theorem texts_all (xs : List (Sigma Ty.den)) (h : xs.map (·.1) = [.sl (.int .u8), .str, .int .u8]) : PC env 9 xs .bool true := by
  match xs, h with
  | [⟨_, y0⟩, ⟨_, y1⟩, ⟨_, y2⟩], h =>
    injection h with h1 h
    injection h with h2 h
    injection h with h3 h
    dsimp only at h1 h2 h3
    subst h1 h2 h3
    exact c_Texts y0 y1 y2
set_option maxRecDepth 100000 in
theorem texts_lifted (os : Os) (started : os.Started) (H : Type) (enc : TypeId × Value → H) :
    ReturnsInHanded {} Tryd.checked os 9 .any (Rows.schemeTextsRow.pre enc Tryd.prog Tryd.f9 (OpenSpec.ofChange Rows.schemeTextsSpec)) (Rows.schemeTextsSpec.post enc Tryd.prog Tryd.f9 false true false false) := by
  rw [pre_laid (c := Rows.schemeTextsRow) (s := Rows.schemeTextsSpec) rfl]
  refine lift_laid (C := Tryd.checked) (X := fun w _ => laidMet Tryd.prog laidL w) laid_heap own_none started (by kernel_rfl) fn_9
    (ChangeSpec.witness_at (enc := enc) (C := Tryd.checked) (X := fun w _ => laidMet Tryd.prog laidL w) false (laidWorld os) #[.slice none 0 0, .string ⟨#[]⟩, .int .u8 0] 8 (by kernel_rfl) (by kernel_rfl) (by kernel_rfl) (by kernel_rfl) (by kernel_rfl) (by kernel_rfl) (laid_met os _)) ?_
  intro W base args ds gs before hval hW hx hsh
  refine law_calls (E := env) (b0 := base) (Ts := [.sl (.int .u8), .str, .int .u8]) (tb := 4) env_ok laid_out (of_decide_eq_true (by kernel_rfl)) rfl rfl rfl (by kernel_rfl) rfl ?_ texts_all (tabs_of hsh hx) hval hW
  intro ds hds
  match ds, hds with
  | [d0, d1, d2], _ => rfl
theorem texts_holds : Rows.SchemeTextsSaid :=
  OpenClaim.holds_of_wide 9 Tryd.f9 rfl rfl rfl rfl rfl rfl rfl ⟨rfl, rfl, rfl, rfl, rfl⟩ rfl rfl rfl rfl rfl (by kernel_rfl) fn_9 (by kernel_rfl)
    (of_decide_eq_true (by kernel_rfl)) (by unfold Func.isWrapper; first | (rw [if_pos (by decide +kernel)]; kernel_rfl) | (rw [if_neg (by decide +kernel)]; exact ⟨rfl, rfl⟩))
    (fun os started H enc _ => texts_lifted os started H enc)
theorem texts_card : Rows.SchemeTextsCardSaid :=
  Claim7.holds_tied_plain_at .later [] [.data, .data, .data, .data, .pinned] true (true, "34baf661d054b563b50d6273a2529c45ae94fe38806658fc0c33bd088ca5fb84") false
    texts_holds (fun _ h => by cases h) (by kernel_rfl) (fun _ h => by cases h) schemeTexts_row_tie rfl ⟨rfl, rfl⟩ (by kernel_rfl) rfl
    (fun f fn hf hfn => by
      obtain rfl : f = 9 := Option.some.inj ((show Tryd.prog.funcNamed "syllabary/syllabarylaw02.SchemeTexts" = some 9 by kernel_rfl).symm.trans hf) |>.symm
      obtain rfl : fn = Tryd.f9 := (Option.some.inj (fn_9.symm.trans hfn)).symm
      exact ⟨by kernel_rfl, fun j t ht => by
        have hall : (Tryd.f9.params.toList.all fun u => !Tryd.prog.wantsStandIn u) = true := by kernel_rfl
        have hm : t ∈ Tryd.f9.params.toList := Array.mem_toList_iff.2 (Array.mem_of_getElem? ht)
        exact (show Tryd.prog.wantsStandIn t = false by simpa using List.all_eq_true.1 hall t hm)⟩)
    (by kernel_rfl)
end Go.Proofs.YtcmolphllladbaaDoor
