/- The law LearnMatchesReference holds for every input. No condition. -/
import Derived.Test.YtnncphnpajkojaaB5
import Derived.Test.YtnncphnpajkojaaRows
set_option linter.unusedSimpArgs false
set_option linter.unusedVariables false
namespace Go.Proofs.Ytnncphnpajkojaa
set_option maxHeartbeats 4000000
set_option maxRecDepth 100000
def seenR (l : List Rec) : List Rec := l.foldl (frontI ltS) []
theorem seenR_snoc {l : List Rec} {k : Nat} {x : Rec} (h : l[k]? = some x) : seenR (l.take (k + 1)) = frontI ltS (seenR (l.take k)) x := by
  unfold seenR
  rw [take_snoc h, List.foldl_append]
  rfl
theorem seenR_at {l : List Rec} (hs : Srt plR l) : ∀ k, k ≤ l.length → SrtL ltS (seenR (l.take k)) ∧ (∀ x, x ∈ seenR (l.take k) ↔ x ∈ l.take k) ∧ (seenR (l.take k)).length = k := by
  intro k
  induction k with
  | zero => intro _; exact ⟨List.Pairwise.nil, fun x => by simp [seenR], rfl⟩
  | succ k ih =>
    intro h
    obtain ⟨a, b, c⟩ := ih (by omega)
    obtain ⟨x, hx⟩ := get_of_lt (xs := l) (i := k) (by omega)
    rw [seenR_snoc hx]
    refine ⟨front_srt ltS_trans a fun y hy => ?_, fun y => ?_, ?_⟩
    · have hy' := (b y).1 hy
      obtain ⟨i, hi⟩ := List.getElem?_of_mem hy'
      rw [List.getElem?_take] at hi
      split at hi
      · rename_i hik
        have := srt_get hs hi hx hik
        exact (ltS_total fun e => by rw [e, befB_irr] at this; cases this).symm
      · cases hi
    · unfold frontI
      rw [mem_insAt, b, take_snoc hx, List.mem_append, List.mem_singleton]
      exact Or.comm
    · unfold frontI
      rw [len_insAt (List.takeWhile_sublist _).length_le, c]
theorem seenR_eq {l : List Rec} (hs : Srt plR l) : seenR l = seenS l := by
  obtain ⟨a, b, _⟩ := seenR_at hs l.length (Nat.le_refl _)
  rw [List.take_of_length_le (Nat.le_refl _)] at a b
  exact seen_one hs a b
theorem c_SeenR (u : Usr) (hs : Srt plR u.1) (hl : u.1.length ≤ 100000) : PC env 25 [⟨UserT, u⟩] (.sl RecordT) (seenS u.1) := by
  rw [← seenR_eq hs]
  refine PC.of_PW (m := 2000) env_ok fn_25 rfl rfl rfl rfl (by kernel_rfl) ?_; intro hx; simp only [Try.f25]; simp only [go_sem, Nat.reduceBEq, ↓reduceIte, ↓reduceDIte, Nat.reduceAdd, Nat.reduceSub, Nat.reduceMul, Nat.reduceLeDiff, ← Bool.decide_and, ← Bool.decide_or, ← decide_not, Int.reduceLT, Int.reduceLE, Int.reduceToNat, Int.reduceNeg]
  refine Walks.sealw [8] ?_
  simp only [go_sem, Nat.reduceBEq, ↓reduceIte, ↓reduceDIte, Nat.reduceAdd, Nat.reduceSub, Nat.reduceMul, Nat.reduceLeDiff, ← Bool.decide_and, ← Bool.decide_or, ← decide_not, Int.reduceLT, Int.reduceLE, Int.reduceToNat, Int.reduceNeg]
  refine Walks.loopA (X := Nat × List Rec) (fun (z : Nat × List Rec) => [(4, .iv (.int .i64) (z.1 : Int)), (3, .iv (.sl RecordT) z.2)]) (fun (z : Nat × List Rec) => []) (fun (z : Nat × List Rec) => z.1 ≤ u.1.length ∧ z.2 = seenR (u.1.take z.1)) (fun (z : Nat × List Rec) => u.1.length - z.1) (0, []) ?_; intro b1 b2 hb1 hb2; simp (config := {maxSteps := 4000000}) only [go_sem, Nat.reduceBEq, ↓reduceIte, ↓reduceDIte, Nat.reduceAdd, Nat.reduceSub, Nat.reduceMul, Nat.reduceLeDiff, ← Bool.decide_and, ← Bool.decide_or, ← decide_not, Int.reduceLT, Int.reduceLE, Int.reduceToNat, Int.reduceNeg] at hb1 hb2; subst hb1; subst hb2; refine ⟨(by refine ⟨?_, ?_, rfl, rfl⟩ <;> repeat' (first | exact trivial | (refine And.intro (Or.inl rfl) ?_) | (refine And.intro (Or.inr (Or.inl rfl)) ?_) | (refine And.intro (Or.inr (Or.inr (Or.inr ⟨rfl, rfl⟩))) ?_) | rfl | (refine And.intro (Or.inl ?_) ?_) | (refine And.intro ?_ ?_))), ?_, ?_⟩
  · exact ⟨Nat.zero_le _, rfl⟩
  intro ⟨k, out⟩ ⟨hk, ho⟩ back
  dsimp only at hk ho
  have hol : out.length = k := by rw [ho]; exact (seenR_at hs k hk).2.2
  refine PW_sound env_ok ⟨_, fn_25, rfl⟩ 2000 _ _ (by kernel_rfl) ?_; simp only [go_sem, Nat.reduceBEq, ↓reduceIte, ↓reduceDIte, Nat.reduceAdd, Nat.reduceSub, Nat.reduceMul, Nat.reduceLeDiff, ← Bool.decide_and, ← Bool.decide_or, ← decide_not, Int.reduceLT, Int.reduceLE, Int.reduceToNat, Int.reduceNeg]
  refine ⟨fun h1 => ?_, fun h1 => ?_⟩
  · obtain ⟨r, hr⟩ : ∃ r, u.1[k]? = some r := get_of_lt (by omega)
    have hst := seenR_snoc hr
    rw [← ho] at hst
    refine ⟨Int.natCast_nonneg _, r, hr, ?_⟩
    refine Walks.loopA (X := Nat) (fun (j : Nat) => [(6, .iv (.int .i64) (j : Int))]) (fun (j : Nat) => []) (fun (j : Nat) => j ≤ out.length ∧ ∀ i x, i < j → out[i]? = some x → ltS x r = true) (fun (j : Nat) => out.length - j) 0 ?_; intro b1 b2 hb1 hb2; simp (config := {maxSteps := 4000000}) only [go_sem, Nat.reduceBEq, ↓reduceIte, ↓reduceDIte, Nat.reduceAdd, Nat.reduceSub, Nat.reduceMul, Nat.reduceLeDiff, ← Bool.decide_and, ← Bool.decide_or, ← decide_not, Int.reduceLT, Int.reduceLE, Int.reduceToNat, Int.reduceNeg] at hb1 hb2; subst hb1; subst hb2; refine ⟨(by refine ⟨?_, ?_, rfl, rfl⟩ <;> repeat' (first | exact trivial | (refine And.intro (Or.inl rfl) ?_) | (refine And.intro (Or.inr (Or.inl rfl)) ?_) | (refine And.intro (Or.inr (Or.inr (Or.inr ⟨rfl, rfl⟩))) ?_) | rfl | (refine And.intro (Or.inl ?_) ?_) | (refine And.intro ?_ ?_))), ?_, ?_⟩
    · exact ⟨Nat.zero_le _, fun i x h => absurd h (Nat.not_lt_zero i)⟩
    intro j ⟨hj, hlt⟩ backj
    refine PW_sound env_ok ⟨_, fn_25, rfl⟩ 2000 _ _ (by kernel_rfl) ?_; simp only [go_sem, Nat.reduceBEq, ↓reduceIte, ↓reduceDIte, Nat.reduceAdd, Nat.reduceSub, Nat.reduceMul, Nat.reduceLeDiff, ← Bool.decide_and, ← Bool.decide_or, ← decide_not, Int.reduceLT, Int.reduceLE, Int.reduceToNat, Int.reduceNeg]
    have hend : (∀ x, out[j]? = some x → ltS x r = false) → (out.takeWhile (fun y => ltS y r)).length = j := fun h => takeW_len hj hlt h
    have hstep : ∀ x, out[j]? = some x → ltS x r = true → ∀ i y, i < j + 1 → out[i]? = some y → ltS y r = true := fun x hx hxr i y hi hy => by
      by_cases e : i = j
      · subst e; rw [hx] at hy; injection hy with hy; subst hy; exact hxr
      · exact hlt i y (by omega) hy
    refine ⟨fun h2 => ?_, fun h2 => ?_⟩
    · obtain ⟨x, hx⟩ : ∃ x, out[j]? = some x := get_of_lt (by omega)
      refine ⟨Int.natCast_nonneg _, x, hx, fun h3 => ⟨Int.natCast_nonneg _, x, hx, fun h4 => ⟨Int.natCast_nonneg _, x, hx, Int.natCast_nonneg _, x, hx, _, (c_before _ _).dec, ?_⟩, fun h4 => ?_⟩, fun h3 => ?_⟩
      · simp only [go_sem, Nat.reduceBEq, ↓reduceIte, ↓reduceDIte, Nat.reduceAdd, Nat.reduceSub, Nat.reduceMul, Nat.reduceLeDiff, ← Bool.decide_and, ← Bool.decide_or, ← decide_not, Int.reduceLT, Int.reduceLE, Int.reduceToNat, Int.reduceNeg]
        refine ⟨fun h5 => ?_, fun h5 => ?_⟩
        · exact ⟨i64_ok (by omega) (by omega), backj _ (j + 1) (by refine ⟨?_, ?_, rfl, rfl⟩ <;> repeat' (first | exact trivial | (refine And.intro (Or.inl rfl) ?_) | (refine And.intro (Or.inr (Or.inl rfl)) ?_) | (refine And.intro (Or.inr (Or.inr (Or.inr ⟨rfl, rfl⟩))) ?_) | rfl | (refine And.intro (Or.inl ?_) ?_) | (refine And.intro ?_ ?_))) ⟨by omega, hstep x hx (cmpS_neg.2 (.inr ⟨h4, h5⟩))⟩ (by omega)⟩
        · have hT := hend (fun y hy => by rw [hx] at hy; injection hy with hy; subst hy; rw [Bool.eq_false_iff]; intro hh; rcases cmpS_neg.1 hh with hh | hh; exact h3 hh; exact h5 hh.2)
          have hf : frontI ltS out r = out.take j ++ [r] ++ out.drop j := by unfold frontI; rw [hT]; simp [insAt]
          have l1 : (out.take j).length = j := by rw [List.length_take]; omega
          have l2 : (out.drop j).length = out.length - j := by rw [List.length_drop]
          refine ⟨⟨by omega, by omega⟩, by omega, by omega, ⟨by omega, by omega⟩, ?_, i64_ok (by omega) (by omega), ?_⟩
          · rw [List.length_append]
            simp only [List.length_cons, List.length_nil]
            omega
          refine Walks.sealw [66] ?_
          simp only [go_sem, Nat.reduceBEq, ↓reduceIte, ↓reduceDIte, Nat.reduceAdd, Nat.reduceSub, Nat.reduceMul, Nat.reduceLeDiff, ← Bool.decide_and, ← Bool.decide_or, ← decide_not, Int.reduceLT, Int.reduceLE, Int.reduceToNat, Int.reduceNeg]
          exact back _ (k + 1, out.take j ++ [r] ++ out.drop j) (by refine ⟨?_, ?_, rfl, rfl⟩ <;> repeat' (first | exact trivial | (refine And.intro (Or.inl rfl) ?_) | (refine And.intro (Or.inr (Or.inl rfl)) ?_) | (refine And.intro (Or.inr (Or.inr (Or.inr ⟨rfl, rfl⟩))) ?_) | rfl | (refine And.intro (Or.inl ?_) ?_) | (refine And.intro ?_ ?_))) ⟨by dsimp only; omega, by dsimp only; rw [hst, hf]⟩ (by dsimp only; omega)
      · have hT := hend (fun y hy => by rw [hx] at hy; injection hy with hy; subst hy; rw [Bool.eq_false_iff]; intro hh; rcases cmpS_neg.1 hh with hh | hh; exact h3 hh; exact h4 hh.1)
        have hf : frontI ltS out r = out.take j ++ [r] ++ out.drop j := by unfold frontI; rw [hT]; simp [insAt]
        have l1 : (out.take j).length = j := by rw [List.length_take]; omega
        have l2 : (out.drop j).length = out.length - j := by rw [List.length_drop]
        refine ⟨⟨by omega, by omega⟩, by omega, by omega, ⟨by omega, by omega⟩, ?_, i64_ok (by omega) (by omega), ?_⟩
        · rw [List.length_append]
          simp only [List.length_cons, List.length_nil]
          omega
        refine Walks.sealw [66] ?_
        simp only [go_sem, Nat.reduceBEq, ↓reduceIte, ↓reduceDIte, Nat.reduceAdd, Nat.reduceSub, Nat.reduceMul, Nat.reduceLeDiff, ← Bool.decide_and, ← Bool.decide_or, ← decide_not, Int.reduceLT, Int.reduceLE, Int.reduceToNat, Int.reduceNeg]
        exact back _ (k + 1, out.take j ++ [r] ++ out.drop j) (by refine ⟨?_, ?_, rfl, rfl⟩ <;> repeat' (first | exact trivial | (refine And.intro (Or.inl rfl) ?_) | (refine And.intro (Or.inr (Or.inl rfl)) ?_) | (refine And.intro (Or.inr (Or.inr (Or.inr ⟨rfl, rfl⟩))) ?_) | rfl | (refine And.intro (Or.inl ?_) ?_) | (refine And.intro ?_ ?_))) ⟨by dsimp only; omega, by dsimp only; rw [hst, hf]⟩ (by dsimp only; omega)
      · exact ⟨i64_ok (by omega) (by omega), backj _ (j + 1) (by refine ⟨?_, ?_, rfl, rfl⟩ <;> repeat' (first | exact trivial | (refine And.intro (Or.inl rfl) ?_) | (refine And.intro (Or.inr (Or.inl rfl)) ?_) | (refine And.intro (Or.inr (Or.inr (Or.inr ⟨rfl, rfl⟩))) ?_) | rfl | (refine And.intro (Or.inl ?_) ?_) | (refine And.intro ?_ ?_))) ⟨by omega, hstep x hx (cmpS_neg.2 (.inl h3))⟩ (by omega)⟩
    · have hT := hend (fun y hy => by have := (List.getElem?_eq_some_iff.1 hy).1; omega)
      have hf : frontI ltS out r = out.take j ++ [r] ++ out.drop j := by unfold frontI; rw [hT]; simp [insAt]
      have l1 : (out.take j).length = j := by rw [List.length_take]; omega
      have l2 : (out.drop j).length = out.length - j := by rw [List.length_drop]
      refine ⟨⟨by omega, by omega⟩, by omega, by omega, ⟨by omega, by omega⟩, ?_, i64_ok (by omega) (by omega), ?_⟩
      · rw [List.length_append]
        simp only [List.length_cons, List.length_nil]
        omega
      refine Walks.sealw [66] ?_
      simp only [go_sem, Nat.reduceBEq, ↓reduceIte, ↓reduceDIte, Nat.reduceAdd, Nat.reduceSub, Nat.reduceMul, Nat.reduceLeDiff, ← Bool.decide_and, ← Bool.decide_or, ← decide_not, Int.reduceLT, Int.reduceLE, Int.reduceToNat, Int.reduceNeg]
      exact back _ (k + 1, out.take j ++ [r] ++ out.drop j) (by refine ⟨?_, ?_, rfl, rfl⟩ <;> repeat' (first | exact trivial | (refine And.intro (Or.inl rfl) ?_) | (refine And.intro (Or.inr (Or.inl rfl)) ?_) | (refine And.intro (Or.inr (Or.inr (Or.inr ⟨rfl, rfl⟩))) ?_) | rfl | (refine And.intro (Or.inl ?_) ?_) | (refine And.intro ?_ ?_))) ⟨by dsimp only; omega, by dsimp only; rw [hst, hf]⟩ (by dsimp only; omega)
  · have e1 : u.1.take k = u.1 := List.take_of_length_le (by omega)
    rw [ho, e1]
end Go.Proofs.Ytnncphnpajkojaa
namespace Go.Proofs.Ytnncphnpajkojaa
set_option maxHeartbeats 4000000
set_option maxRecDepth 100000
theorem c_Matches (l : List Raw6) (w : Int × Int) : PC env 3 [⟨.sl RawT, l⟩, ⟨.st (.pair (.int .u8) (.int .u8)), w⟩] .bool true := by
  refine PC.of_PW (m := 2000) env_ok fn_3 rfl rfl rfl rfl (by kernel_rfl) ?_; intro hx; simp only [Try.f3]; simp only [go_sem, Nat.reduceBEq, ↓reduceIte, ↓reduceDIte, Nat.reduceAdd, Nat.reduceSub, Nat.reduceMul, Nat.reduceLeDiff, ← Bool.decide_and, ← Bool.decide_or, ← decide_not, Int.reduceLT, Int.reduceLE, Int.reduceToNat, Int.reduceNeg]
  have hw1 := u8_of hx.2.1.1
  have hw2 := u8_of hx.2.1.2
  dsimp only at hw1 hw2
  have hll : l.length ≤ 9223372036854775807 := hx.1.1
  refine ⟨_, c_sanity, ?_⟩
  refine Walks.loopA (X := Nat × Usr) (fun (z : Nat × Usr) => [(7, .iv (.int .i64) (z.1 : Int))]) (fun (z : Nat × Usr) => [(6, .box [.iv (.sl RecordT) z.2.1, .iv (.sl OrderT) z.2.2.1, .iv (.int .i64) z.2.2.2.1, .iv (.int .i64) z.2.2.2.2.1, .iv (.int .i64) z.2.2.2.2.2.1, .iv (.int .i64) z.2.2.2.2.2.2.1, .iv (.int .i64) z.2.2.2.2.2.2.2.1, .iv (.int .i64) z.2.2.2.2.2.2.2.2.1, .iv (.int .i64) z.2.2.2.2.2.2.2.2.2.1, .iv (.int .i64) z.2.2.2.2.2.2.2.2.2.2])]) (fun (z : Nat × Usr) => z.1 ≤ l.length ∧ z.1 ≤ 14 ∧ z.2 = madeU (l.take z.1)) (fun (z : Nat × Usr) => 14 - z.1) (0, exU0) ?_; intro b1 b2 hb1 hb2; simp (config := {maxSteps := 4000000}) only [go_sem, Nat.reduceBEq, ↓reduceIte, ↓reduceDIte, Nat.reduceAdd, Nat.reduceSub, Nat.reduceMul, Nat.reduceLeDiff, ← Bool.decide_and, ← Bool.decide_or, ← decide_not, Int.reduceLT, Int.reduceLE, Int.reduceToNat, Int.reduceNeg] at hb1 hb2; subst hb1; subst hb2; refine ⟨(by refine ⟨?_, ?_, rfl, rfl⟩ <;> repeat' (first | exact trivial | (refine And.intro (Or.inl rfl) ?_) | (refine And.intro (Or.inr (Or.inl rfl)) ?_) | (refine And.intro (Or.inr (Or.inr (Or.inr ⟨rfl, rfl⟩))) ?_) | rfl | (refine And.intro (Or.inl ?_) ?_) | (refine And.intro ?_ ?_))), ?_, ?_⟩
  · exact ⟨Nat.zero_le _, Nat.zero_le _, rfl⟩
  intro ⟨k, u⟩ ⟨hk, hk14, hu⟩ back
  dsimp only at hk hk14 hu
  have hg := madeU_good hx.1.2 k hk (by omega)
  rw [← hu] at hg
  obtain ⟨hv, hf⟩ := hg
  refine PW_sound env_ok ⟨_, fn_3, rfl⟩ 2000 _ _ (by kernel_rfl) ?_; simp only [go_sem, Nat.reduceBEq, ↓reduceIte, ↓reduceDIte, Nat.reduceAdd, Nat.reduceSub, Nat.reduceMul, Nat.reduceLeDiff, ← Bool.decide_and, ← Bool.decide_or, ← decide_not, Int.reduceLT, Int.reduceLE, Int.reduceToNat, Int.reduceNeg]
  refine ⟨fun h1 => ⟨fun h2 => ?_, fun h2 => ?_⟩, fun h1 => ?_⟩
  · obtain ⟨x, hxi⟩ : ∃ x, l[k]? = some x := get_of_lt (by omega)
    have hxo : RawT.ok x := hx.1.2 x (List.mem_of_getElem? hxi)
    have h3 : ∀ i : Int, 0 ≤ i → i ≤ 7 → getL u.2.2 i ≤ 1000000 := fun i a b => (hv.last i a b).2
    have hl1 := hv.l1
    have hl2 := hv.l2
    have cF := c_Forget u (ordS x) (by omega)
    have cF2 := c_ForgetR u (ordS x) (by omega) (by omega) h3
    rw [forgetR_eq hv] at cF2
    have cL := c_learnt u (recS x)
    have cL2 := c_LearnR u (recS x) (by omega) h3
    rw [learnR_eq hv] at cL2
    have cst := c_StepR u x hv
    have hsn := madeU_snoc hxi
    rw [← hu] at hsn
    generalize (stepS u x).1 = u' at cst hsn
    generalize forgetS u (ordS x) = a at cF cF2
    generalize learnS u (recS x) = b at cL cL2
    have cs := c_sameLearnt b b
    rw [eqP_t rfl] at cs
    have cs2 := c_Same a.1 a.1
    rw [eqP_t rfl] at cs2
    refine ⟨Int.natCast_nonneg _, x, hxi, _, c_Order x, fun _ => ⟨_, cF, fun _ => ⟨Int.natCast_nonneg _, x, hxi, _, c_Order x, fun _ => ⟨_, cF2, fun _ => ⟨Int.natCast_nonneg _, x, hxi, _, c_Record x, fun _ => ⟨_, cL, fun _ => ⟨Int.natCast_nonneg _, x, hxi, _, c_Record x, fun _ => ⟨_, cL2, fun _ => ⟨_, cs, ?_⟩⟩⟩⟩⟩⟩⟩⟩⟩
    simp only [go_sem, Nat.reduceBEq, ↓reduceIte, ↓reduceDIte, Nat.reduceAdd, Nat.reduceSub, Nat.reduceMul, Nat.reduceLeDiff, ← Bool.decide_and, ← Bool.decide_or, ← decide_not, Int.reduceLT, Int.reduceLE, Int.reduceToNat, Int.reduceNeg]
    refine ⟨_, cs2, ?_⟩
    simp only [go_sem, Nat.reduceBEq, ↓reduceIte, ↓reduceDIte, Nat.reduceAdd, Nat.reduceSub, Nat.reduceMul, Nat.reduceLeDiff, ← Bool.decide_and, ← Bool.decide_or, ← decide_not, Int.reduceLT, Int.reduceLE, Int.reduceToNat, Int.reduceNeg]
    exact ⟨Int.natCast_nonneg _, x, hxi, _, cst, fun _ => ⟨i64_ok (by omega) (by omega), back _ (k + 1, u') (by refine ⟨?_, ?_, rfl, rfl⟩ <;> repeat' (first | exact trivial | (refine And.intro (Or.inl rfl) ?_) | (refine And.intro (Or.inr (Or.inl rfl)) ?_) | (refine And.intro (Or.inr (Or.inr (Or.inr ⟨rfl, rfl⟩))) ?_) | rfl | (refine And.intro (Or.inl ?_) ?_) | (refine And.intro ?_ ?_))) ⟨by dsimp only; omega, by dsimp only; omega, hsn.symm⟩ (by dsimp only; omega)⟩⟩
  · have hs1 := hv.l1
    have cse := c_SeenV u hv
    have cse2 := c_SeenR u hv.sR (by omega)
    have css := c_SameRecords (seenS u.1) (seenS u.1)
    rw [decide_eq_true rfl] at css
    rw [Int.tmod_eq_emod_of_nonneg hw2.1]
    have ha := Int.emod_nonneg w.2 (show (14 : Int) ≠ 0 by decide)
    have hb := Int.emod_lt_of_pos w.2 (show (0 : Int) < 14 by decide)
    refine ⟨_, c_WordR _, fun _ => ⟨_, c_Count u _ _ hv.tame, fun _ => ⟨_, c_CountR u _ _ hv.tame ⟨ha, by omega⟩, fun _ => ?_⟩⟩⟩
    refine ⟨fun _ => ⟨_, cse, fun _ => ⟨_, cse2, fun _ => ⟨_, css, ?_⟩⟩⟩, fun h => absurd rfl h⟩
    simp only [go_sem, Nat.reduceBEq, ↓reduceIte, ↓reduceDIte, Nat.reduceAdd, Nat.reduceSub, Nat.reduceMul, Nat.reduceLeDiff, ← Bool.decide_and, ← Bool.decide_or, ← decide_not, Int.reduceLT, Int.reduceLE, Int.reduceToNat, Int.reduceNeg]
  · have hs1 := hv.l1
    have cse := c_SeenV u hv
    have cse2 := c_SeenR u hv.sR (by omega)
    have css := c_SameRecords (seenS u.1) (seenS u.1)
    rw [decide_eq_true rfl] at css
    rw [Int.tmod_eq_emod_of_nonneg hw2.1]
    have ha := Int.emod_nonneg w.2 (show (14 : Int) ≠ 0 by decide)
    have hb := Int.emod_lt_of_pos w.2 (show (0 : Int) < 14 by decide)
    refine ⟨_, c_WordR _, fun _ => ⟨_, c_Count u _ _ hv.tame, fun _ => ⟨_, c_CountR u _ _ hv.tame ⟨ha, by omega⟩, fun _ => ?_⟩⟩⟩
    refine ⟨fun _ => ⟨_, cse, fun _ => ⟨_, cse2, fun _ => ⟨_, css, ?_⟩⟩⟩, fun h => absurd rfl h⟩
    simp only [go_sem, Nat.reduceBEq, ↓reduceIte, ↓reduceDIte, Nat.reduceAdd, Nat.reduceSub, Nat.reduceMul, Nat.reduceLeDiff, ← Bool.decide_and, ← Bool.decide_or, ← decide_not, Int.reduceLT, Int.reduceLE, Int.reduceToNat, Int.reduceNeg]
end Go.Proofs.Ytnncphnpajkojaa
namespace Go.Proofs.Ytnncphnpajkojaa
open Go.ChangeShapes Go.WideShapes Go.ChangeAt Go.RowKit
theorem own_none : ownKnob Try.prog.godebug = none := by kernel_rfl
theorem laid_out : laidOutB env.P = true := by kernel_rfl
theorem matches_all (xs : List (Sigma Ty.den)) (h : xs.map (·.1) = [.sl RawT, .st (.pair (.int .u8) (.int .u8))]) : PC env 3 xs .bool true := by
  match xs, h with
  | [⟨_, y0⟩, ⟨_, y1⟩], h =>
    injection h with h1 h
    injection h with h2 h
    dsimp only at h1 h2
    subst h1 h2
    exact c_Matches y0 y1
set_option maxRecDepth 100000 in
theorem matches_lifted (os : Os) (started : os.Started) (H : Type) (enc : TypeId × Value → H) :
    ReturnsInHanded {} Try.checked os 3 .any (Rows.learnMatchesReferenceSpec.pre6 enc Try.prog Try.f3 Rows.learnMatchesReferenceRow.domain false) (Rows.learnMatchesReferenceSpec.post enc Try.prog Try.f3 false true false false) := by
  refine returnsInHanded_of_change (C := Try.checked) own_none started (by kernel_rfl) fn_3
    (ChangeSpec.witness6 (enc := enc) (C := Try.checked) false ⟨#[], #[.slice none 0 0, .agg #[.int .u8 0, .int .u8 0]], []⟩ 8 (by kernel_rfl) (by kernel_rfl) (by kernel_rfl) (by kernel_rfl)) ?_
  intro W base args ds gs before hval hW _ _
  refine law_calls (E := env) (b0 := base) (Ts := [.sl RawT, .st (.pair (.int .u8) (.int .u8))]) (tb := 4) env_ok laid_out (of_decide_eq_true (by kernel_rfl)) rfl rfl rfl (by kernel_rfl) rfl ?_ matches_all hval hW
  intro ds hds
  match ds, hds with
  | [d0, d1], _ => rfl
theorem matches_holds : Rows.LearnMatchesReferenceSaid :=
  OpenClaim.holds_of_wide 3 Try.f3 rfl rfl rfl rfl rfl rfl rfl ⟨rfl, rfl, rfl, rfl, rfl⟩ rfl rfl rfl rfl rfl (by kernel_rfl) fn_3 (by kernel_rfl)
    (of_decide_eq_true (by kernel_rfl)) (by unfold Func.isWrapper; first | (rw [if_pos (by decide +kernel)]; kernel_rfl) | (rw [if_neg (by decide +kernel)]; exact ⟨rfl, rfl⟩))
    (fun os started H enc _ => matches_lifted os started H enc)
end Go.Proofs.Ytnncphnpajkojaa
