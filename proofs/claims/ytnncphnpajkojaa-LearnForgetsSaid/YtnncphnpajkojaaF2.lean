/- The law LearnForgets holds for every input. No condition. -/
import Derived.Test.YtnncphnpajkojaaB5
import Derived.Test.YtnncphnpajkojaaRows
set_option linter.unusedSimpArgs false
set_option linter.unusedVariables false
namespace Go.Proofs.Ytnncphnpajkojaa
set_option maxHeartbeats 4000000
set_option maxRecDepth 100000
theorem c_Forgets (l : List Raw6) : PC env 5 [⟨.sl RawT, l⟩] .bool true := by
  refine PC.of_PW (m := 2000) env_ok fn_5 rfl rfl rfl rfl (by kernel_rfl) ?_; intro hx; simp only [Try.f5]; simp only [go_sem, Nat.reduceBEq, ↓reduceIte, ↓reduceDIte, Nat.reduceAdd, Nat.reduceSub, Nat.reduceMul, Nat.reduceLeDiff, ← Bool.decide_and, ← Bool.decide_or, ← decide_not, Int.reduceLT, Int.reduceLE, Int.reduceToNat, Int.reduceNeg]
  refine ⟨_, c_sanity, ?_⟩
  refine Walks.sealw [12] ?_
  simp only [go_sem, Nat.reduceBEq, ↓reduceIte, ↓reduceDIte, Nat.reduceAdd, Nat.reduceSub, Nat.reduceMul, Nat.reduceLeDiff, ← Bool.decide_and, ← Bool.decide_or, ← decide_not, Int.reduceLT, Int.reduceLE, Int.reduceToNat, Int.reduceNeg]
  refine Walks.loopA (X := Nat × Usr × List Rec) (fun (z : Nat × Usr × List Rec) => [(6, .iv (.int .i64) (z.1 : Int)), (5, .iv (.sl RecordT) z.2.2)]) (fun (z : Nat × Usr × List Rec) => [(4, .box [.iv (.sl RecordT) z.2.1.1, .iv (.sl OrderT) z.2.1.2.1, .iv (.int .i64) z.2.1.2.2.1, .iv (.int .i64) z.2.1.2.2.2.1, .iv (.int .i64) z.2.1.2.2.2.2.1, .iv (.int .i64) z.2.1.2.2.2.2.2.1, .iv (.int .i64) z.2.1.2.2.2.2.2.2.1, .iv (.int .i64) z.2.1.2.2.2.2.2.2.2.1, .iv (.int .i64) z.2.1.2.2.2.2.2.2.2.2.1, .iv (.int .i64) z.2.1.2.2.2.2.2.2.2.2.2])]) (fun (z : Nat × Usr × List Rec) => z.1 ≤ l.length ∧ z.1 ≤ 16 ∧ AllOf z.1 z.2.1 z.2.2) (fun (z : Nat × Usr × List Rec) => 16 - z.1) (0, exU0, []) ?_; intro b1 b2 hb1 hb2; simp (config := {maxSteps := 4000000}) only [go_sem, Nat.reduceBEq, ↓reduceIte, ↓reduceDIte, Nat.reduceAdd, Nat.reduceSub, Nat.reduceMul, Nat.reduceLeDiff, ← Bool.decide_and, ← Bool.decide_or, ← decide_not, Int.reduceLT, Int.reduceLE, Int.reduceToNat, Int.reduceNeg] at hb1 hb2; subst hb1; subst hb2; refine ⟨(by refine ⟨?_, ?_, rfl, rfl⟩ <;> repeat' (first | exact trivial | (refine And.intro (Or.inl rfl) ?_) | (refine And.intro (Or.inr (Or.inl rfl)) ?_) | (refine And.intro (Or.inr (Or.inr (Or.inr ⟨rfl, rfl⟩))) ?_) | rfl | (refine And.intro (Or.inl ?_) ?_) | (refine And.intro ?_ ?_))), ?_, ?_⟩
  · exact ⟨Nat.zero_le _, Nat.zero_le _, allOf_start⟩
  intro ⟨k, u, all⟩ ⟨hkl, hk16, hA⟩ back
  dsimp only at hkl hk16 hA
  have hll : l.length ≤ 9223372036854775807 := hx.1.1
  refine PW_sound env_ok ⟨_, fn_5, rfl⟩ 2000 _ _ (by kernel_rfl) ?_; simp only [go_sem, Nat.reduceBEq, ↓reduceIte, ↓reduceDIte, Nat.reduceAdd, Nat.reduceSub, Nat.reduceMul, Nat.reduceLeDiff, ← Bool.decide_and, ← Bool.decide_or, ← decide_not, Int.reduceLT, Int.reduceLE, Int.reduceToNat, Int.reduceNeg]
  refine ⟨fun h1 => ⟨fun h2 => ?_, fun h2 => ?_⟩, fun h1 => ?_⟩
  · obtain ⟨x, hxi⟩ : ∃ x, l[k]? = some x := get_of_lt (by omega)
    have hxo : RawT.ok x := hx.1.2 x (List.mem_of_getElem? hxi)
    obtain ⟨d0, d7⟩ := recS_dev hxo
    have hl := hA.good.2.2.2 _ d0 d7
    have hlen := hA.good.2.1
    have hN := allOf_step hA (by omega) hxo
    have hz := (step_good hA.good (by omega) hxo).2
    have hcs := c_step u x (by omega)
    generalize stepS u x = w at hN hz hcs
    obtain ⟨w, e⟩ := w
    dsimp only at hN hz
    subst hz
    have cv := c_ValidR w
    rw [(validS_iff w).2 hN.good.1] at cv
    refine ⟨Int.natCast_nonneg _, x, hxi, _, c_Record x, fun _ => ⟨⟨d0, by omega⟩, getL u.2.2 (recS x).1, lst_at u.2.2 d0 d7, i64_ok (by omega) (by omega), Int.natCast_nonneg _, x, hxi, _, hcs, fun _ => ?_⟩⟩
    simp only [go_sem, Nat.reduceBEq, ↓reduceIte, ↓reduceDIte, Nat.reduceAdd, Nat.reduceSub, Nat.reduceMul, Nat.reduceLeDiff, ← Bool.decide_and, ← Bool.decide_or, ← decide_not, Int.reduceLT, Int.reduceLE, Int.reduceToNat, Int.reduceNeg]
    refine ⟨⟨_, cv, ?_⟩, fun h => absurd trivial h⟩
    simp only [go_sem, Nat.reduceBEq, ↓reduceIte, ↓reduceDIte, Nat.reduceAdd, Nat.reduceSub, Nat.reduceMul, Nat.reduceLeDiff, ← Bool.decide_and, ← Bool.decide_or, ← decide_not, Int.reduceLT, Int.reduceLE, Int.reduceToNat, Int.reduceNeg]
    refine ⟨Int.natCast_nonneg _, x, hxi, _, c_IsOrder x, ?_⟩
    simp only [go_sem, Nat.reduceBEq, ↓reduceIte, ↓reduceDIte, Nat.reduceAdd, Nat.reduceSub, Nat.reduceMul, Nat.reduceLeDiff, ← Bool.decide_and, ← Bool.decide_or, ← decide_not, Int.reduceLT, Int.reduceLE, Int.reduceToNat, Int.reduceNeg]
    refine ⟨fun ho => ?_, fun ho => ?_⟩
    · have ha : allS all u x = insAt all (linI plR all ((recS x).1, getL u.2.2 (recS x).1 + 1)) ((recS x).1, getL u.2.2 (recS x).1 + 1, (recS x).2.2) := by unfold allS; rw [if_neg ho]
      rw [ha] at hN
      exact ⟨_, c_Insert all _ (by have := hA.len; omega), fun _ => ⟨i64_ok (by omega) (by omega), back _ (k + 1, w, insAt all (linI plR all ((recS x).1, getL u.2.2 (recS x).1 + 1)) ((recS x).1, getL u.2.2 (recS x).1 + 1, (recS x).2.2)) (by refine ⟨?_, ?_, rfl, rfl⟩ <;> repeat' (first | exact trivial | (refine And.intro (Or.inl rfl) ?_) | (refine And.intro (Or.inr (Or.inl rfl)) ?_) | (refine And.intro (Or.inr (Or.inr (Or.inr ⟨rfl, rfl⟩))) ?_) | rfl | (refine And.intro (Or.inl ?_) ?_) | (refine And.intro ?_ ?_))) ⟨by dsimp only; omega, by dsimp only; omega, hN⟩ (by dsimp only; omega)⟩⟩
    · have ha : allS all u x = all := by unfold allS; rw [if_pos ho]
      rw [ha] at hN
      exact ⟨i64_ok (by omega) (by omega), back _ (k + 1, w, all) (by refine ⟨?_, ?_, rfl, rfl⟩ <;> repeat' (first | exact trivial | (refine And.intro (Or.inl rfl) ?_) | (refine And.intro (Or.inr (Or.inl rfl)) ?_) | (refine And.intro (Or.inr (Or.inr (Or.inr ⟨rfl, rfl⟩))) ?_) | rfl | (refine And.intro (Or.inl ?_) ?_) | (refine And.intro ?_ ?_))) ⟨by dsimp only; omega, by dsimp only; omega, hN⟩ (by dsimp only; omega)⟩
  · refine ⟨_, c_Kept all u.2.1 (by have := hA.len; omega), fun _ => ⟨_, c_SameRecords _ _, ?_⟩⟩
    rw [decide_eq_true hA.kept]
    simp only [go_sem, Nat.reduceBEq, ↓reduceIte, ↓reduceDIte, Nat.reduceAdd, Nat.reduceSub, Nat.reduceMul, Nat.reduceLeDiff, ← Bool.decide_and, ← Bool.decide_or, ← decide_not, Int.reduceLT, Int.reduceLE, Int.reduceToNat, Int.reduceNeg]
  · refine ⟨_, c_Kept all u.2.1 (by have := hA.len; omega), fun _ => ⟨_, c_SameRecords _ _, ?_⟩⟩
    rw [decide_eq_true hA.kept]
    simp only [go_sem, Nat.reduceBEq, ↓reduceIte, ↓reduceDIte, Nat.reduceAdd, Nat.reduceSub, Nat.reduceMul, Nat.reduceLeDiff, ← Bool.decide_and, ← Bool.decide_or, ← decide_not, Int.reduceLT, Int.reduceLE, Int.reduceToNat, Int.reduceNeg]
end Go.Proofs.Ytnncphnpajkojaa
namespace Go.Proofs.Ytnncphnpajkojaa
open Go.ChangeShapes Go.WideShapes Go.ChangeAt Go.RowKit
theorem own_none : ownKnob Try.prog.godebug = none := by kernel_rfl
theorem laid_out : laidOutB env.P = true := by kernel_rfl
theorem forgets_all (xs : List (Sigma Ty.den)) (h : xs.map (·.1) = [.sl RawT]) : PC env 5 xs .bool true := by
  match xs, h with
  | [⟨_, y0⟩], h =>
    injection h with h1 h
    dsimp only at h1
    subst h1
    exact c_Forgets y0
set_option maxRecDepth 100000 in
theorem forgets_lifted (os : Os) (started : os.Started) (H : Type) (enc : TypeId × Value → H) :
    ReturnsInHanded {} Try.checked os 5 .any (Rows.learnForgetsSpec.pre6 enc Try.prog Try.f5 Rows.learnForgetsRow.domain false) (Rows.learnForgetsSpec.post enc Try.prog Try.f5 false true false false) := by
  refine returnsInHanded_of_change (C := Try.checked) own_none started (by kernel_rfl) fn_5
    (ChangeSpec.witness6 (enc := enc) (C := Try.checked) false ⟨#[], #[.slice none 0 0], []⟩ 8 (by kernel_rfl) (by kernel_rfl) (by kernel_rfl) (by kernel_rfl)) ?_
  intro W base args ds gs before hval hW _ _
  refine law_calls (E := env) (b0 := base) (Ts := [.sl RawT]) (tb := 4) env_ok laid_out (of_decide_eq_true (by kernel_rfl)) rfl rfl rfl (by kernel_rfl) rfl ?_ forgets_all hval hW
  intro ds hds
  match ds, hds with
  | [d0], _ => rfl
theorem forgets_holds : Rows.LearnForgetsSaid :=
  OpenClaim.holds_of_wide 5 Try.f5 rfl rfl rfl rfl rfl rfl rfl ⟨rfl, rfl, rfl, rfl, rfl⟩ rfl rfl rfl rfl rfl (by kernel_rfl) fn_5 (by kernel_rfl)
    (of_decide_eq_true (by kernel_rfl)) (by unfold Func.isWrapper; first | (rw [if_pos (by decide +kernel)]; kernel_rfl) | (rw [if_neg (by decide +kernel)]; exact ⟨rfl, rfl⟩))
    (fun os started H enc _ => forgets_lifted os started H enc)
end Go.Proofs.Ytnncphnpajkojaa
