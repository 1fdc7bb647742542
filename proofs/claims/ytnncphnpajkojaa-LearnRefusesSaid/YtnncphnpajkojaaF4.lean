/- The law LearnRefuses holds for every input. No condition. -/
import Derived.Test.YtnncphnpajkojaaB5
import Derived.Test.YtnncphnpajkojaaRows
set_option linter.unusedSimpArgs false
set_option linter.unusedVariables false
namespace Go.Proofs.Ytnncphnpajkojaa
set_option maxHeartbeats 4000000
set_option maxRecDepth 100000
theorem means_eq (o : Ord') (r : Rec) : (decide (r.2.2.1 ≤ o.2.2.1) && rightR r && rightO o && meantB o r) = meansS o r := by
  unfold meansS meantB
  cases decide (r.2.2.1 ≤ o.2.2.1) <;> cases rightR r <;> cases rightO o <;> simp
theorem c_Refuses (l : List Raw6) (r : Rec) (o : Ord') : PC env 4 [⟨.sl RawT, l⟩, ⟨RecordT, r⟩, ⟨OrderT, o⟩] .bool true := by
  refine PC.of_PW (m := 2000) env_ok fn_4 rfl rfl rfl rfl (by kernel_rfl) ?_; intro hx; simp only [Try.f4]; simp only [go_sem, Nat.reduceBEq, ↓reduceIte, ↓reduceDIte, Nat.reduceAdd, Nat.reduceSub, Nat.reduceMul, Nat.reduceLeDiff, ← Bool.decide_and, ← Bool.decide_or, ← decide_not, Int.reduceLT, Int.reduceLE, Int.reduceToNat, Int.reduceNeg]
  obtain ⟨hv, hf⟩ := made_good hx.1.2 8 (by omega)
  have cM := c_MadeR l 8 (by omega) (by omega)
  rw [show ((8 : Int)).toNat = 8 from rfl] at cM
  generalize madeU (l.take 8) = u at hv hf cM
  have h1 := hf.1
  have h2 := hf.2.1
  have h3 : ∀ i : Int, 0 ≤ i → i ≤ 7 → getL u.2.2 i ≤ 1000000 := fun i a b => (hv.last i a b).2
  have cF := c_Forget u o (by omega)
  have cF2 := c_ForgetR u o (by omega) (by omega) h3
  rw [forgetR_eq hv] at cF2
  have cL := c_learnt u r
  have cL2 := c_LearnR u r (by omega) h3
  rw [learnR_eq hv] at cL2
  generalize forgetS u o = a at cF cF2
  generalize learnS u r = b at cL cL2
  have cm : ∀ r, PC env 27 [⟨OrderT, o⟩, ⟨RecordT, r⟩] .bool (meansS o r) := fun r => by
    have := c_Means o r
    rwa [means_eq] at this
  have cs := c_sameLearnt b b
  rw [eqP_t rfl] at cs
  have cs2 := c_Same a.1 a.1
  rw [eqP_t rfl] at cs2
  refine ⟨_, c_sanity, _, cM, fun _ => ⟨_, cF, fun _ => ⟨_, cF2, fun _ => ⟨_, cL, fun _ => ⟨_, cL2, fun _ => ⟨_, cs, ?_⟩⟩⟩⟩⟩⟩
  simp only [go_sem, Nat.reduceBEq, ↓reduceIte, ↓reduceDIte, Nat.reduceAdd, Nat.reduceSub, Nat.reduceMul, Nat.reduceLeDiff, ← Bool.decide_and, ← Bool.decide_or, ← decide_not, Int.reduceLT, Int.reduceLE, Int.reduceToNat, Int.reduceNeg]
  refine ⟨_, cs2, ?_⟩
  simp only [go_sem, Nat.reduceBEq, ↓reduceIte, ↓reduceDIte, Nat.reduceAdd, Nat.reduceSub, Nat.reduceMul, Nat.reduceLeDiff, ← Bool.decide_and, ← Bool.decide_or, ← decide_not, Int.reduceLT, Int.reduceLE, Int.reduceToNat, Int.reduceNeg]
  refine ⟨_, cm r, _, c_MeansR o r, ?_⟩
  simp only [go_sem, Nat.reduceBEq, ↓reduceIte, ↓reduceDIte, Nat.reduceAdd, Nat.reduceSub, Nat.reduceMul, Nat.reduceLeDiff, ← Bool.decide_and, ← Bool.decide_or, ← decide_not, Int.reduceLT, Int.reduceLE, Int.reduceToNat, Int.reduceNeg]
  refine Walks.loopA (X := Nat) (fun (k : Nat) => [(13, .iv (.int .i64) (k : Int))]) (fun (k : Nat) => []) (fun (k : Nat) => k ≤ u.1.length) (fun (k : Nat) => u.1.length - k) 0 ?_; intro b1 b2 hb1 hb2; simp (config := {maxSteps := 4000000}) only [go_sem, Nat.reduceBEq, ↓reduceIte, ↓reduceDIte, Nat.reduceAdd, Nat.reduceSub, Nat.reduceMul, Nat.reduceLeDiff, ← Bool.decide_and, ← Bool.decide_or, ← decide_not, Int.reduceLT, Int.reduceLE, Int.reduceToNat, Int.reduceNeg] at hb1 hb2; subst hb1; subst hb2; refine ⟨(by refine ⟨?_, ?_, rfl, rfl⟩ <;> repeat' (first | exact trivial | (refine And.intro (Or.inl rfl) ?_) | (refine And.intro (Or.inr (Or.inl rfl)) ?_) | (refine And.intro (Or.inr (Or.inr (Or.inr ⟨rfl, rfl⟩))) ?_) | rfl | (refine And.intro (Or.inl ?_) ?_) | (refine And.intro ?_ ?_))), ?_, ?_⟩
  · exact Nat.zero_le _
  intro k hk back
  refine PW_sound env_ok ⟨_, fn_4, rfl⟩ 2000 _ _ (by kernel_rfl) ?_; simp only [go_sem, Nat.reduceBEq, ↓reduceIte, ↓reduceDIte, Nat.reduceAdd, Nat.reduceSub, Nat.reduceMul, Nat.reduceLeDiff, ← Bool.decide_and, ← Bool.decide_or, ← decide_not, Int.reduceLT, Int.reduceLE, Int.reduceToNat, Int.reduceNeg]
  refine ⟨fun h => ?_, fun h => ?_⟩
  · obtain ⟨x, hxi⟩ : ∃ x, u.1[k]? = some x := get_of_lt (by omega)
    refine ⟨Int.natCast_nonneg _, x, hxi, _, cm x, Int.natCast_nonneg _, x, hxi, _, c_MeansR o x, ?_⟩
    simp only [go_sem, Nat.reduceBEq, ↓reduceIte, ↓reduceDIte, Nat.reduceAdd, Nat.reduceSub, Nat.reduceMul, Nat.reduceLeDiff, ← Bool.decide_and, ← Bool.decide_or, ← decide_not, Int.reduceLT, Int.reduceLE, Int.reduceToNat, Int.reduceNeg]
    exact ⟨i64_ok (by omega) (by omega), back _ (k + 1) (by refine ⟨?_, ?_, rfl, rfl⟩ <;> repeat' (first | exact trivial | (refine And.intro (Or.inl rfl) ?_) | (refine And.intro (Or.inr (Or.inl rfl)) ?_) | (refine And.intro (Or.inr (Or.inr (Or.inr ⟨rfl, rfl⟩))) ?_) | rfl | (refine And.intro (Or.inl ?_) ?_) | (refine And.intro ?_ ?_))) (by omega) (by omega)⟩
  · have cV := c_Valid u
    rw [(validS_iff u).2 hv] at cV
    refine ⟨by omega, by omega, by omega, by omega, u.2.2.1, rfl, _, cV, ?_⟩
    simp only [go_sem, Nat.reduceBEq, ↓reduceIte, ↓reduceDIte, Nat.reduceAdd, Nat.reduceSub, Nat.reduceMul, Nat.reduceLeDiff, ← Bool.decide_and, ← Bool.decide_or, ← decide_not, Int.reduceLT, Int.reduceLE, Int.reduceToNat, Int.reduceNeg]
    refine ⟨_, c_Valid _, _, c_ValidR _, ?_⟩
    simp only [go_sem, Nat.reduceBEq, ↓reduceIte, ↓reduceDIte, Nat.reduceAdd, Nat.reduceSub, Nat.reduceMul, Nat.reduceLeDiff, ← Bool.decide_and, ← Bool.decide_or, ← decide_not, Int.reduceLT, Int.reduceLE, Int.reduceToNat, Int.reduceNeg]
    refine ⟨_, c_Valid _, _, c_ValidR _, ?_⟩
    simp only [go_sem, Nat.reduceBEq, ↓reduceIte, ↓reduceDIte, Nat.reduceAdd, Nat.reduceSub, Nat.reduceMul, Nat.reduceLeDiff, ← Bool.decide_and, ← Bool.decide_or, ← decide_not, Int.reduceLT, Int.reduceLE, Int.reduceToNat, Int.reduceNeg]
end Go.Proofs.Ytnncphnpajkojaa
namespace Go.Proofs.Ytnncphnpajkojaa
open Go.ChangeShapes Go.WideShapes Go.ChangeAt Go.RowKit
theorem own_none : ownKnob Try.prog.godebug = none := by kernel_rfl
theorem laid_out : laidOutB env.P = true := by kernel_rfl
theorem refuses_all (xs : List (Sigma Ty.den)) (h : xs.map (·.1) = [.sl RawT, RecordT, OrderT]) : PC env 4 xs .bool true := by
  match xs, h with
  | [⟨_, y0⟩, ⟨_, y1⟩, ⟨_, y2⟩], h =>
    injection h with h1 h
    injection h with h2 h
    injection h with h3 h
    dsimp only at h1 h2 h3
    subst h1 h2 h3
    exact c_Refuses y0 y1 y2
set_option maxRecDepth 100000 in
theorem refuses_lifted (os : Os) (started : os.Started) (H : Type) (enc : TypeId × Value → H) :
    ReturnsInHanded {} Try.checked os 4 .any (Rows.learnRefusesSpec.pre6 enc Try.prog Try.f4 Rows.learnRefusesRow.domain false) (Rows.learnRefusesSpec.post enc Try.prog Try.f4 false true false false) := by
  refine returnsInHanded_of_change (C := Try.checked) own_none started (by kernel_rfl) fn_4
    (ChangeSpec.witness6 (enc := enc) (C := Try.checked) false ⟨#[], #[.slice none 0 0, .agg #[.int .i64 0, .int .i64 0, .int .i64 0, .string ⟨#[]⟩, .int .i64 0, .int .i64 0], .agg #[.int .i64 0, .int .i64 0, .int .i64 0, .int .i64 0, .string ⟨#[]⟩, .int .i64 0, .int .i64 0]], []⟩ 8 (by kernel_rfl) (by kernel_rfl) (by kernel_rfl) (by kernel_rfl)) ?_
  intro W base args ds gs before hval hW _ _
  refine law_calls (E := env) (b0 := base) (Ts := [.sl RawT, RecordT, OrderT]) (tb := 4) env_ok laid_out (of_decide_eq_true (by kernel_rfl)) rfl rfl rfl (by kernel_rfl) rfl ?_ refuses_all hval hW
  intro ds hds
  match ds, hds with
  | [d0, d1, d2], _ => rfl
theorem refuses_holds : Rows.LearnRefusesSaid :=
  OpenClaim.holds_of_wide 4 Try.f4 rfl rfl rfl rfl rfl rfl rfl ⟨rfl, rfl, rfl, rfl, rfl⟩ rfl rfl rfl rfl rfl (by kernel_rfl) fn_4 (by kernel_rfl)
    (of_decide_eq_true (by kernel_rfl)) (by unfold Func.isWrapper; first | (rw [if_pos (by decide +kernel)]; kernel_rfl) | (rw [if_neg (by decide +kernel)]; exact ⟨rfl, rfl⟩))
    (fun os started H enc _ => refuses_lifted os started H enc)
end Go.Proofs.Ytnncphnpajkojaa
