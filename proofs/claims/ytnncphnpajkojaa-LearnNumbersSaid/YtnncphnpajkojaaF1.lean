/- The law LearnNumbers holds for every input. No condition. -/
import Derived.Test.YtnncphnpajkojaaB4
import Derived.Test.YtnncphnpajkojaaRows
set_option linter.unusedSimpArgs false
set_option linter.unusedVariables false
namespace Go.Proofs.Ytnncphnpajkojaa
set_option maxHeartbeats 4000000
set_option maxRecDepth 100000

theorem c_Numbers (l : List Raw6) : PC env 6 [⟨.sl RawT, l⟩] .bool true := by
  refine PC.of_PW (m := 2000) env_ok fn_6 rfl rfl rfl rfl (by kernel_rfl) ?_; intro hx; simp only [Try.f6]; simp only [go_sem, Nat.reduceBEq, ↓reduceIte, ↓reduceDIte, Nat.reduceAdd, Nat.reduceSub, Nat.reduceMul, Nat.reduceLeDiff, ← Bool.decide_and, ← Bool.decide_or, ← decide_not, Int.reduceLT, Int.reduceLE, Int.reduceToNat, Int.reduceNeg]
  refine ⟨_, c_sanity, ?_⟩
  refine Walks.loopA (X := Nat × Usr) (fun (z : Nat × Usr) => [(6, .iv (.int .i64) (z.1 : Int))]) (fun (z : Nat × Usr) => [(4, .box [.iv (.sl RecordT) z.2.1, .iv (.sl OrderT) z.2.2.1, .iv (.int .i64) z.2.2.2.1, .iv (.int .i64) z.2.2.2.2.1, .iv (.int .i64) z.2.2.2.2.2.1, .iv (.int .i64) z.2.2.2.2.2.2.1, .iv (.int .i64) z.2.2.2.2.2.2.2.1, .iv (.int .i64) z.2.2.2.2.2.2.2.2.1, .iv (.int .i64) z.2.2.2.2.2.2.2.2.2.1, .iv (.int .i64) z.2.2.2.2.2.2.2.2.2.2]), (5, .box [.iv (.int .i64) z.2.2.2.1, .iv (.int .i64) z.2.2.2.2.1, .iv (.int .i64) z.2.2.2.2.2.1, .iv (.int .i64) z.2.2.2.2.2.2.1, .iv (.int .i64) z.2.2.2.2.2.2.2.1, .iv (.int .i64) z.2.2.2.2.2.2.2.2.1, .iv (.int .i64) z.2.2.2.2.2.2.2.2.2.1, .iv (.int .i64) z.2.2.2.2.2.2.2.2.2.2])]) (fun (z : Nat × Usr) => z.1 ≤ l.length ∧ z.1 ≤ 16 ∧ few z.1 z.2) (fun (z : Nat × Usr) => 16 - z.1) (0, exU0) ?_; intro b1 b2 hb1 hb2; simp (config := {maxSteps := 4000000}) only [go_sem, Nat.reduceBEq, ↓reduceIte, ↓reduceDIte, Nat.reduceAdd, Nat.reduceSub, Nat.reduceMul, Nat.reduceLeDiff, ← Bool.decide_and, ← Bool.decide_or, ← decide_not, Int.reduceLT, Int.reduceLE, Int.reduceToNat, Int.reduceNeg] at hb1 hb2; subst hb1; subst hb2; refine ⟨(by refine ⟨?_, ?_, rfl, rfl⟩ <;> repeat' (first | exact trivial | (refine And.intro (Or.inl rfl) ?_) | (refine And.intro (Or.inr (Or.inl rfl)) ?_) | (refine And.intro (Or.inr (Or.inr (Or.inr ⟨rfl, rfl⟩))) ?_) | rfl | (refine And.intro (Or.inl ?_) ?_) | (refine And.intro ?_ ?_))), ?_, ?_⟩
  · refine ⟨Nat.zero_le _, Nat.zero_le _, Nat.le_refl _, Nat.le_refl _, ?_⟩
    intro i h0 h7
    have h : i = 0 ∨ i = 1 ∨ i = 2 ∨ i = 3 ∨ i = 4 ∨ i = 5 ∨ i = 6 ∨ i = 7 := by omega
    rcases h with rfl | rfl | rfl | rfl | rfl | rfl | rfl | rfl <;> decide
  intro ⟨k, u⟩ ⟨hkl, hk16, hf⟩ back
  dsimp only at hkl hk16 hf
  have hll : l.length ≤ 9223372036854775807 := hx.1.1
  refine PW_sound env_ok ⟨_, fn_6, rfl⟩ 2000 _ _ (by kernel_rfl) ?_; simp only [go_sem, Nat.reduceBEq, ↓reduceIte, ↓reduceDIte, Nat.reduceAdd, Nat.reduceSub, Nat.reduceMul, Nat.reduceLeDiff, ← Bool.decide_and, ← Bool.decide_or, ← decide_not, Int.reduceLT, Int.reduceLE, Int.reduceToNat, Int.reduceNeg]
  refine ⟨fun h1 => ⟨fun h2 => ?_, fun _ => trivial⟩, fun _ => trivial⟩
  obtain ⟨x, hxi⟩ : ∃ x, l[k]? = some x := get_of_lt (by omega)
  have hxo : RawT.ok x := hx.1.2 x (List.mem_of_getElem? hxi)
  have hp := raw_pos hxo
  have hd0 := Int.emod_nonneg x.2.1 (show (3 : Int) ≠ 0 by decide)
  have hd3 := Int.emod_lt_of_pos x.2.1 (show (0 : Int) < 3 by decide)
  have hlv := hf.2.2 (x.2.1 % 3) hd0 (by omega)
  refine ⟨Int.natCast_nonneg _, x, hxi, ?_⟩
  rw [Int.tmod_eq_emod_of_nonneg hp.2.1]
  refine ⟨⟨hd0, by omega⟩, getL u.2.2 (x.2.1 % 3), lst_at u.2.2 hd0 (by omega), i64_ok (by omega) (by omega), ⟨hd0, by omega⟩, Int.natCast_nonneg _, x, hxi, _, c_IsOrder x, ?_⟩
  by_cases ho : x.1 % 3 = 0
  · rw [decide_eq_true ho]
    obtain ⟨e1, e2, e3, e4⟩ := forget_few (o := ordS x) hf (by omega) (ordS_right hxo) hd0 (by show x.2.1 % 3 ≤ 7; omega)
    simp only [go_sem, Nat.reduceBEq, ↓reduceIte, ↓reduceDIte, Nat.reduceAdd, Nat.reduceSub, Nat.reduceMul, Nat.reduceLeDiff, ← Bool.decide_and, ← Bool.decide_or, ← decide_not, Int.reduceLT, Int.reduceLE, Int.reduceToNat, Int.reduceNeg]
    refine ⟨Int.natCast_nonneg _, x, hxi, _, c_Order x, fun _ => ⟨_, c_Forget u _ (by have := hf.1; omega), fun _ => ?_⟩⟩
    generalize forgetS u (ordS x) = w at e1 e2 e3 e4
    obtain ⟨w, e⟩ := w
    dsimp only at e1 e2 e3 e4
    subst e1
    simp only [go_sem, Nat.reduceBEq, ↓reduceIte, ↓reduceDIte, Nat.reduceAdd, Nat.reduceSub, Nat.reduceMul, Nat.reduceLeDiff, ← Bool.decide_and, ← Bool.decide_or, ← decide_not, Int.reduceLT, Int.reduceLE, Int.reduceToNat, Int.reduceNeg]
    obtain ⟨w1, w2, wL⟩ := w
    dsimp only at e2 e3
    subst e2
    have hl3 := hf.2.1
    have e3' : ((w2.length : Nat) : Int) = (u.2.1.length : Int) + 1 := by rw [e3]; push_cast; rfl
    exact ⟨⟨i64_ok (by omega) (by omega), fun hn => absurd e3' hn, fun _ => ⟨fun hn => absurd ⟨rfl, rfl, rfl, rfl, rfl, rfl, rfl, rfl⟩ hn, fun _ => ⟨i64_ok (by omega) (by omega), back _ (k + 1, (w1, w2, setL u.2.2 (x.2.1 % 3) (getL u.2.2 (x.2.1 % 3) + 1))) (by refine ⟨?_, ?_, rfl, rfl⟩ <;> repeat' (first | exact trivial | (refine And.intro (Or.inl rfl) ?_) | (refine And.intro (Or.inr (Or.inl rfl)) ?_) | (refine And.intro (Or.inr (Or.inr (Or.inr ⟨rfl, rfl⟩))) ?_) | rfl | (refine And.intro (Or.inl ?_) ?_) | (refine And.intro ?_ ?_))) ⟨by dsimp only; omega, by dsimp only; omega, e4⟩ (by dsimp only; omega)⟩⟩⟩, fun hn => absurd trivial hn⟩
  · rw [decide_eq_false ho]
    obtain ⟨e1, e2, e4⟩ := learn_few (r := recS x) hf (by omega) (recS_right hxo) hd0 (by show x.2.1 % 3 ≤ 7; omega)
    simp only [go_sem, Nat.reduceBEq, ↓reduceIte, ↓reduceDIte, Nat.reduceAdd, Nat.reduceSub, Nat.reduceMul, Nat.reduceLeDiff, ← Bool.decide_and, ← Bool.decide_or, ← decide_not, Int.reduceLT, Int.reduceLE, Int.reduceToNat, Int.reduceNeg]
    refine ⟨Int.natCast_nonneg _, x, hxi, _, c_Record x, fun _ => ⟨_, c_learnt u _, fun _ => ?_⟩⟩
    generalize learnS u (recS x) = w at e1 e2 e4
    obtain ⟨w, e⟩ := w
    dsimp only at e1 e2 e4
    subst e1
    simp only [go_sem, Nat.reduceBEq, ↓reduceIte, ↓reduceDIte, Nat.reduceAdd, Nat.reduceSub, Nat.reduceMul, Nat.reduceLeDiff, ← Bool.decide_and, ← Bool.decide_or, ← decide_not, Int.reduceLT, Int.reduceLE, Int.reduceToNat, Int.reduceNeg]
    obtain ⟨w1, w2, wL⟩ := w
    dsimp only at e2
    subst e2
    exact ⟨⟨⟨hd0, by omega⟩, getL u.2.2 (x.2.1 % 3) + 1, set_at u.2.2 _ hd0 (by omega), fun hn => absurd rfl hn, fun _ => ⟨fun hn => absurd ⟨rfl, rfl, rfl, rfl, rfl, rfl, rfl, rfl⟩ hn, fun _ => ⟨i64_ok (by omega) (by omega), back _ (k + 1, (w1, w2, setL u.2.2 (x.2.1 % 3) (getL u.2.2 (x.2.1 % 3) + 1))) (by refine ⟨?_, ?_, rfl, rfl⟩ <;> repeat' (first | exact trivial | (refine And.intro (Or.inl rfl) ?_) | (refine And.intro (Or.inr (Or.inl rfl)) ?_) | (refine And.intro (Or.inr (Or.inr (Or.inr ⟨rfl, rfl⟩))) ?_) | rfl | (refine And.intro (Or.inl ?_) ?_) | (refine And.intro ?_ ?_))) ⟨by dsimp only; omega, by dsimp only; omega, e4⟩ (by dsimp only; omega)⟩⟩⟩, fun hn => absurd trivial hn⟩
end Go.Proofs.Ytnncphnpajkojaa
namespace Go.Proofs.Ytnncphnpajkojaa
open Go.ChangeShapes Go.WideShapes Go.ChangeAt Go.RowKit
theorem own_none : ownKnob Try.prog.godebug = none := by kernel_rfl
theorem laid_out : laidOutB env.P = true := by kernel_rfl
theorem numbers_all (xs : List (Sigma Ty.den)) (h : xs.map (·.1) = [.sl RawT]) : PC env 6 xs .bool true := by
  match xs, h with
  | [⟨_, y0⟩], h =>
    injection h with h1 h
    dsimp only at h1
    subst h1
    exact c_Numbers y0
set_option maxRecDepth 100000 in
theorem numbers_lifted (os : Os) (started : os.Started) (H : Type) (enc : TypeId × Value → H) :
    ReturnsInHanded {} Try.checked os 6 .any (Rows.learnNumbersSpec.pre6 enc Try.prog Try.f6 Rows.learnNumbersRow.domain false) (Rows.learnNumbersSpec.post enc Try.prog Try.f6 false true false false) := by
  refine returnsInHanded_of_change (C := Try.checked) own_none started (by kernel_rfl) fn_6
    (ChangeSpec.witness6 (enc := enc) (C := Try.checked) false ⟨#[], #[.slice none 0 0], []⟩ 8 (by kernel_rfl) (by kernel_rfl) (by kernel_rfl) (by kernel_rfl)) ?_
  intro W base args ds gs before hval hW _ _
  refine law_calls (E := env) (b0 := base) (Ts := [.sl RawT]) (tb := 4) env_ok laid_out (of_decide_eq_true (by kernel_rfl)) rfl rfl rfl (by kernel_rfl) rfl ?_ numbers_all hval hW
  intro ds hds
  match ds, hds with
  | [d0], _ => rfl
theorem numbers_holds : Rows.LearnNumbersSaid :=
  OpenClaim.holds_of_wide 6 Try.f6 rfl rfl rfl rfl rfl rfl rfl ⟨rfl, rfl, rfl, rfl, rfl⟩ rfl rfl rfl rfl rfl (by kernel_rfl) fn_6 (by kernel_rfl)
    (of_decide_eq_true (by kernel_rfl)) (by unfold Func.isWrapper; first | (rw [if_pos (by decide +kernel)]; kernel_rfl) | (rw [if_neg (by decide +kernel)]; exact ⟨rfl, rfl⟩))
    (fun os started H enc _ => numbers_lifted os started H enc)
end Go.Proofs.Ytnncphnpajkojaa
