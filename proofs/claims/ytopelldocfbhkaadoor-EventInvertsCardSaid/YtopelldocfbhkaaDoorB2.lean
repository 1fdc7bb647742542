/- Contracts of the reference: Decimal, words, Print, Split, fill, Parse. Nothing here is trusted; no condition. -/
import Derived.Test.YtopelldocfbhkaaDoorB1
set_option linter.unusedSimpArgs false
set_option linter.unusedVariables false
namespace Go.Proofs.YtopelldocfbhkaaDoor
set_option maxHeartbeats 4000000
set_option maxRecDepth 100000
--SET+ Int.reduceEq, not_true_eq_false, not_false_eq_true, false_implies
theorem str0 : bytesOf { data := #[] } = ([] : Str) := rfl
theorem len0 {α : Type} {l : List α} : ((l.length : Nat) : Int) = 0 ↔ l = [] := by rw [Int.natCast_eq_zero]; exact List.length_eq_zero_iff
theorem c_Valid1 (keys : Str) (p : List (Int × Int)) (t : Str) (n l : Int) : PC env 17 [⟨EventT, (1, keys, p, t, n, l)⟩] .bool (validE (1, keys, p, t, n, l)) := by
  refine PC.of_PW (m := 2000) env_ok fn_17 rfl rfl rfl rfl (by kernel_rfl) ?_; intro hx; simp only [Tryd.f17]; simp only [go_sem, Nat.reduceBEq, ↓reduceIte, ↓reduceDIte, Nat.reduceAdd, Nat.reduceSub, Nat.reduceMul, Nat.reduceLeDiff, ← Bool.decide_and, ← Bool.decide_or, ← decide_not, Int.reduceLT, Int.reduceLE, Int.reduceToNat, Int.reduceNeg, Int.reduceEq, not_true_eq_false, not_false_eq_true, false_implies]
  clear hx
  repeat' (first | (with_reducible intro _) | (with_reducible apply And.intro) | (with_reducible refine ⟨_, (c_letters _).dec, ?_⟩; try simp only [go_sem, Nat.reduceBEq, ↓reduceIte, ↓reduceDIte, Nat.reduceAdd, Nat.reduceSub, Nat.reduceMul, Nat.reduceLeDiff, ← Bool.decide_and, ← Bool.decide_or, ← decide_not, Int.reduceLT, Int.reduceLE, Int.reduceToNat, Int.reduceNeg, Int.reduceEq, not_true_eq_false, not_false_eq_true, false_implies]) | (with_reducible refine ⟨_, (c_increasing _).dec, ?_⟩; try simp only [go_sem, Nat.reduceBEq, ↓reduceIte, ↓reduceDIte, Nat.reduceAdd, Nat.reduceSub, Nat.reduceMul, Nat.reduceLeDiff, ← Bool.decide_and, ← Bool.decide_or, ← decide_not, Int.reduceLT, Int.reduceLE, Int.reduceToNat, Int.reduceNeg, Int.reduceEq, not_true_eq_false, not_false_eq_true, false_implies]) | (with_reducible refine ⟨_, (c_coord _).dec, ?_⟩; try simp only [go_sem, Nat.reduceBEq, ↓reduceIte, ↓reduceDIte, Nat.reduceAdd, Nat.reduceSub, Nat.reduceMul, Nat.reduceLeDiff, ← Bool.decide_and, ← Bool.decide_or, ← decide_not, Int.reduceLT, Int.reduceLE, Int.reduceToNat, Int.reduceNeg, Int.reduceEq, not_true_eq_false, not_false_eq_true, false_implies]) | fail)
  all_goals (try simp only [str0, len0] at *) <;> first | (simp_all [validE, partK, partP, partT, partN, -List.all_eq_true, -List.all_eq_false]; done) | (simp_all [validE, partK, partP, partT, partN, -List.all_eq_true, -List.all_eq_false]; first | omega | (intros; omega) | (intros; simp_all; done) | (intros; simp_all; omega))
theorem c_ValidR1 (keys : Str) (p : List (Int × Int)) (t : Str) (n l : Int) : PC env 18 [⟨EventT, (1, keys, p, t, n, l)⟩] .bool (validE (1, keys, p, t, n, l)) := by
  refine PC.of_PW (m := 2000) env_ok fn_18 rfl rfl rfl rfl (by kernel_rfl) ?_; intro hx; simp only [Tryd.f18]; simp only [go_sem, Nat.reduceBEq, ↓reduceIte, ↓reduceDIte, Nat.reduceAdd, Nat.reduceSub, Nat.reduceMul, Nat.reduceLeDiff, ← Bool.decide_and, ← Bool.decide_or, ← decide_not, Int.reduceLT, Int.reduceLE, Int.reduceToNat, Int.reduceNeg, Int.reduceEq, not_true_eq_false, not_false_eq_true, false_implies]
  clear hx
  repeat' (first | (with_reducible intro _) | (with_reducible apply And.intro) | (with_reducible refine ⟨_, (c_Letters _).dec, ?_⟩; try simp only [go_sem, Nat.reduceBEq, ↓reduceIte, ↓reduceDIte, Nat.reduceAdd, Nat.reduceSub, Nat.reduceMul, Nat.reduceLeDiff, ← Bool.decide_and, ← Bool.decide_or, ← decide_not, Int.reduceLT, Int.reduceLE, Int.reduceToNat, Int.reduceNeg, Int.reduceEq, not_true_eq_false, not_false_eq_true, false_implies]) | (with_reducible refine ⟨_, (c_rising _).dec, ?_⟩; try simp only [go_sem, Nat.reduceBEq, ↓reduceIte, ↓reduceDIte, Nat.reduceAdd, Nat.reduceSub, Nat.reduceMul, Nat.reduceLeDiff, ← Bool.decide_and, ← Bool.decide_or, ← decide_not, Int.reduceLT, Int.reduceLE, Int.reduceToNat, Int.reduceNeg, Int.reduceEq, not_true_eq_false, not_false_eq_true, false_implies]) | (with_reducible refine ⟨_, (c_points _ _ _).dec, ?_⟩; try simp only [go_sem, Nat.reduceBEq, ↓reduceIte, ↓reduceDIte, Nat.reduceAdd, Nat.reduceSub, Nat.reduceMul, Nat.reduceLeDiff, ← Bool.decide_and, ← Bool.decide_or, ← decide_not, Int.reduceLT, Int.reduceLE, Int.reduceToNat, Int.reduceNeg, Int.reduceEq, not_true_eq_false, not_false_eq_true, false_implies]) | (with_reducible refine ⟨_, (c_In _ _ _).dec, ?_⟩; try simp only [go_sem, Nat.reduceBEq, ↓reduceIte, ↓reduceDIte, Nat.reduceAdd, Nat.reduceSub, Nat.reduceMul, Nat.reduceLeDiff, ← Bool.decide_and, ← Bool.decide_or, ← decide_not, Int.reduceLT, Int.reduceLE, Int.reduceToNat, Int.reduceNeg, Int.reduceEq, not_true_eq_false, not_false_eq_true, false_implies]) | fail)
  all_goals (try simp only [str0, len0] at *) <;> first | (simp_all [validE, partK, partP, partT, partN, inB, -List.all_eq_true, -List.all_eq_false]; done) | (simp_all [validE, partK, partP, partT, partN, inB, -List.all_eq_true, -List.all_eq_false]; first | omega | (intros; omega) | (intros; simp_all; done) | (intros; simp_all; omega))
theorem c_Valid2 (keys : Str) (p : List (Int × Int)) (t : Str) (n l : Int) : PC env 17 [⟨EventT, (2, keys, p, t, n, l)⟩] .bool (validE (2, keys, p, t, n, l)) := by
  refine PC.of_PW (m := 2000) env_ok fn_17 rfl rfl rfl rfl (by kernel_rfl) ?_; intro hx; simp only [Tryd.f17]; simp only [go_sem, Nat.reduceBEq, ↓reduceIte, ↓reduceDIte, Nat.reduceAdd, Nat.reduceSub, Nat.reduceMul, Nat.reduceLeDiff, ← Bool.decide_and, ← Bool.decide_or, ← decide_not, Int.reduceLT, Int.reduceLE, Int.reduceToNat, Int.reduceNeg, Int.reduceEq, not_true_eq_false, not_false_eq_true, false_implies]
  clear hx
  repeat' (first | (with_reducible intro _) | (with_reducible apply And.intro) | (with_reducible refine ⟨_, (c_letters _).dec, ?_⟩; try simp only [go_sem, Nat.reduceBEq, ↓reduceIte, ↓reduceDIte, Nat.reduceAdd, Nat.reduceSub, Nat.reduceMul, Nat.reduceLeDiff, ← Bool.decide_and, ← Bool.decide_or, ← decide_not, Int.reduceLT, Int.reduceLE, Int.reduceToNat, Int.reduceNeg, Int.reduceEq, not_true_eq_false, not_false_eq_true, false_implies]) | (with_reducible refine ⟨_, (c_increasing _).dec, ?_⟩; try simp only [go_sem, Nat.reduceBEq, ↓reduceIte, ↓reduceDIte, Nat.reduceAdd, Nat.reduceSub, Nat.reduceMul, Nat.reduceLeDiff, ← Bool.decide_and, ← Bool.decide_or, ← decide_not, Int.reduceLT, Int.reduceLE, Int.reduceToNat, Int.reduceNeg, Int.reduceEq, not_true_eq_false, not_false_eq_true, false_implies]) | (with_reducible refine ⟨_, (c_coord _).dec, ?_⟩; try simp only [go_sem, Nat.reduceBEq, ↓reduceIte, ↓reduceDIte, Nat.reduceAdd, Nat.reduceSub, Nat.reduceMul, Nat.reduceLeDiff, ← Bool.decide_and, ← Bool.decide_or, ← decide_not, Int.reduceLT, Int.reduceLE, Int.reduceToNat, Int.reduceNeg, Int.reduceEq, not_true_eq_false, not_false_eq_true, false_implies]) | fail)
  all_goals (try simp only [str0, len0] at *) <;> first | (simp_all [validE, partK, partP, partT, partN, -List.all_eq_true, -List.all_eq_false]; done) | (simp_all [validE, partK, partP, partT, partN, -List.all_eq_true, -List.all_eq_false]; first | omega | (intros; omega) | (intros; simp_all; done) | (intros; simp_all; omega))
theorem c_ValidR2 (keys : Str) (p : List (Int × Int)) (t : Str) (n l : Int) : PC env 18 [⟨EventT, (2, keys, p, t, n, l)⟩] .bool (validE (2, keys, p, t, n, l)) := by
  refine PC.of_PW (m := 2000) env_ok fn_18 rfl rfl rfl rfl (by kernel_rfl) ?_; intro hx; simp only [Tryd.f18]; simp only [go_sem, Nat.reduceBEq, ↓reduceIte, ↓reduceDIte, Nat.reduceAdd, Nat.reduceSub, Nat.reduceMul, Nat.reduceLeDiff, ← Bool.decide_and, ← Bool.decide_or, ← decide_not, Int.reduceLT, Int.reduceLE, Int.reduceToNat, Int.reduceNeg, Int.reduceEq, not_true_eq_false, not_false_eq_true, false_implies]
  clear hx
  repeat' (first | (with_reducible intro _) | (with_reducible apply And.intro) | (with_reducible refine ⟨_, (c_Letters _).dec, ?_⟩; try simp only [go_sem, Nat.reduceBEq, ↓reduceIte, ↓reduceDIte, Nat.reduceAdd, Nat.reduceSub, Nat.reduceMul, Nat.reduceLeDiff, ← Bool.decide_and, ← Bool.decide_or, ← decide_not, Int.reduceLT, Int.reduceLE, Int.reduceToNat, Int.reduceNeg, Int.reduceEq, not_true_eq_false, not_false_eq_true, false_implies]) | (with_reducible refine ⟨_, (c_rising _).dec, ?_⟩; try simp only [go_sem, Nat.reduceBEq, ↓reduceIte, ↓reduceDIte, Nat.reduceAdd, Nat.reduceSub, Nat.reduceMul, Nat.reduceLeDiff, ← Bool.decide_and, ← Bool.decide_or, ← decide_not, Int.reduceLT, Int.reduceLE, Int.reduceToNat, Int.reduceNeg, Int.reduceEq, not_true_eq_false, not_false_eq_true, false_implies]) | (with_reducible refine ⟨_, (c_points _ _ _).dec, ?_⟩; try simp only [go_sem, Nat.reduceBEq, ↓reduceIte, ↓reduceDIte, Nat.reduceAdd, Nat.reduceSub, Nat.reduceMul, Nat.reduceLeDiff, ← Bool.decide_and, ← Bool.decide_or, ← decide_not, Int.reduceLT, Int.reduceLE, Int.reduceToNat, Int.reduceNeg, Int.reduceEq, not_true_eq_false, not_false_eq_true, false_implies]) | (with_reducible refine ⟨_, (c_In _ _ _).dec, ?_⟩; try simp only [go_sem, Nat.reduceBEq, ↓reduceIte, ↓reduceDIte, Nat.reduceAdd, Nat.reduceSub, Nat.reduceMul, Nat.reduceLeDiff, ← Bool.decide_and, ← Bool.decide_or, ← decide_not, Int.reduceLT, Int.reduceLE, Int.reduceToNat, Int.reduceNeg, Int.reduceEq, not_true_eq_false, not_false_eq_true, false_implies]) | fail)
  all_goals (try simp only [str0, len0] at *) <;> first | (simp_all [validE, partK, partP, partT, partN, inB, -List.all_eq_true, -List.all_eq_false]; done) | (simp_all [validE, partK, partP, partT, partN, inB, -List.all_eq_true, -List.all_eq_false]; first | omega | (intros; omega) | (intros; simp_all; done) | (intros; simp_all; omega))
theorem c_Valid3 (keys : Str) (p : List (Int × Int)) (t : Str) (n l : Int) : PC env 17 [⟨EventT, (3, keys, p, t, n, l)⟩] .bool (validE (3, keys, p, t, n, l)) := by
  refine PC.of_PW (m := 2000) env_ok fn_17 rfl rfl rfl rfl (by kernel_rfl) ?_; intro hx; simp only [Tryd.f17]; simp only [go_sem, Nat.reduceBEq, ↓reduceIte, ↓reduceDIte, Nat.reduceAdd, Nat.reduceSub, Nat.reduceMul, Nat.reduceLeDiff, ← Bool.decide_and, ← Bool.decide_or, ← decide_not, Int.reduceLT, Int.reduceLE, Int.reduceToNat, Int.reduceNeg, Int.reduceEq, not_true_eq_false, not_false_eq_true, false_implies]
  clear hx
  repeat' (first | (with_reducible intro _) | (with_reducible apply And.intro) | (with_reducible refine ⟨_, (c_letters _).dec, ?_⟩; try simp only [go_sem, Nat.reduceBEq, ↓reduceIte, ↓reduceDIte, Nat.reduceAdd, Nat.reduceSub, Nat.reduceMul, Nat.reduceLeDiff, ← Bool.decide_and, ← Bool.decide_or, ← decide_not, Int.reduceLT, Int.reduceLE, Int.reduceToNat, Int.reduceNeg, Int.reduceEq, not_true_eq_false, not_false_eq_true, false_implies]) | (with_reducible refine ⟨_, (c_increasing _).dec, ?_⟩; try simp only [go_sem, Nat.reduceBEq, ↓reduceIte, ↓reduceDIte, Nat.reduceAdd, Nat.reduceSub, Nat.reduceMul, Nat.reduceLeDiff, ← Bool.decide_and, ← Bool.decide_or, ← decide_not, Int.reduceLT, Int.reduceLE, Int.reduceToNat, Int.reduceNeg, Int.reduceEq, not_true_eq_false, not_false_eq_true, false_implies]) | (with_reducible refine ⟨_, (c_coord _).dec, ?_⟩; try simp only [go_sem, Nat.reduceBEq, ↓reduceIte, ↓reduceDIte, Nat.reduceAdd, Nat.reduceSub, Nat.reduceMul, Nat.reduceLeDiff, ← Bool.decide_and, ← Bool.decide_or, ← decide_not, Int.reduceLT, Int.reduceLE, Int.reduceToNat, Int.reduceNeg, Int.reduceEq, not_true_eq_false, not_false_eq_true, false_implies]) | fail)
  all_goals (try simp only [str0, len0] at *) <;> first | (simp_all [validE, partK, partP, partT, partN, -List.all_eq_true, -List.all_eq_false]; done) | (simp_all [validE, partK, partP, partT, partN, -List.all_eq_true, -List.all_eq_false]; first | omega | (intros; omega) | (intros; simp_all; done) | (intros; simp_all; omega))
theorem c_ValidR3 (keys : Str) (p : List (Int × Int)) (t : Str) (n l : Int) : PC env 18 [⟨EventT, (3, keys, p, t, n, l)⟩] .bool (validE (3, keys, p, t, n, l)) := by
  refine PC.of_PW (m := 2000) env_ok fn_18 rfl rfl rfl rfl (by kernel_rfl) ?_; intro hx; simp only [Tryd.f18]; simp only [go_sem, Nat.reduceBEq, ↓reduceIte, ↓reduceDIte, Nat.reduceAdd, Nat.reduceSub, Nat.reduceMul, Nat.reduceLeDiff, ← Bool.decide_and, ← Bool.decide_or, ← decide_not, Int.reduceLT, Int.reduceLE, Int.reduceToNat, Int.reduceNeg, Int.reduceEq, not_true_eq_false, not_false_eq_true, false_implies]
  clear hx
  repeat' (first | (with_reducible intro _) | (with_reducible apply And.intro) | (with_reducible refine ⟨_, (c_Letters _).dec, ?_⟩; try simp only [go_sem, Nat.reduceBEq, ↓reduceIte, ↓reduceDIte, Nat.reduceAdd, Nat.reduceSub, Nat.reduceMul, Nat.reduceLeDiff, ← Bool.decide_and, ← Bool.decide_or, ← decide_not, Int.reduceLT, Int.reduceLE, Int.reduceToNat, Int.reduceNeg, Int.reduceEq, not_true_eq_false, not_false_eq_true, false_implies]) | (with_reducible refine ⟨_, (c_rising _).dec, ?_⟩; try simp only [go_sem, Nat.reduceBEq, ↓reduceIte, ↓reduceDIte, Nat.reduceAdd, Nat.reduceSub, Nat.reduceMul, Nat.reduceLeDiff, ← Bool.decide_and, ← Bool.decide_or, ← decide_not, Int.reduceLT, Int.reduceLE, Int.reduceToNat, Int.reduceNeg, Int.reduceEq, not_true_eq_false, not_false_eq_true, false_implies]) | (with_reducible refine ⟨_, (c_points _ _ _).dec, ?_⟩; try simp only [go_sem, Nat.reduceBEq, ↓reduceIte, ↓reduceDIte, Nat.reduceAdd, Nat.reduceSub, Nat.reduceMul, Nat.reduceLeDiff, ← Bool.decide_and, ← Bool.decide_or, ← decide_not, Int.reduceLT, Int.reduceLE, Int.reduceToNat, Int.reduceNeg, Int.reduceEq, not_true_eq_false, not_false_eq_true, false_implies]) | (with_reducible refine ⟨_, (c_In _ _ _).dec, ?_⟩; try simp only [go_sem, Nat.reduceBEq, ↓reduceIte, ↓reduceDIte, Nat.reduceAdd, Nat.reduceSub, Nat.reduceMul, Nat.reduceLeDiff, ← Bool.decide_and, ← Bool.decide_or, ← decide_not, Int.reduceLT, Int.reduceLE, Int.reduceToNat, Int.reduceNeg, Int.reduceEq, not_true_eq_false, not_false_eq_true, false_implies]) | fail)
  all_goals (try simp only [str0, len0] at *) <;> first | (simp_all [validE, partK, partP, partT, partN, inB, -List.all_eq_true, -List.all_eq_false]; done) | (simp_all [validE, partK, partP, partT, partN, inB, -List.all_eq_true, -List.all_eq_false]; first | omega | (intros; omega) | (intros; simp_all; done) | (intros; simp_all; omega))
theorem c_Valid4 (keys : Str) (p : List (Int × Int)) (t : Str) (n l : Int) : PC env 17 [⟨EventT, (4, keys, p, t, n, l)⟩] .bool (validE (4, keys, p, t, n, l)) := by
  refine PC.of_PW (m := 2000) env_ok fn_17 rfl rfl rfl rfl (by kernel_rfl) ?_; intro hx; simp only [Tryd.f17]; simp only [go_sem, Nat.reduceBEq, ↓reduceIte, ↓reduceDIte, Nat.reduceAdd, Nat.reduceSub, Nat.reduceMul, Nat.reduceLeDiff, ← Bool.decide_and, ← Bool.decide_or, ← decide_not, Int.reduceLT, Int.reduceLE, Int.reduceToNat, Int.reduceNeg, Int.reduceEq, not_true_eq_false, not_false_eq_true, false_implies]
  clear hx
  repeat' (first | (with_reducible intro _) | (with_reducible apply And.intro) | (with_reducible refine ⟨_, (c_letters _).dec, ?_⟩; try simp only [go_sem, Nat.reduceBEq, ↓reduceIte, ↓reduceDIte, Nat.reduceAdd, Nat.reduceSub, Nat.reduceMul, Nat.reduceLeDiff, ← Bool.decide_and, ← Bool.decide_or, ← decide_not, Int.reduceLT, Int.reduceLE, Int.reduceToNat, Int.reduceNeg, Int.reduceEq, not_true_eq_false, not_false_eq_true, false_implies]) | (with_reducible refine ⟨_, (c_increasing _).dec, ?_⟩; try simp only [go_sem, Nat.reduceBEq, ↓reduceIte, ↓reduceDIte, Nat.reduceAdd, Nat.reduceSub, Nat.reduceMul, Nat.reduceLeDiff, ← Bool.decide_and, ← Bool.decide_or, ← decide_not, Int.reduceLT, Int.reduceLE, Int.reduceToNat, Int.reduceNeg, Int.reduceEq, not_true_eq_false, not_false_eq_true, false_implies]) | (with_reducible refine ⟨_, (c_coord _).dec, ?_⟩; try simp only [go_sem, Nat.reduceBEq, ↓reduceIte, ↓reduceDIte, Nat.reduceAdd, Nat.reduceSub, Nat.reduceMul, Nat.reduceLeDiff, ← Bool.decide_and, ← Bool.decide_or, ← decide_not, Int.reduceLT, Int.reduceLE, Int.reduceToNat, Int.reduceNeg, Int.reduceEq, not_true_eq_false, not_false_eq_true, false_implies]) | fail)
  all_goals (try simp only [str0, len0] at *) <;> first | (simp_all [validE, partK, partP, partT, partN, -List.all_eq_true, -List.all_eq_false]; done) | (simp_all [validE, partK, partP, partT, partN, -List.all_eq_true, -List.all_eq_false]; first | omega | (intros; omega) | (intros; simp_all; done) | (intros; simp_all; omega))
theorem c_ValidR4 (keys : Str) (p : List (Int × Int)) (t : Str) (n l : Int) : PC env 18 [⟨EventT, (4, keys, p, t, n, l)⟩] .bool (validE (4, keys, p, t, n, l)) := by
  refine PC.of_PW (m := 2000) env_ok fn_18 rfl rfl rfl rfl (by kernel_rfl) ?_; intro hx; simp only [Tryd.f18]; simp only [go_sem, Nat.reduceBEq, ↓reduceIte, ↓reduceDIte, Nat.reduceAdd, Nat.reduceSub, Nat.reduceMul, Nat.reduceLeDiff, ← Bool.decide_and, ← Bool.decide_or, ← decide_not, Int.reduceLT, Int.reduceLE, Int.reduceToNat, Int.reduceNeg, Int.reduceEq, not_true_eq_false, not_false_eq_true, false_implies]
  clear hx
  repeat' (first | (with_reducible intro _) | (with_reducible apply And.intro) | (with_reducible refine ⟨_, (c_Letters _).dec, ?_⟩; try simp only [go_sem, Nat.reduceBEq, ↓reduceIte, ↓reduceDIte, Nat.reduceAdd, Nat.reduceSub, Nat.reduceMul, Nat.reduceLeDiff, ← Bool.decide_and, ← Bool.decide_or, ← decide_not, Int.reduceLT, Int.reduceLE, Int.reduceToNat, Int.reduceNeg, Int.reduceEq, not_true_eq_false, not_false_eq_true, false_implies]) | (with_reducible refine ⟨_, (c_rising _).dec, ?_⟩; try simp only [go_sem, Nat.reduceBEq, ↓reduceIte, ↓reduceDIte, Nat.reduceAdd, Nat.reduceSub, Nat.reduceMul, Nat.reduceLeDiff, ← Bool.decide_and, ← Bool.decide_or, ← decide_not, Int.reduceLT, Int.reduceLE, Int.reduceToNat, Int.reduceNeg, Int.reduceEq, not_true_eq_false, not_false_eq_true, false_implies]) | (with_reducible refine ⟨_, (c_points _ _ _).dec, ?_⟩; try simp only [go_sem, Nat.reduceBEq, ↓reduceIte, ↓reduceDIte, Nat.reduceAdd, Nat.reduceSub, Nat.reduceMul, Nat.reduceLeDiff, ← Bool.decide_and, ← Bool.decide_or, ← decide_not, Int.reduceLT, Int.reduceLE, Int.reduceToNat, Int.reduceNeg, Int.reduceEq, not_true_eq_false, not_false_eq_true, false_implies]) | (with_reducible refine ⟨_, (c_In _ _ _).dec, ?_⟩; try simp only [go_sem, Nat.reduceBEq, ↓reduceIte, ↓reduceDIte, Nat.reduceAdd, Nat.reduceSub, Nat.reduceMul, Nat.reduceLeDiff, ← Bool.decide_and, ← Bool.decide_or, ← decide_not, Int.reduceLT, Int.reduceLE, Int.reduceToNat, Int.reduceNeg, Int.reduceEq, not_true_eq_false, not_false_eq_true, false_implies]) | fail)
  all_goals (try simp only [str0, len0] at *) <;> first | (simp_all [validE, partK, partP, partT, partN, inB, -List.all_eq_true, -List.all_eq_false]; done) | (simp_all [validE, partK, partP, partT, partN, inB, -List.all_eq_true, -List.all_eq_false]; first | omega | (intros; omega) | (intros; simp_all; done) | (intros; simp_all; omega))
theorem c_Valid5 (keys : Str) (p : List (Int × Int)) (t : Str) (n l : Int) : PC env 17 [⟨EventT, (5, keys, p, t, n, l)⟩] .bool (validE (5, keys, p, t, n, l)) := by
  refine PC.of_PW (m := 2000) env_ok fn_17 rfl rfl rfl rfl (by kernel_rfl) ?_; intro hx; simp only [Tryd.f17]; simp only [go_sem, Nat.reduceBEq, ↓reduceIte, ↓reduceDIte, Nat.reduceAdd, Nat.reduceSub, Nat.reduceMul, Nat.reduceLeDiff, ← Bool.decide_and, ← Bool.decide_or, ← decide_not, Int.reduceLT, Int.reduceLE, Int.reduceToNat, Int.reduceNeg, Int.reduceEq, not_true_eq_false, not_false_eq_true, false_implies]
  clear hx
  repeat' (first | (with_reducible intro _) | (with_reducible apply And.intro) | (with_reducible refine ⟨_, (c_letters _).dec, ?_⟩; try simp only [go_sem, Nat.reduceBEq, ↓reduceIte, ↓reduceDIte, Nat.reduceAdd, Nat.reduceSub, Nat.reduceMul, Nat.reduceLeDiff, ← Bool.decide_and, ← Bool.decide_or, ← decide_not, Int.reduceLT, Int.reduceLE, Int.reduceToNat, Int.reduceNeg, Int.reduceEq, not_true_eq_false, not_false_eq_true, false_implies]) | (with_reducible refine ⟨_, (c_increasing _).dec, ?_⟩; try simp only [go_sem, Nat.reduceBEq, ↓reduceIte, ↓reduceDIte, Nat.reduceAdd, Nat.reduceSub, Nat.reduceMul, Nat.reduceLeDiff, ← Bool.decide_and, ← Bool.decide_or, ← decide_not, Int.reduceLT, Int.reduceLE, Int.reduceToNat, Int.reduceNeg, Int.reduceEq, not_true_eq_false, not_false_eq_true, false_implies]) | (with_reducible refine ⟨_, (c_coord _).dec, ?_⟩; try simp only [go_sem, Nat.reduceBEq, ↓reduceIte, ↓reduceDIte, Nat.reduceAdd, Nat.reduceSub, Nat.reduceMul, Nat.reduceLeDiff, ← Bool.decide_and, ← Bool.decide_or, ← decide_not, Int.reduceLT, Int.reduceLE, Int.reduceToNat, Int.reduceNeg, Int.reduceEq, not_true_eq_false, not_false_eq_true, false_implies]) | fail)
  all_goals (try simp only [str0, len0] at *) <;> first | (simp_all [validE, partK, partP, partT, partN, -List.all_eq_true, -List.all_eq_false]; done) | (simp_all [validE, partK, partP, partT, partN, -List.all_eq_true, -List.all_eq_false]; first | omega | (intros; omega) | (intros; simp_all; done) | (intros; simp_all; omega))
theorem c_ValidR5 (keys : Str) (p : List (Int × Int)) (t : Str) (n l : Int) : PC env 18 [⟨EventT, (5, keys, p, t, n, l)⟩] .bool (validE (5, keys, p, t, n, l)) := by
  refine PC.of_PW (m := 2000) env_ok fn_18 rfl rfl rfl rfl (by kernel_rfl) ?_; intro hx; simp only [Tryd.f18]; simp only [go_sem, Nat.reduceBEq, ↓reduceIte, ↓reduceDIte, Nat.reduceAdd, Nat.reduceSub, Nat.reduceMul, Nat.reduceLeDiff, ← Bool.decide_and, ← Bool.decide_or, ← decide_not, Int.reduceLT, Int.reduceLE, Int.reduceToNat, Int.reduceNeg, Int.reduceEq, not_true_eq_false, not_false_eq_true, false_implies]
  clear hx
  repeat' (first | (with_reducible intro _) | (with_reducible apply And.intro) | (with_reducible refine ⟨_, (c_Letters _).dec, ?_⟩; try simp only [go_sem, Nat.reduceBEq, ↓reduceIte, ↓reduceDIte, Nat.reduceAdd, Nat.reduceSub, Nat.reduceMul, Nat.reduceLeDiff, ← Bool.decide_and, ← Bool.decide_or, ← decide_not, Int.reduceLT, Int.reduceLE, Int.reduceToNat, Int.reduceNeg, Int.reduceEq, not_true_eq_false, not_false_eq_true, false_implies]) | (with_reducible refine ⟨_, (c_rising _).dec, ?_⟩; try simp only [go_sem, Nat.reduceBEq, ↓reduceIte, ↓reduceDIte, Nat.reduceAdd, Nat.reduceSub, Nat.reduceMul, Nat.reduceLeDiff, ← Bool.decide_and, ← Bool.decide_or, ← decide_not, Int.reduceLT, Int.reduceLE, Int.reduceToNat, Int.reduceNeg, Int.reduceEq, not_true_eq_false, not_false_eq_true, false_implies]) | (with_reducible refine ⟨_, (c_points _ _ _).dec, ?_⟩; try simp only [go_sem, Nat.reduceBEq, ↓reduceIte, ↓reduceDIte, Nat.reduceAdd, Nat.reduceSub, Nat.reduceMul, Nat.reduceLeDiff, ← Bool.decide_and, ← Bool.decide_or, ← decide_not, Int.reduceLT, Int.reduceLE, Int.reduceToNat, Int.reduceNeg, Int.reduceEq, not_true_eq_false, not_false_eq_true, false_implies]) | (with_reducible refine ⟨_, (c_In _ _ _).dec, ?_⟩; try simp only [go_sem, Nat.reduceBEq, ↓reduceIte, ↓reduceDIte, Nat.reduceAdd, Nat.reduceSub, Nat.reduceMul, Nat.reduceLeDiff, ← Bool.decide_and, ← Bool.decide_or, ← decide_not, Int.reduceLT, Int.reduceLE, Int.reduceToNat, Int.reduceNeg, Int.reduceEq, not_true_eq_false, not_false_eq_true, false_implies]) | fail)
  all_goals (try simp only [str0, len0] at *) <;> first | (simp_all [validE, partK, partP, partT, partN, inB, -List.all_eq_true, -List.all_eq_false]; done) | (simp_all [validE, partK, partP, partT, partN, inB, -List.all_eq_true, -List.all_eq_false]; first | omega | (intros; omega) | (intros; simp_all; done) | (intros; simp_all; omega))
theorem c_Valid6 (keys : Str) (p : List (Int × Int)) (t : Str) (n l : Int) : PC env 17 [⟨EventT, (6, keys, p, t, n, l)⟩] .bool (validE (6, keys, p, t, n, l)) := by
  refine PC.of_PW (m := 2000) env_ok fn_17 rfl rfl rfl rfl (by kernel_rfl) ?_; intro hx; simp only [Tryd.f17]; simp only [go_sem, Nat.reduceBEq, ↓reduceIte, ↓reduceDIte, Nat.reduceAdd, Nat.reduceSub, Nat.reduceMul, Nat.reduceLeDiff, ← Bool.decide_and, ← Bool.decide_or, ← decide_not, Int.reduceLT, Int.reduceLE, Int.reduceToNat, Int.reduceNeg, Int.reduceEq, not_true_eq_false, not_false_eq_true, false_implies]
  clear hx
  repeat' (first | (with_reducible intro _) | (with_reducible apply And.intro) | (with_reducible refine ⟨_, (c_letters _).dec, ?_⟩; try simp only [go_sem, Nat.reduceBEq, ↓reduceIte, ↓reduceDIte, Nat.reduceAdd, Nat.reduceSub, Nat.reduceMul, Nat.reduceLeDiff, ← Bool.decide_and, ← Bool.decide_or, ← decide_not, Int.reduceLT, Int.reduceLE, Int.reduceToNat, Int.reduceNeg, Int.reduceEq, not_true_eq_false, not_false_eq_true, false_implies]) | (with_reducible refine ⟨_, (c_increasing _).dec, ?_⟩; try simp only [go_sem, Nat.reduceBEq, ↓reduceIte, ↓reduceDIte, Nat.reduceAdd, Nat.reduceSub, Nat.reduceMul, Nat.reduceLeDiff, ← Bool.decide_and, ← Bool.decide_or, ← decide_not, Int.reduceLT, Int.reduceLE, Int.reduceToNat, Int.reduceNeg, Int.reduceEq, not_true_eq_false, not_false_eq_true, false_implies]) | (with_reducible refine ⟨_, (c_coord _).dec, ?_⟩; try simp only [go_sem, Nat.reduceBEq, ↓reduceIte, ↓reduceDIte, Nat.reduceAdd, Nat.reduceSub, Nat.reduceMul, Nat.reduceLeDiff, ← Bool.decide_and, ← Bool.decide_or, ← decide_not, Int.reduceLT, Int.reduceLE, Int.reduceToNat, Int.reduceNeg, Int.reduceEq, not_true_eq_false, not_false_eq_true, false_implies]) | fail)
  all_goals (try simp only [str0, len0] at *) <;> first | (simp_all [validE, partK, partP, partT, partN, -List.all_eq_true, -List.all_eq_false]; done) | (simp_all [validE, partK, partP, partT, partN, -List.all_eq_true, -List.all_eq_false]; first | omega | (intros; omega) | (intros; simp_all; done) | (intros; simp_all; omega))
theorem c_ValidR6 (keys : Str) (p : List (Int × Int)) (t : Str) (n l : Int) : PC env 18 [⟨EventT, (6, keys, p, t, n, l)⟩] .bool (validE (6, keys, p, t, n, l)) := by
  refine PC.of_PW (m := 2000) env_ok fn_18 rfl rfl rfl rfl (by kernel_rfl) ?_; intro hx; simp only [Tryd.f18]; simp only [go_sem, Nat.reduceBEq, ↓reduceIte, ↓reduceDIte, Nat.reduceAdd, Nat.reduceSub, Nat.reduceMul, Nat.reduceLeDiff, ← Bool.decide_and, ← Bool.decide_or, ← decide_not, Int.reduceLT, Int.reduceLE, Int.reduceToNat, Int.reduceNeg, Int.reduceEq, not_true_eq_false, not_false_eq_true, false_implies]
  clear hx
  repeat' (first | (with_reducible intro _) | (with_reducible apply And.intro) | (with_reducible refine ⟨_, (c_Letters _).dec, ?_⟩; try simp only [go_sem, Nat.reduceBEq, ↓reduceIte, ↓reduceDIte, Nat.reduceAdd, Nat.reduceSub, Nat.reduceMul, Nat.reduceLeDiff, ← Bool.decide_and, ← Bool.decide_or, ← decide_not, Int.reduceLT, Int.reduceLE, Int.reduceToNat, Int.reduceNeg, Int.reduceEq, not_true_eq_false, not_false_eq_true, false_implies]) | (with_reducible refine ⟨_, (c_rising _).dec, ?_⟩; try simp only [go_sem, Nat.reduceBEq, ↓reduceIte, ↓reduceDIte, Nat.reduceAdd, Nat.reduceSub, Nat.reduceMul, Nat.reduceLeDiff, ← Bool.decide_and, ← Bool.decide_or, ← decide_not, Int.reduceLT, Int.reduceLE, Int.reduceToNat, Int.reduceNeg, Int.reduceEq, not_true_eq_false, not_false_eq_true, false_implies]) | (with_reducible refine ⟨_, (c_points _ _ _).dec, ?_⟩; try simp only [go_sem, Nat.reduceBEq, ↓reduceIte, ↓reduceDIte, Nat.reduceAdd, Nat.reduceSub, Nat.reduceMul, Nat.reduceLeDiff, ← Bool.decide_and, ← Bool.decide_or, ← decide_not, Int.reduceLT, Int.reduceLE, Int.reduceToNat, Int.reduceNeg, Int.reduceEq, not_true_eq_false, not_false_eq_true, false_implies]) | (with_reducible refine ⟨_, (c_In _ _ _).dec, ?_⟩; try simp only [go_sem, Nat.reduceBEq, ↓reduceIte, ↓reduceDIte, Nat.reduceAdd, Nat.reduceSub, Nat.reduceMul, Nat.reduceLeDiff, ← Bool.decide_and, ← Bool.decide_or, ← decide_not, Int.reduceLT, Int.reduceLE, Int.reduceToNat, Int.reduceNeg, Int.reduceEq, not_true_eq_false, not_false_eq_true, false_implies]) | fail)
  all_goals (try simp only [str0, len0] at *) <;> first | (simp_all [validE, partK, partP, partT, partN, inB, -List.all_eq_true, -List.all_eq_false]; done) | (simp_all [validE, partK, partP, partT, partN, inB, -List.all_eq_true, -List.all_eq_false]; first | omega | (intros; omega) | (intros; simp_all; done) | (intros; simp_all; omega))
theorem c_Valid7 (keys : Str) (p : List (Int × Int)) (t : Str) (n l : Int) : PC env 17 [⟨EventT, (7, keys, p, t, n, l)⟩] .bool (validE (7, keys, p, t, n, l)) := by
  refine PC.of_PW (m := 2000) env_ok fn_17 rfl rfl rfl rfl (by kernel_rfl) ?_; intro hx; simp only [Tryd.f17]; simp only [go_sem, Nat.reduceBEq, ↓reduceIte, ↓reduceDIte, Nat.reduceAdd, Nat.reduceSub, Nat.reduceMul, Nat.reduceLeDiff, ← Bool.decide_and, ← Bool.decide_or, ← decide_not, Int.reduceLT, Int.reduceLE, Int.reduceToNat, Int.reduceNeg, Int.reduceEq, not_true_eq_false, not_false_eq_true, false_implies]
  clear hx
  repeat' (first | (with_reducible intro _) | (with_reducible apply And.intro) | (with_reducible refine ⟨_, (c_letters _).dec, ?_⟩; try simp only [go_sem, Nat.reduceBEq, ↓reduceIte, ↓reduceDIte, Nat.reduceAdd, Nat.reduceSub, Nat.reduceMul, Nat.reduceLeDiff, ← Bool.decide_and, ← Bool.decide_or, ← decide_not, Int.reduceLT, Int.reduceLE, Int.reduceToNat, Int.reduceNeg, Int.reduceEq, not_true_eq_false, not_false_eq_true, false_implies]) | (with_reducible refine ⟨_, (c_increasing _).dec, ?_⟩; try simp only [go_sem, Nat.reduceBEq, ↓reduceIte, ↓reduceDIte, Nat.reduceAdd, Nat.reduceSub, Nat.reduceMul, Nat.reduceLeDiff, ← Bool.decide_and, ← Bool.decide_or, ← decide_not, Int.reduceLT, Int.reduceLE, Int.reduceToNat, Int.reduceNeg, Int.reduceEq, not_true_eq_false, not_false_eq_true, false_implies]) | (with_reducible refine ⟨_, (c_coord _).dec, ?_⟩; try simp only [go_sem, Nat.reduceBEq, ↓reduceIte, ↓reduceDIte, Nat.reduceAdd, Nat.reduceSub, Nat.reduceMul, Nat.reduceLeDiff, ← Bool.decide_and, ← Bool.decide_or, ← decide_not, Int.reduceLT, Int.reduceLE, Int.reduceToNat, Int.reduceNeg, Int.reduceEq, not_true_eq_false, not_false_eq_true, false_implies]) | fail)
  all_goals (try simp only [str0, len0] at *) <;> first | (simp_all [validE, partK, partP, partT, partN, -List.all_eq_true, -List.all_eq_false]; done) | (simp_all [validE, partK, partP, partT, partN, -List.all_eq_true, -List.all_eq_false]; first | omega | (intros; omega) | (intros; simp_all; done) | (intros; simp_all; omega))
theorem c_ValidR7 (keys : Str) (p : List (Int × Int)) (t : Str) (n l : Int) : PC env 18 [⟨EventT, (7, keys, p, t, n, l)⟩] .bool (validE (7, keys, p, t, n, l)) := by
  refine PC.of_PW (m := 2000) env_ok fn_18 rfl rfl rfl rfl (by kernel_rfl) ?_; intro hx; simp only [Tryd.f18]; simp only [go_sem, Nat.reduceBEq, ↓reduceIte, ↓reduceDIte, Nat.reduceAdd, Nat.reduceSub, Nat.reduceMul, Nat.reduceLeDiff, ← Bool.decide_and, ← Bool.decide_or, ← decide_not, Int.reduceLT, Int.reduceLE, Int.reduceToNat, Int.reduceNeg, Int.reduceEq, not_true_eq_false, not_false_eq_true, false_implies]
  clear hx
  repeat' (first | (with_reducible intro _) | (with_reducible apply And.intro) | (with_reducible refine ⟨_, (c_Letters _).dec, ?_⟩; try simp only [go_sem, Nat.reduceBEq, ↓reduceIte, ↓reduceDIte, Nat.reduceAdd, Nat.reduceSub, Nat.reduceMul, Nat.reduceLeDiff, ← Bool.decide_and, ← Bool.decide_or, ← decide_not, Int.reduceLT, Int.reduceLE, Int.reduceToNat, Int.reduceNeg, Int.reduceEq, not_true_eq_false, not_false_eq_true, false_implies]) | (with_reducible refine ⟨_, (c_rising _).dec, ?_⟩; try simp only [go_sem, Nat.reduceBEq, ↓reduceIte, ↓reduceDIte, Nat.reduceAdd, Nat.reduceSub, Nat.reduceMul, Nat.reduceLeDiff, ← Bool.decide_and, ← Bool.decide_or, ← decide_not, Int.reduceLT, Int.reduceLE, Int.reduceToNat, Int.reduceNeg, Int.reduceEq, not_true_eq_false, not_false_eq_true, false_implies]) | (with_reducible refine ⟨_, (c_points _ _ _).dec, ?_⟩; try simp only [go_sem, Nat.reduceBEq, ↓reduceIte, ↓reduceDIte, Nat.reduceAdd, Nat.reduceSub, Nat.reduceMul, Nat.reduceLeDiff, ← Bool.decide_and, ← Bool.decide_or, ← decide_not, Int.reduceLT, Int.reduceLE, Int.reduceToNat, Int.reduceNeg, Int.reduceEq, not_true_eq_false, not_false_eq_true, false_implies]) | (with_reducible refine ⟨_, (c_In _ _ _).dec, ?_⟩; try simp only [go_sem, Nat.reduceBEq, ↓reduceIte, ↓reduceDIte, Nat.reduceAdd, Nat.reduceSub, Nat.reduceMul, Nat.reduceLeDiff, ← Bool.decide_and, ← Bool.decide_or, ← decide_not, Int.reduceLT, Int.reduceLE, Int.reduceToNat, Int.reduceNeg, Int.reduceEq, not_true_eq_false, not_false_eq_true, false_implies]) | fail)
  all_goals (try simp only [str0, len0] at *) <;> first | (simp_all [validE, partK, partP, partT, partN, inB, -List.all_eq_true, -List.all_eq_false]; done) | (simp_all [validE, partK, partP, partT, partN, inB, -List.all_eq_true, -List.all_eq_false]; first | omega | (intros; omega) | (intros; simp_all; done) | (intros; simp_all; omega))
theorem c_Valid8 (keys : Str) (p : List (Int × Int)) (t : Str) (n l : Int) : PC env 17 [⟨EventT, (8, keys, p, t, n, l)⟩] .bool (validE (8, keys, p, t, n, l)) := by
  refine PC.of_PW (m := 2000) env_ok fn_17 rfl rfl rfl rfl (by kernel_rfl) ?_; intro hx; simp only [Tryd.f17]; simp only [go_sem, Nat.reduceBEq, ↓reduceIte, ↓reduceDIte, Nat.reduceAdd, Nat.reduceSub, Nat.reduceMul, Nat.reduceLeDiff, ← Bool.decide_and, ← Bool.decide_or, ← decide_not, Int.reduceLT, Int.reduceLE, Int.reduceToNat, Int.reduceNeg, Int.reduceEq, not_true_eq_false, not_false_eq_true, false_implies]
  clear hx
  repeat' (first | (with_reducible intro _) | (with_reducible apply And.intro) | (with_reducible refine ⟨_, (c_letters _).dec, ?_⟩; try simp only [go_sem, Nat.reduceBEq, ↓reduceIte, ↓reduceDIte, Nat.reduceAdd, Nat.reduceSub, Nat.reduceMul, Nat.reduceLeDiff, ← Bool.decide_and, ← Bool.decide_or, ← decide_not, Int.reduceLT, Int.reduceLE, Int.reduceToNat, Int.reduceNeg, Int.reduceEq, not_true_eq_false, not_false_eq_true, false_implies]) | (with_reducible refine ⟨_, (c_increasing _).dec, ?_⟩; try simp only [go_sem, Nat.reduceBEq, ↓reduceIte, ↓reduceDIte, Nat.reduceAdd, Nat.reduceSub, Nat.reduceMul, Nat.reduceLeDiff, ← Bool.decide_and, ← Bool.decide_or, ← decide_not, Int.reduceLT, Int.reduceLE, Int.reduceToNat, Int.reduceNeg, Int.reduceEq, not_true_eq_false, not_false_eq_true, false_implies]) | (with_reducible refine ⟨_, (c_coord _).dec, ?_⟩; try simp only [go_sem, Nat.reduceBEq, ↓reduceIte, ↓reduceDIte, Nat.reduceAdd, Nat.reduceSub, Nat.reduceMul, Nat.reduceLeDiff, ← Bool.decide_and, ← Bool.decide_or, ← decide_not, Int.reduceLT, Int.reduceLE, Int.reduceToNat, Int.reduceNeg, Int.reduceEq, not_true_eq_false, not_false_eq_true, false_implies]) | fail)
  all_goals (try simp only [str0, len0] at *) <;> first | (simp_all [validE, partK, partP, partT, partN, -List.all_eq_true, -List.all_eq_false]; done) | (simp_all [validE, partK, partP, partT, partN, -List.all_eq_true, -List.all_eq_false]; first | omega | (intros; omega) | (intros; simp_all; done) | (intros; simp_all; omega))
theorem c_ValidR8 (keys : Str) (p : List (Int × Int)) (t : Str) (n l : Int) : PC env 18 [⟨EventT, (8, keys, p, t, n, l)⟩] .bool (validE (8, keys, p, t, n, l)) := by
  refine PC.of_PW (m := 2000) env_ok fn_18 rfl rfl rfl rfl (by kernel_rfl) ?_; intro hx; simp only [Tryd.f18]; simp only [go_sem, Nat.reduceBEq, ↓reduceIte, ↓reduceDIte, Nat.reduceAdd, Nat.reduceSub, Nat.reduceMul, Nat.reduceLeDiff, ← Bool.decide_and, ← Bool.decide_or, ← decide_not, Int.reduceLT, Int.reduceLE, Int.reduceToNat, Int.reduceNeg, Int.reduceEq, not_true_eq_false, not_false_eq_true, false_implies]
  clear hx
  repeat' (first | (with_reducible intro _) | (with_reducible apply And.intro) | (with_reducible refine ⟨_, (c_Letters _).dec, ?_⟩; try simp only [go_sem, Nat.reduceBEq, ↓reduceIte, ↓reduceDIte, Nat.reduceAdd, Nat.reduceSub, Nat.reduceMul, Nat.reduceLeDiff, ← Bool.decide_and, ← Bool.decide_or, ← decide_not, Int.reduceLT, Int.reduceLE, Int.reduceToNat, Int.reduceNeg, Int.reduceEq, not_true_eq_false, not_false_eq_true, false_implies]) | (with_reducible refine ⟨_, (c_rising _).dec, ?_⟩; try simp only [go_sem, Nat.reduceBEq, ↓reduceIte, ↓reduceDIte, Nat.reduceAdd, Nat.reduceSub, Nat.reduceMul, Nat.reduceLeDiff, ← Bool.decide_and, ← Bool.decide_or, ← decide_not, Int.reduceLT, Int.reduceLE, Int.reduceToNat, Int.reduceNeg, Int.reduceEq, not_true_eq_false, not_false_eq_true, false_implies]) | (with_reducible refine ⟨_, (c_points _ _ _).dec, ?_⟩; try simp only [go_sem, Nat.reduceBEq, ↓reduceIte, ↓reduceDIte, Nat.reduceAdd, Nat.reduceSub, Nat.reduceMul, Nat.reduceLeDiff, ← Bool.decide_and, ← Bool.decide_or, ← decide_not, Int.reduceLT, Int.reduceLE, Int.reduceToNat, Int.reduceNeg, Int.reduceEq, not_true_eq_false, not_false_eq_true, false_implies]) | (with_reducible refine ⟨_, (c_In _ _ _).dec, ?_⟩; try simp only [go_sem, Nat.reduceBEq, ↓reduceIte, ↓reduceDIte, Nat.reduceAdd, Nat.reduceSub, Nat.reduceMul, Nat.reduceLeDiff, ← Bool.decide_and, ← Bool.decide_or, ← decide_not, Int.reduceLT, Int.reduceLE, Int.reduceToNat, Int.reduceNeg, Int.reduceEq, not_true_eq_false, not_false_eq_true, false_implies]) | fail)
  all_goals (try simp only [str0, len0] at *) <;> first | (simp_all [validE, partK, partP, partT, partN, inB, -List.all_eq_true, -List.all_eq_false]; done) | (simp_all [validE, partK, partP, partT, partN, inB, -List.all_eq_true, -List.all_eq_false]; first | omega | (intros; omega) | (intros; simp_all; done) | (intros; simp_all; omega))
theorem c_Valid9 (keys : Str) (p : List (Int × Int)) (t : Str) (n l : Int) : PC env 17 [⟨EventT, (9, keys, p, t, n, l)⟩] .bool (validE (9, keys, p, t, n, l)) := by
  refine PC.of_PW (m := 2000) env_ok fn_17 rfl rfl rfl rfl (by kernel_rfl) ?_; intro hx; simp only [Tryd.f17]; simp only [go_sem, Nat.reduceBEq, ↓reduceIte, ↓reduceDIte, Nat.reduceAdd, Nat.reduceSub, Nat.reduceMul, Nat.reduceLeDiff, ← Bool.decide_and, ← Bool.decide_or, ← decide_not, Int.reduceLT, Int.reduceLE, Int.reduceToNat, Int.reduceNeg, Int.reduceEq, not_true_eq_false, not_false_eq_true, false_implies]
  clear hx
  repeat' (first | (with_reducible intro _) | (with_reducible apply And.intro) | (with_reducible refine ⟨_, (c_letters _).dec, ?_⟩; try simp only [go_sem, Nat.reduceBEq, ↓reduceIte, ↓reduceDIte, Nat.reduceAdd, Nat.reduceSub, Nat.reduceMul, Nat.reduceLeDiff, ← Bool.decide_and, ← Bool.decide_or, ← decide_not, Int.reduceLT, Int.reduceLE, Int.reduceToNat, Int.reduceNeg, Int.reduceEq, not_true_eq_false, not_false_eq_true, false_implies]) | (with_reducible refine ⟨_, (c_increasing _).dec, ?_⟩; try simp only [go_sem, Nat.reduceBEq, ↓reduceIte, ↓reduceDIte, Nat.reduceAdd, Nat.reduceSub, Nat.reduceMul, Nat.reduceLeDiff, ← Bool.decide_and, ← Bool.decide_or, ← decide_not, Int.reduceLT, Int.reduceLE, Int.reduceToNat, Int.reduceNeg, Int.reduceEq, not_true_eq_false, not_false_eq_true, false_implies]) | (with_reducible refine ⟨_, (c_coord _).dec, ?_⟩; try simp only [go_sem, Nat.reduceBEq, ↓reduceIte, ↓reduceDIte, Nat.reduceAdd, Nat.reduceSub, Nat.reduceMul, Nat.reduceLeDiff, ← Bool.decide_and, ← Bool.decide_or, ← decide_not, Int.reduceLT, Int.reduceLE, Int.reduceToNat, Int.reduceNeg, Int.reduceEq, not_true_eq_false, not_false_eq_true, false_implies]) | fail)
  all_goals (try simp only [str0, len0] at *) <;> first | (simp_all [validE, partK, partP, partT, partN, -List.all_eq_true, -List.all_eq_false]; done) | (simp_all [validE, partK, partP, partT, partN, -List.all_eq_true, -List.all_eq_false]; first | omega | (intros; omega) | (intros; simp_all; done) | (intros; simp_all; omega))
theorem c_ValidR9 (keys : Str) (p : List (Int × Int)) (t : Str) (n l : Int) : PC env 18 [⟨EventT, (9, keys, p, t, n, l)⟩] .bool (validE (9, keys, p, t, n, l)) := by
  refine PC.of_PW (m := 2000) env_ok fn_18 rfl rfl rfl rfl (by kernel_rfl) ?_; intro hx; simp only [Tryd.f18]; simp only [go_sem, Nat.reduceBEq, ↓reduceIte, ↓reduceDIte, Nat.reduceAdd, Nat.reduceSub, Nat.reduceMul, Nat.reduceLeDiff, ← Bool.decide_and, ← Bool.decide_or, ← decide_not, Int.reduceLT, Int.reduceLE, Int.reduceToNat, Int.reduceNeg, Int.reduceEq, not_true_eq_false, not_false_eq_true, false_implies]
  clear hx
  repeat' (first | (with_reducible intro _) | (with_reducible apply And.intro) | (with_reducible refine ⟨_, (c_Letters _).dec, ?_⟩; try simp only [go_sem, Nat.reduceBEq, ↓reduceIte, ↓reduceDIte, Nat.reduceAdd, Nat.reduceSub, Nat.reduceMul, Nat.reduceLeDiff, ← Bool.decide_and, ← Bool.decide_or, ← decide_not, Int.reduceLT, Int.reduceLE, Int.reduceToNat, Int.reduceNeg, Int.reduceEq, not_true_eq_false, not_false_eq_true, false_implies]) | (with_reducible refine ⟨_, (c_rising _).dec, ?_⟩; try simp only [go_sem, Nat.reduceBEq, ↓reduceIte, ↓reduceDIte, Nat.reduceAdd, Nat.reduceSub, Nat.reduceMul, Nat.reduceLeDiff, ← Bool.decide_and, ← Bool.decide_or, ← decide_not, Int.reduceLT, Int.reduceLE, Int.reduceToNat, Int.reduceNeg, Int.reduceEq, not_true_eq_false, not_false_eq_true, false_implies]) | (with_reducible refine ⟨_, (c_points _ _ _).dec, ?_⟩; try simp only [go_sem, Nat.reduceBEq, ↓reduceIte, ↓reduceDIte, Nat.reduceAdd, Nat.reduceSub, Nat.reduceMul, Nat.reduceLeDiff, ← Bool.decide_and, ← Bool.decide_or, ← decide_not, Int.reduceLT, Int.reduceLE, Int.reduceToNat, Int.reduceNeg, Int.reduceEq, not_true_eq_false, not_false_eq_true, false_implies]) | (with_reducible refine ⟨_, (c_In _ _ _).dec, ?_⟩; try simp only [go_sem, Nat.reduceBEq, ↓reduceIte, ↓reduceDIte, Nat.reduceAdd, Nat.reduceSub, Nat.reduceMul, Nat.reduceLeDiff, ← Bool.decide_and, ← Bool.decide_or, ← decide_not, Int.reduceLT, Int.reduceLE, Int.reduceToNat, Int.reduceNeg, Int.reduceEq, not_true_eq_false, not_false_eq_true, false_implies]) | fail)
  all_goals (try simp only [str0, len0] at *) <;> first | (simp_all [validE, partK, partP, partT, partN, inB, -List.all_eq_true, -List.all_eq_false]; done) | (simp_all [validE, partK, partP, partT, partN, inB, -List.all_eq_true, -List.all_eq_false]; first | omega | (intros; omega) | (intros; simp_all; done) | (intros; simp_all; omega))
theorem c_Valid10 (keys : Str) (p : List (Int × Int)) (t : Str) (n l : Int) : PC env 17 [⟨EventT, (10, keys, p, t, n, l)⟩] .bool (validE (10, keys, p, t, n, l)) := by
  refine PC.of_PW (m := 2000) env_ok fn_17 rfl rfl rfl rfl (by kernel_rfl) ?_; intro hx; simp only [Tryd.f17]; simp only [go_sem, Nat.reduceBEq, ↓reduceIte, ↓reduceDIte, Nat.reduceAdd, Nat.reduceSub, Nat.reduceMul, Nat.reduceLeDiff, ← Bool.decide_and, ← Bool.decide_or, ← decide_not, Int.reduceLT, Int.reduceLE, Int.reduceToNat, Int.reduceNeg, Int.reduceEq, not_true_eq_false, not_false_eq_true, false_implies]
  clear hx
  repeat' (first | (with_reducible intro _) | (with_reducible apply And.intro) | (with_reducible refine ⟨_, (c_letters _).dec, ?_⟩; try simp only [go_sem, Nat.reduceBEq, ↓reduceIte, ↓reduceDIte, Nat.reduceAdd, Nat.reduceSub, Nat.reduceMul, Nat.reduceLeDiff, ← Bool.decide_and, ← Bool.decide_or, ← decide_not, Int.reduceLT, Int.reduceLE, Int.reduceToNat, Int.reduceNeg, Int.reduceEq, not_true_eq_false, not_false_eq_true, false_implies]) | (with_reducible refine ⟨_, (c_increasing _).dec, ?_⟩; try simp only [go_sem, Nat.reduceBEq, ↓reduceIte, ↓reduceDIte, Nat.reduceAdd, Nat.reduceSub, Nat.reduceMul, Nat.reduceLeDiff, ← Bool.decide_and, ← Bool.decide_or, ← decide_not, Int.reduceLT, Int.reduceLE, Int.reduceToNat, Int.reduceNeg, Int.reduceEq, not_true_eq_false, not_false_eq_true, false_implies]) | (with_reducible refine ⟨_, (c_coord _).dec, ?_⟩; try simp only [go_sem, Nat.reduceBEq, ↓reduceIte, ↓reduceDIte, Nat.reduceAdd, Nat.reduceSub, Nat.reduceMul, Nat.reduceLeDiff, ← Bool.decide_and, ← Bool.decide_or, ← decide_not, Int.reduceLT, Int.reduceLE, Int.reduceToNat, Int.reduceNeg, Int.reduceEq, not_true_eq_false, not_false_eq_true, false_implies]) | fail)
  all_goals (try simp only [str0, len0] at *) <;> first | (simp_all [validE, partK, partP, partT, partN, -List.all_eq_true, -List.all_eq_false]; done) | (simp_all [validE, partK, partP, partT, partN, -List.all_eq_true, -List.all_eq_false]; first | omega | (intros; omega) | (intros; simp_all; done) | (intros; simp_all; omega))
theorem c_ValidR10 (keys : Str) (p : List (Int × Int)) (t : Str) (n l : Int) : PC env 18 [⟨EventT, (10, keys, p, t, n, l)⟩] .bool (validE (10, keys, p, t, n, l)) := by
  refine PC.of_PW (m := 2000) env_ok fn_18 rfl rfl rfl rfl (by kernel_rfl) ?_; intro hx; simp only [Tryd.f18]; simp only [go_sem, Nat.reduceBEq, ↓reduceIte, ↓reduceDIte, Nat.reduceAdd, Nat.reduceSub, Nat.reduceMul, Nat.reduceLeDiff, ← Bool.decide_and, ← Bool.decide_or, ← decide_not, Int.reduceLT, Int.reduceLE, Int.reduceToNat, Int.reduceNeg, Int.reduceEq, not_true_eq_false, not_false_eq_true, false_implies]
  clear hx
  repeat' (first | (with_reducible intro _) | (with_reducible apply And.intro) | (with_reducible refine ⟨_, (c_Letters _).dec, ?_⟩; try simp only [go_sem, Nat.reduceBEq, ↓reduceIte, ↓reduceDIte, Nat.reduceAdd, Nat.reduceSub, Nat.reduceMul, Nat.reduceLeDiff, ← Bool.decide_and, ← Bool.decide_or, ← decide_not, Int.reduceLT, Int.reduceLE, Int.reduceToNat, Int.reduceNeg, Int.reduceEq, not_true_eq_false, not_false_eq_true, false_implies]) | (with_reducible refine ⟨_, (c_rising _).dec, ?_⟩; try simp only [go_sem, Nat.reduceBEq, ↓reduceIte, ↓reduceDIte, Nat.reduceAdd, Nat.reduceSub, Nat.reduceMul, Nat.reduceLeDiff, ← Bool.decide_and, ← Bool.decide_or, ← decide_not, Int.reduceLT, Int.reduceLE, Int.reduceToNat, Int.reduceNeg, Int.reduceEq, not_true_eq_false, not_false_eq_true, false_implies]) | (with_reducible refine ⟨_, (c_points _ _ _).dec, ?_⟩; try simp only [go_sem, Nat.reduceBEq, ↓reduceIte, ↓reduceDIte, Nat.reduceAdd, Nat.reduceSub, Nat.reduceMul, Nat.reduceLeDiff, ← Bool.decide_and, ← Bool.decide_or, ← decide_not, Int.reduceLT, Int.reduceLE, Int.reduceToNat, Int.reduceNeg, Int.reduceEq, not_true_eq_false, not_false_eq_true, false_implies]) | (with_reducible refine ⟨_, (c_In _ _ _).dec, ?_⟩; try simp only [go_sem, Nat.reduceBEq, ↓reduceIte, ↓reduceDIte, Nat.reduceAdd, Nat.reduceSub, Nat.reduceMul, Nat.reduceLeDiff, ← Bool.decide_and, ← Bool.decide_or, ← decide_not, Int.reduceLT, Int.reduceLE, Int.reduceToNat, Int.reduceNeg, Int.reduceEq, not_true_eq_false, not_false_eq_true, false_implies]) | fail)
  all_goals (try simp only [str0, len0] at *) <;> first | (simp_all [validE, partK, partP, partT, partN, inB, -List.all_eq_true, -List.all_eq_false]; done) | (simp_all [validE, partK, partP, partT, partN, inB, -List.all_eq_true, -List.all_eq_false]; first | omega | (intros; omega) | (intros; simp_all; done) | (intros; simp_all; omega))
theorem c_Valid11 (keys : Str) (p : List (Int × Int)) (t : Str) (n l : Int) : PC env 17 [⟨EventT, (11, keys, p, t, n, l)⟩] .bool (validE (11, keys, p, t, n, l)) := by
  refine PC.of_PW (m := 2000) env_ok fn_17 rfl rfl rfl rfl (by kernel_rfl) ?_; intro hx; simp only [Tryd.f17]; simp only [go_sem, Nat.reduceBEq, ↓reduceIte, ↓reduceDIte, Nat.reduceAdd, Nat.reduceSub, Nat.reduceMul, Nat.reduceLeDiff, ← Bool.decide_and, ← Bool.decide_or, ← decide_not, Int.reduceLT, Int.reduceLE, Int.reduceToNat, Int.reduceNeg, Int.reduceEq, not_true_eq_false, not_false_eq_true, false_implies]
  clear hx
  repeat' (first | (with_reducible intro _) | (with_reducible apply And.intro) | (with_reducible refine ⟨_, (c_letters _).dec, ?_⟩; try simp only [go_sem, Nat.reduceBEq, ↓reduceIte, ↓reduceDIte, Nat.reduceAdd, Nat.reduceSub, Nat.reduceMul, Nat.reduceLeDiff, ← Bool.decide_and, ← Bool.decide_or, ← decide_not, Int.reduceLT, Int.reduceLE, Int.reduceToNat, Int.reduceNeg, Int.reduceEq, not_true_eq_false, not_false_eq_true, false_implies]) | (with_reducible refine ⟨_, (c_increasing _).dec, ?_⟩; try simp only [go_sem, Nat.reduceBEq, ↓reduceIte, ↓reduceDIte, Nat.reduceAdd, Nat.reduceSub, Nat.reduceMul, Nat.reduceLeDiff, ← Bool.decide_and, ← Bool.decide_or, ← decide_not, Int.reduceLT, Int.reduceLE, Int.reduceToNat, Int.reduceNeg, Int.reduceEq, not_true_eq_false, not_false_eq_true, false_implies]) | (with_reducible refine ⟨_, (c_coord _).dec, ?_⟩; try simp only [go_sem, Nat.reduceBEq, ↓reduceIte, ↓reduceDIte, Nat.reduceAdd, Nat.reduceSub, Nat.reduceMul, Nat.reduceLeDiff, ← Bool.decide_and, ← Bool.decide_or, ← decide_not, Int.reduceLT, Int.reduceLE, Int.reduceToNat, Int.reduceNeg, Int.reduceEq, not_true_eq_false, not_false_eq_true, false_implies]) | fail)
  all_goals (try simp only [str0, len0] at *) <;> first | (simp_all [validE, partK, partP, partT, partN, -List.all_eq_true, -List.all_eq_false]; done) | (simp_all [validE, partK, partP, partT, partN, -List.all_eq_true, -List.all_eq_false]; first | omega | (intros; omega) | (intros; simp_all; done) | (intros; simp_all; omega))
theorem c_ValidR11 (keys : Str) (p : List (Int × Int)) (t : Str) (n l : Int) : PC env 18 [⟨EventT, (11, keys, p, t, n, l)⟩] .bool (validE (11, keys, p, t, n, l)) := by
  refine PC.of_PW (m := 2000) env_ok fn_18 rfl rfl rfl rfl (by kernel_rfl) ?_; intro hx; simp only [Tryd.f18]; simp only [go_sem, Nat.reduceBEq, ↓reduceIte, ↓reduceDIte, Nat.reduceAdd, Nat.reduceSub, Nat.reduceMul, Nat.reduceLeDiff, ← Bool.decide_and, ← Bool.decide_or, ← decide_not, Int.reduceLT, Int.reduceLE, Int.reduceToNat, Int.reduceNeg, Int.reduceEq, not_true_eq_false, not_false_eq_true, false_implies]
  clear hx
  repeat' (first | (with_reducible intro _) | (with_reducible apply And.intro) | (with_reducible refine ⟨_, (c_Letters _).dec, ?_⟩; try simp only [go_sem, Nat.reduceBEq, ↓reduceIte, ↓reduceDIte, Nat.reduceAdd, Nat.reduceSub, Nat.reduceMul, Nat.reduceLeDiff, ← Bool.decide_and, ← Bool.decide_or, ← decide_not, Int.reduceLT, Int.reduceLE, Int.reduceToNat, Int.reduceNeg, Int.reduceEq, not_true_eq_false, not_false_eq_true, false_implies]) | (with_reducible refine ⟨_, (c_rising _).dec, ?_⟩; try simp only [go_sem, Nat.reduceBEq, ↓reduceIte, ↓reduceDIte, Nat.reduceAdd, Nat.reduceSub, Nat.reduceMul, Nat.reduceLeDiff, ← Bool.decide_and, ← Bool.decide_or, ← decide_not, Int.reduceLT, Int.reduceLE, Int.reduceToNat, Int.reduceNeg, Int.reduceEq, not_true_eq_false, not_false_eq_true, false_implies]) | (with_reducible refine ⟨_, (c_points _ _ _).dec, ?_⟩; try simp only [go_sem, Nat.reduceBEq, ↓reduceIte, ↓reduceDIte, Nat.reduceAdd, Nat.reduceSub, Nat.reduceMul, Nat.reduceLeDiff, ← Bool.decide_and, ← Bool.decide_or, ← decide_not, Int.reduceLT, Int.reduceLE, Int.reduceToNat, Int.reduceNeg, Int.reduceEq, not_true_eq_false, not_false_eq_true, false_implies]) | (with_reducible refine ⟨_, (c_In _ _ _).dec, ?_⟩; try simp only [go_sem, Nat.reduceBEq, ↓reduceIte, ↓reduceDIte, Nat.reduceAdd, Nat.reduceSub, Nat.reduceMul, Nat.reduceLeDiff, ← Bool.decide_and, ← Bool.decide_or, ← decide_not, Int.reduceLT, Int.reduceLE, Int.reduceToNat, Int.reduceNeg, Int.reduceEq, not_true_eq_false, not_false_eq_true, false_implies]) | fail)
  all_goals (try simp only [str0, len0] at *) <;> first | (simp_all [validE, partK, partP, partT, partN, inB, -List.all_eq_true, -List.all_eq_false]; done) | (simp_all [validE, partK, partP, partT, partN, inB, -List.all_eq_true, -List.all_eq_false]; first | omega | (intros; omega) | (intros; simp_all; done) | (intros; simp_all; omega))
theorem c_Valid12 (keys : Str) (p : List (Int × Int)) (t : Str) (n l : Int) : PC env 17 [⟨EventT, (12, keys, p, t, n, l)⟩] .bool (validE (12, keys, p, t, n, l)) := by
  refine PC.of_PW (m := 2000) env_ok fn_17 rfl rfl rfl rfl (by kernel_rfl) ?_; intro hx; simp only [Tryd.f17]; simp only [go_sem, Nat.reduceBEq, ↓reduceIte, ↓reduceDIte, Nat.reduceAdd, Nat.reduceSub, Nat.reduceMul, Nat.reduceLeDiff, ← Bool.decide_and, ← Bool.decide_or, ← decide_not, Int.reduceLT, Int.reduceLE, Int.reduceToNat, Int.reduceNeg, Int.reduceEq, not_true_eq_false, not_false_eq_true, false_implies]
  clear hx
  repeat' (first | (with_reducible intro _) | (with_reducible apply And.intro) | (with_reducible refine ⟨_, (c_letters _).dec, ?_⟩; try simp only [go_sem, Nat.reduceBEq, ↓reduceIte, ↓reduceDIte, Nat.reduceAdd, Nat.reduceSub, Nat.reduceMul, Nat.reduceLeDiff, ← Bool.decide_and, ← Bool.decide_or, ← decide_not, Int.reduceLT, Int.reduceLE, Int.reduceToNat, Int.reduceNeg, Int.reduceEq, not_true_eq_false, not_false_eq_true, false_implies]) | (with_reducible refine ⟨_, (c_increasing _).dec, ?_⟩; try simp only [go_sem, Nat.reduceBEq, ↓reduceIte, ↓reduceDIte, Nat.reduceAdd, Nat.reduceSub, Nat.reduceMul, Nat.reduceLeDiff, ← Bool.decide_and, ← Bool.decide_or, ← decide_not, Int.reduceLT, Int.reduceLE, Int.reduceToNat, Int.reduceNeg, Int.reduceEq, not_true_eq_false, not_false_eq_true, false_implies]) | (with_reducible refine ⟨_, (c_coord _).dec, ?_⟩; try simp only [go_sem, Nat.reduceBEq, ↓reduceIte, ↓reduceDIte, Nat.reduceAdd, Nat.reduceSub, Nat.reduceMul, Nat.reduceLeDiff, ← Bool.decide_and, ← Bool.decide_or, ← decide_not, Int.reduceLT, Int.reduceLE, Int.reduceToNat, Int.reduceNeg, Int.reduceEq, not_true_eq_false, not_false_eq_true, false_implies]) | fail)
  all_goals (try simp only [str0, len0] at *) <;> first | (simp_all [validE, partK, partP, partT, partN, -List.all_eq_true, -List.all_eq_false]; done) | (simp_all [validE, partK, partP, partT, partN, -List.all_eq_true, -List.all_eq_false]; first | omega | (intros; omega) | (intros; simp_all; done) | (intros; simp_all; omega))
theorem c_ValidR12 (keys : Str) (p : List (Int × Int)) (t : Str) (n l : Int) : PC env 18 [⟨EventT, (12, keys, p, t, n, l)⟩] .bool (validE (12, keys, p, t, n, l)) := by
  refine PC.of_PW (m := 2000) env_ok fn_18 rfl rfl rfl rfl (by kernel_rfl) ?_; intro hx; simp only [Tryd.f18]; simp only [go_sem, Nat.reduceBEq, ↓reduceIte, ↓reduceDIte, Nat.reduceAdd, Nat.reduceSub, Nat.reduceMul, Nat.reduceLeDiff, ← Bool.decide_and, ← Bool.decide_or, ← decide_not, Int.reduceLT, Int.reduceLE, Int.reduceToNat, Int.reduceNeg, Int.reduceEq, not_true_eq_false, not_false_eq_true, false_implies]
  clear hx
  repeat' (first | (with_reducible intro _) | (with_reducible apply And.intro) | (with_reducible refine ⟨_, (c_Letters _).dec, ?_⟩; try simp only [go_sem, Nat.reduceBEq, ↓reduceIte, ↓reduceDIte, Nat.reduceAdd, Nat.reduceSub, Nat.reduceMul, Nat.reduceLeDiff, ← Bool.decide_and, ← Bool.decide_or, ← decide_not, Int.reduceLT, Int.reduceLE, Int.reduceToNat, Int.reduceNeg, Int.reduceEq, not_true_eq_false, not_false_eq_true, false_implies]) | (with_reducible refine ⟨_, (c_rising _).dec, ?_⟩; try simp only [go_sem, Nat.reduceBEq, ↓reduceIte, ↓reduceDIte, Nat.reduceAdd, Nat.reduceSub, Nat.reduceMul, Nat.reduceLeDiff, ← Bool.decide_and, ← Bool.decide_or, ← decide_not, Int.reduceLT, Int.reduceLE, Int.reduceToNat, Int.reduceNeg, Int.reduceEq, not_true_eq_false, not_false_eq_true, false_implies]) | (with_reducible refine ⟨_, (c_points _ _ _).dec, ?_⟩; try simp only [go_sem, Nat.reduceBEq, ↓reduceIte, ↓reduceDIte, Nat.reduceAdd, Nat.reduceSub, Nat.reduceMul, Nat.reduceLeDiff, ← Bool.decide_and, ← Bool.decide_or, ← decide_not, Int.reduceLT, Int.reduceLE, Int.reduceToNat, Int.reduceNeg, Int.reduceEq, not_true_eq_false, not_false_eq_true, false_implies]) | (with_reducible refine ⟨_, (c_In _ _ _).dec, ?_⟩; try simp only [go_sem, Nat.reduceBEq, ↓reduceIte, ↓reduceDIte, Nat.reduceAdd, Nat.reduceSub, Nat.reduceMul, Nat.reduceLeDiff, ← Bool.decide_and, ← Bool.decide_or, ← decide_not, Int.reduceLT, Int.reduceLE, Int.reduceToNat, Int.reduceNeg, Int.reduceEq, not_true_eq_false, not_false_eq_true, false_implies]) | fail)
  all_goals (try simp only [str0, len0] at *) <;> first | (simp_all [validE, partK, partP, partT, partN, inB, -List.all_eq_true, -List.all_eq_false]; done) | (simp_all [validE, partK, partP, partT, partN, inB, -List.all_eq_true, -List.all_eq_false]; first | omega | (intros; omega) | (intros; simp_all; done) | (intros; simp_all; omega))
theorem c_ValidO (k : Int) (keys : Str) (p : List (Int × Int)) (t : Str) (n l : Int) (h : ¬ (1 ≤ k ∧ k ≤ 12)) : PC env 17 [⟨EventT, (k, keys, p, t, n, l)⟩] .bool (validE (k, keys, p, t, n, l)) := by
  have hv : false = validE (k, keys, p, t, n, l) := by simp [validE]; omega
  have h1 : ¬ k = 1 := by omega
  have h2 : ¬ k = 2 := by omega
  have h3 : ¬ k = 3 := by omega
  have h4 : ¬ k = 4 := by omega
  have h5 : ¬ k = 5 := by omega
  have h6 : ¬ k = 6 := by omega
  have h7 : ¬ k = 7 := by omega
  have h8 : ¬ k = 8 := by omega
  have h9 : ¬ k = 9 := by omega
  have h10 : ¬ k = 10 := by omega
  have h11 : ¬ k = 11 := by omega
  have h12 : ¬ k = 12 := by omega
  refine PC.of_PW (m := 2000) env_ok fn_17 rfl rfl rfl rfl (by kernel_rfl) ?_; intro hx; simp only [Tryd.f17]; simp only [go_sem, Nat.reduceBEq, ↓reduceIte, ↓reduceDIte, Nat.reduceAdd, Nat.reduceSub, Nat.reduceMul, Nat.reduceLeDiff, ← Bool.decide_and, ← Bool.decide_or, ← decide_not, Int.reduceLT, Int.reduceLE, Int.reduceToNat, Int.reduceNeg, Int.reduceEq, not_true_eq_false, not_false_eq_true, false_implies, h1, h2, h3, h4, h5, h6, h7, h8, h9, h10, h11, h12]
  exact hv
theorem c_ValidRO (k : Int) (keys : Str) (p : List (Int × Int)) (t : Str) (n l : Int) (h : ¬ (1 ≤ k ∧ k ≤ 12)) : PC env 18 [⟨EventT, (k, keys, p, t, n, l)⟩] .bool (validE (k, keys, p, t, n, l)) := by
  have hv : false = validE (k, keys, p, t, n, l) := by simp [validE]; omega
  have hb : inB k 1 12 = false := by simp [inB]; omega
  have c : PC env 37 [⟨.int .i64, k⟩, ⟨.int .i64, 1⟩, ⟨.int .i64, 12⟩] .bool false := hb ▸ c_In k 1 12
  have h1 : ¬ k = 1 := by omega
  have h2 : ¬ k = 2 := by omega
  have h3 : ¬ k = 3 := by omega
  have h4 : ¬ k = 4 := by omega
  have h5 : ¬ k = 5 := by omega
  have h6 : ¬ k = 6 := by omega
  have h7 : ¬ k = 7 := by omega
  have h8 : ¬ k = 8 := by omega
  have h9 : ¬ k = 9 := by omega
  have h10 : ¬ k = 10 := by omega
  have h11 : ¬ k = 11 := by omega
  have h12 : ¬ k = 12 := by omega
  refine PC.of_PW (m := 2000) env_ok fn_18 rfl rfl rfl rfl (by kernel_rfl) ?_; intro hx; simp only [Tryd.f18]; simp only [go_sem, Nat.reduceBEq, ↓reduceIte, ↓reduceDIte, Nat.reduceAdd, Nat.reduceSub, Nat.reduceMul, Nat.reduceLeDiff, ← Bool.decide_and, ← Bool.decide_or, ← decide_not, Int.reduceLT, Int.reduceLE, Int.reduceToNat, Int.reduceNeg, Int.reduceEq, not_true_eq_false, not_false_eq_true, false_implies, h1, h2, h3, h4, h5, h6, h7, h8, h9, h10, h11, h12]
  refine ⟨fun _ => ⟨_, c, ?_⟩, fun _ => ⟨_, c, ?_⟩⟩ <;> simp only [go_sem, Nat.reduceBEq, ↓reduceIte, ↓reduceDIte, Nat.reduceAdd, Nat.reduceSub, Nat.reduceMul, Nat.reduceLeDiff, ← Bool.decide_and, ← Bool.decide_or, ← decide_not, Int.reduceLT, Int.reduceLE, Int.reduceToNat, Int.reduceNeg, Int.reduceEq, not_true_eq_false, not_false_eq_true, false_implies] <;> exact hv
theorem c_Valid (e : Ev) : PC env 17 [⟨EventT, e⟩] .bool (validE e) := by
  obtain ⟨k, keys, p, t, n, l⟩ := e
  by_cases h : 1 ≤ k ∧ k ≤ 12
  · have : k = 1 ∨ k = 2 ∨ k = 3 ∨ k = 4 ∨ k = 5 ∨ k = 6 ∨ k = 7 ∨ k = 8 ∨ k = 9 ∨ k = 10 ∨ k = 11 ∨ k = 12 := by omega
    rcases this with rfl | rfl | rfl | rfl | rfl | rfl | rfl | rfl | rfl | rfl | rfl | rfl
    · exact c_Valid1 keys p t n l
    · exact c_Valid2 keys p t n l
    · exact c_Valid3 keys p t n l
    · exact c_Valid4 keys p t n l
    · exact c_Valid5 keys p t n l
    · exact c_Valid6 keys p t n l
    · exact c_Valid7 keys p t n l
    · exact c_Valid8 keys p t n l
    · exact c_Valid9 keys p t n l
    · exact c_Valid10 keys p t n l
    · exact c_Valid11 keys p t n l
    · exact c_Valid12 keys p t n l
  · exact c_ValidO k keys p t n l h
theorem c_ValidR (e : Ev) : PC env 18 [⟨EventT, e⟩] .bool (validE e) := by
  obtain ⟨k, keys, p, t, n, l⟩ := e
  by_cases h : 1 ≤ k ∧ k ≤ 12
  · have : k = 1 ∨ k = 2 ∨ k = 3 ∨ k = 4 ∨ k = 5 ∨ k = 6 ∨ k = 7 ∨ k = 8 ∨ k = 9 ∨ k = 10 ∨ k = 11 ∨ k = 12 := by omega
    rcases this with rfl | rfl | rfl | rfl | rfl | rfl | rfl | rfl | rfl | rfl | rfl | rfl
    · exact c_ValidR1 keys p t n l
    · exact c_ValidR2 keys p t n l
    · exact c_ValidR3 keys p t n l
    · exact c_ValidR4 keys p t n l
    · exact c_ValidR5 keys p t n l
    · exact c_ValidR6 keys p t n l
    · exact c_ValidR7 keys p t n l
    · exact c_ValidR8 keys p t n l
    · exact c_ValidR9 keys p t n l
    · exact c_ValidR10 keys p t n l
    · exact c_ValidR11 keys p t n l
    · exact c_ValidR12 keys p t n l
  · exact c_ValidRO k keys p t n l h
end Go.Proofs.YtopelldocfbhkaaDoor
--SET+ by_nil, by32, Int.reduceEq, not_true_eq_false, not_false_eq_true, false_implies
namespace Go.Proofs.YtopelldocfbhkaaDoor
set_option maxHeartbeats 4000000
set_option maxRecDepth 100000
open Go.Lib

theorem by32 : bytesOf ⟨#[32]⟩ = ([32] : Str) := rfl
theorem digits_at : ∀ d : Nat, d < 10 → List.take 1 (List.drop d (bytesOf ⟨#[48, 49, 50, 51, 52, 53, 54, 55, 56, 57]⟩)) = [UInt8.ofNat (48 + d)] := by decide
theorem c_DecimalN (n : Nat) : n ≤ 1000000 → PC env 24 [⟨.int .i64, (n : Int)⟩] .str (decDigits n) := by
  induction n using Nat.strongRecOn with
  | _ n ih =>
    intro hn
    refine PC.of_PW (m := 2000) env_ok fn_24 rfl rfl rfl rfl (by kernel_rfl) ?_; intro hx; simp only [Tryd.f24]; simp only [go_sem, Nat.reduceBEq, ↓reduceIte, ↓reduceDIte, Nat.reduceAdd, Nat.reduceSub, Nat.reduceMul, Nat.reduceLeDiff, ← Bool.decide_and, ← Bool.decide_or, ← decide_not, Int.reduceLT, Int.reduceLE, Int.reduceToNat, Int.reduceNeg, by_nil, by32, Int.reduceEq, not_true_eq_false, not_false_eq_true, false_implies]
    refine ⟨fun h => ⟨i64_ok (by omega) (by omega), ⟨by omega, by omega, (by show (n : Int) + 1 ≤ 10; omega)⟩, ?_⟩, fun h => ?_⟩
    · have e : ((n : Int) + 1).toNat - n = 1 := by omega
      rw [e, digits_at n (by omega), dec_small (by omega)]
    · have hq : (n : Int) / 10 = ((n / 10 : Nat) : Int) := rfl
      have hm : (n : Int).tmod 10 = ((n % 10 : Nat) : Int) := rfl
      have e : (((n % 10 : Nat) : Int) + 1).toNat - ((n % 10 : Nat) : Int).toNat = 1 := by omega
      have hlen := dec_len 6 (n / 10) (by omega)
      refine ⟨by omega, _, hq ▸ ih (n / 10) (by omega) (by omega), fun _ => ?_⟩
      rw [hm, e, Int.toNat_natCast, digits_at _ (Nat.mod_lt _ (by decide))]
      refine ⟨i64_ok (by omega) (by omega), ⟨by omega, by omega, (by show ((n % 10 : Nat) : Int) + 1 ≤ 10; omega)⟩, (by simp only [List.length_cons, List.length_nil]; omega), ?_⟩
      exact (dec_big (by omega)).symm
theorem c_Decimal {n : Int} (h : 0 ≤ n) (h2 : n ≤ 1000000) : PC env 24 [⟨.int .i64, n⟩] .str (itoa n) := by
  obtain ⟨m, rfl⟩ : ∃ m : Nat, n = m := ⟨n.toNat, by omega⟩
  rw [itoa_dec h]
  exact c_DecimalN m (by omega)
def wordsL : List Str := [[], [107, 101, 121], [99, 104, 111, 114, 100], [116, 111, 117, 99, 104], [115, 116, 114, 111, 107, 101], [112, 97, 115, 116, 101], [101, 114, 97, 115, 101], [108, 101, 102, 116], [114, 105, 103, 104, 116], [104, 111, 108, 100], [99, 104, 111, 111, 115, 101], [99, 111, 109, 109, 105, 116], [99, 97, 110, 99, 101, 108]]
theorem c_words : PC env 25 [] (.sl .str) wordsL := by
  refine PC.of_PW (m := 2000) env_ok fn_25 rfl rfl rfl rfl (by kernel_rfl) ?_; intro hx; simp only [Tryd.f25]; simp only [go_sem, Nat.reduceBEq, ↓reduceIte, ↓reduceDIte, Nat.reduceAdd, Nat.reduceSub, Nat.reduceMul, Nat.reduceLeDiff, ← Bool.decide_and, ← Bool.decide_or, ← decide_not, Int.reduceLT, Int.reduceLE, Int.reduceToNat, Int.reduceNeg, by_nil, by32, Int.reduceEq, not_true_eq_false, not_false_eq_true, false_implies]
  rfl
theorem words_at {k : Int} (h : 1 ≤ k ∧ k ≤ 12) : wordsL[k.toNat]? = some (nameK k) := by
  rcases kinds h with rfl | rfl | rfl | rfl | rfl | rfl | rfl | rfl | rfl | rfl | rfl | rfl <;> rfl
def optL (s : Str) : List Str := if s = [] then [] else [s]
def wrR (e : Ev) : List Str := optL e.2.1 ++ ptsS e.2.2.1 ++ optL e.2.2.2.1 ++ (if e.1 = 9 ∨ e.1 = 10 then [itoa e.2.2.2.2.1] else []) ++ (if e.1 = 9 then [itoa e.2.2.2.2.2] else [])
def tl (l : List Str) : Str := l.flatMap fun x => 32 :: x
theorem join_tl (x : Str) : ∀ (l : List Str), joinC 32 (x :: l) = x ++ tl l
  | [] => by simp [joinC, tl]
  | y :: r => by
    have ih := join_tl y r
    show x ++ 32 :: joinC 32 (y :: r) = _
    rw [ih]; rfl
theorem tl_app (a b : List Str) : tl (a ++ b) = tl a ++ tl b := List.flatMap_append ..
theorem tl_len : ∀ {l : List Str}, (∀ x, x ∈ l → x.length ≤ 20) → (tl l).length ≤ 21 * l.length
  | [], _ => Nat.le_refl _
  | x :: r, h => by
    have h1 := h x (by simp)
    have h2 := tl_len (l := r) fun y hy => h y (by simp [hy])
    show (32 :: (x ++ tl r)).length ≤ _
    simp only [List.length_cons, List.length_append]; omega
theorem wrR_eq {e : Ev} (h : validE e = true) : wrR e = wr e := by
  have hv := h
  obtain ⟨hk, hc⟩ := valid_cases h
  obtain ⟨k, keys, p, t, n, l⟩ := e
  have h12 : (k = 1 ∨ k = 2) → keys ≠ [] := fun hq e => by
    subst e
    rcases hq with hq | hq <;> subst hq <;> simp [validE, partK] at h
  have h5 : k = 5 → t ≠ [] := fun hq e => by
    subst e; subst hq
    simp [validE, partT] at h
  rcases hc with ⟨hk, h1, h2, h3⟩ | ⟨hk, h1, h2, h3, h4⟩ | ⟨hk, h1, h2, h3, h4, h6⟩ | ⟨hk, h1, h2, h3, h4, h6⟩ | ⟨hk, h1, h2, h3, h4, h6⟩ | ⟨hk, h1⟩ <;> dsimp only at *
  · injection h3 with a b; injection b with b c; injection c with c d; subst a; subst b; subst c; subst d
    have := h12 hk
    rw [wr, if_pos hk]
    rcases hk with rfl | rfl <;> simp [wrR, optL, this, ptsS]
  · injection h4 with a b; injection b with b c; subst a; subst b; subst c; subst h1
    rcases hk with rfl | rfl <;> simp [wrR, wr, optL]
  · injection h6 with a b; subst a; subst b; subst h1; subst h2; subst hk
    have := h5 rfl
    simp [wrR, wr, optL, this, ptsS]
  · subst hk; subst h1; subst h2; subst h3; simp [wrR, wr, optL, ptsS]
  · subst hk; subst h1; subst h2; subst h3; simp [wrR, wr, optL, ptsS]
  · injection h1 with a b; injection b with b c; injection c with c d; injection d with d f; subst a; subst b; subst c; subst d; subst f
    rcases hk with rfl | rfl | rfl | rfl | rfl <;> simp [wrR, wr, optL, ptsS]
theorem line_tl {e : Ev} (h : validE e = true) : lineS e = nameK e.1 ++ tl (wrR e) := by
  rw [wrR_eq h]
  exact join_tl _ _
/-- What of an event's numbers the reference's Print leans on. -/
theorem valid_nums {e : Ev} (h : validE e = true) : (1 ≤ e.1 ∧ e.1 ≤ 12) ∧ e.2.1.length ≤ 20 ∧ e.2.2.1.all cooP = true ∧ e.2.2.1.length ≤ 12 ∧ e.2.2.2.1.length ≤ 20 ∧ (0 ≤ e.2.2.2.2.1 ∧ e.2.2.2.2.1 ≤ 1000) ∧ 0 ≤ e.2.2.2.2.2 ∧ e.2.2.2.2.2 ≤ 1000 := by
  obtain ⟨hk, hc⟩ := valid_cases h
  obtain ⟨k, keys, p, t, n, l⟩ := e
  refine ⟨hk, ?_⟩
  rcases hc with ⟨hk, h1, h2, h3⟩ | ⟨hk, h1, h2, h3, h4⟩ | ⟨hk, h1, h2, h3, h4, h6⟩ | ⟨hk, h1, h2, h3, h4, h6⟩ | ⟨hk, h1, h2, h3, h4, h6⟩ | ⟨hk, h1⟩ <;> dsimp only at * <;> simp_all [-List.all_eq_true] <;> omega
theorem itoa_len20 {n : Int} (h : 0 ≤ n) (h2 : n ≤ 1000) : (itoa n).length ≤ 20 := by
  rw [itoa_dec h]
  have := dec_len 3 n.toNat (by omega)
  omega
theorem wrR_len {e : Ev} (h : validE e = true) : ∀ x, x ∈ wrR e → x.length ≤ 20 := fun x hx => by
  rw [wrR_eq h] at hx
  exact (wr_no h hx).2
theorem pts_len20 {p : List (Int × Int)} (h : p.all cooP = true) (i : Nat) : ∀ x, x ∈ ptsS (p.take i) → x.length ≤ 20 := fun x hx => by
  unfold ptsS at hx
  rw [List.mem_flatMap] at hx
  obtain ⟨q, hq, hx⟩ := hx
  have := coo_nn h (List.mem_of_mem_take hq)
  simp only [List.mem_cons, List.not_mem_nil, or_false] at hx
  rcases hx with rfl | rfl
  · exact itoa_len20 this.1.1 (by omega)
  · exact itoa_len20 this.2.1 (by omega)
theorem c_PrintR (e : Ev) (h : validE e = true) : PC env 11 [⟨EventT, e⟩] .str (lineS e) := by
  obtain ⟨hk, h1, h2, h3, h4, h5, h6⟩ := valid_nums h
  rw [line_tl h]
  clear h
  obtain ⟨k, keys, p, t, n, l⟩ := e
  dsimp only at hk h1 h2 h3 h4 h5 h6 ⊢
  have hnm := nameK_len k
  refine PC.of_PW (m := 2000) env_ok fn_11 rfl rfl rfl rfl (by kernel_rfl) ?_; intro hx; simp only [Tryd.f11]; simp only [go_sem, Nat.reduceBEq, ↓reduceIte, ↓reduceDIte, Nat.reduceAdd, Nat.reduceSub, Nat.reduceMul, Nat.reduceLeDiff, ← Bool.decide_and, ← Bool.decide_or, ← decide_not, Int.reduceLT, Int.reduceLE, Int.reduceToNat, Int.reduceNeg, by_nil, by32, Int.reduceEq, not_true_eq_false, not_false_eq_true, false_implies]
  refine ⟨_, c_words, fun _ => ⟨by omega, nameK k, words_at hk, ?_⟩⟩
  apply Walks.shareX (X := Unit) (fun _ => ⟨[(4, .iv (.int .i64) (0 : Int)), (3, .iv .str (nameK k ++ tl (optL keys))), (1, .ref 1 0)], [(1, .box [.iv (.int .i64) k, .iv .str keys, .iv (.sl PointT) p, .iv .str t, .iv (.int .i64) n, .iv (.int .i64) l])]⟩) (fun _ => True)
  · intro key
    refine ⟨fun h7 => ⟨by omega, by omega, key _ () trivial ?_⟩, fun h7 => key _ () trivial ?_⟩
    · have e : nameK k ++ 32 :: keys = nameK k ++ tl (optL keys) := by simp [tl, optL, h7]
      rw [e]
      exact (by refine ⟨?_, ?_, rfl, rfl⟩ <;> repeat' (first | exact trivial | (refine And.intro (Or.inl rfl) ?_) | (refine And.intro (Or.inr (Or.inl rfl)) ?_) | (refine And.intro (Or.inr (Or.inr (Or.inr ⟨rfl, rfl⟩))) ?_) | (refine And.intro (Or.inr (Or.inr (Or.inl ⟨rfl, rfl, trivial⟩))) ?_) | exact ⟨(by show (_ : Nat) < 1000000000; omega), rfl, rfl⟩ | rfl | (refine And.intro (Or.inl ?_) ?_) | (refine And.intro ?_ ?_)))
    · have h7 : keys = [] := h7
      have e : nameK k ++ tl (optL keys) = nameK k := by simp [tl, optL, h7]
      rw [e]
      exact (by refine ⟨?_, ?_, rfl, rfl⟩ <;> repeat' (first | exact trivial | (refine And.intro (Or.inl rfl) ?_) | (refine And.intro (Or.inr (Or.inl rfl)) ?_) | (refine And.intro (Or.inr (Or.inr (Or.inr ⟨rfl, rfl⟩))) ?_) | (refine And.intro (Or.inr (Or.inr (Or.inl ⟨rfl, rfl, trivial⟩))) ?_) | exact ⟨(by show (_ : Nat) < 1000000000; omega), rfl, rfl⟩ | rfl | (refine And.intro (Or.inl ?_) ?_) | (refine And.intro ?_ ?_)))
  · intro _ _
    have ho : (tl (optL keys)).length ≤ 21 := by unfold optL; split <;> simp [tl]; omega
    refine Walks.loopA (X := Nat × Str) (fun (z : Nat × Str) => [(4, .iv (.int .i64) (z.1 : Int)), (3, .iv .str z.2)]) (fun (z : Nat × Str) => []) (fun (z : Nat × Str) => z.1 ≤ p.length ∧ z.2 = nameK k ++ tl (optL keys) ++ tl (ptsS (p.take z.1))) (fun (z : Nat × Str) => p.length - z.1) (0, nameK k ++ tl (optL keys)) ?_; intro b1 b2 hb1 hb2; simp (config := {maxSteps := 4000000}) only [go_sem, Nat.reduceBEq, ↓reduceIte, ↓reduceDIte, Nat.reduceAdd, Nat.reduceSub, Nat.reduceMul, Nat.reduceLeDiff, ← Bool.decide_and, ← Bool.decide_or, ← decide_not, Int.reduceLT, Int.reduceLE, Int.reduceToNat, Int.reduceNeg, by_nil, by32, Int.reduceEq, not_true_eq_false, not_false_eq_true, false_implies] at hb1 hb2; subst hb1; subst hb2; refine ⟨(by refine ⟨?_, ?_, rfl, rfl⟩ <;> repeat' (first | exact trivial | (refine And.intro (Or.inl rfl) ?_) | (refine And.intro (Or.inr (Or.inl rfl)) ?_) | (refine And.intro (Or.inr (Or.inr (Or.inr ⟨rfl, rfl⟩))) ?_) | (refine And.intro (Or.inr (Or.inr (Or.inl ⟨rfl, rfl, trivial⟩))) ?_) | exact ⟨(by show (_ : Nat) < 1000000000; omega), rfl, rfl⟩ | rfl | (refine And.intro (Or.inl ?_) ?_) | (refine And.intro ?_ ?_))), ?_, ?_⟩
    · exact ⟨Nat.zero_le _, by simp [ptsS, tl]⟩
    intro ⟨i, o⟩ ⟨hi, hb⟩ back
    dsimp only at hi hb
    have hl1 := tl_len (pts_len20 h2 i)
    rw [ptsS_len, List.length_take] at hl1
    have hlo : o.length ≤ 600 := by rw [hb]; simp only [List.length_append]; omega
    refine PW_sound env_ok ⟨_, fn_11, rfl⟩ 2000 _ _ (by kernel_rfl) ?_; simp only [go_sem, Nat.reduceBEq, ↓reduceIte, ↓reduceDIte, Nat.reduceAdd, Nat.reduceSub, Nat.reduceMul, Nat.reduceLeDiff, ← Bool.decide_and, ← Bool.decide_or, ← decide_not, Int.reduceLT, Int.reduceLE, Int.reduceToNat, Int.reduceNeg, by_nil, by32, Int.reduceEq, not_true_eq_false, not_false_eq_true, false_implies]
    refine ⟨fun h7 => ?_, fun h7 => ?_⟩
    · obtain ⟨q, hq⟩ := get_of_lt (xs := p) (i := i) (by omega)
      have hc := coo_nn h2 (List.mem_of_getElem? hq)
      have l1 := itoa_len20 hc.1.1 hc.1.2
      have l2 := itoa_len20 hc.2.1 hc.2.2
      refine ⟨Int.natCast_nonneg _, q, hq, _, c_Decimal hc.1.1 (by omega), fun _ => ⟨by omega, by omega, Int.natCast_nonneg _, q, hq, _, c_Decimal hc.2.1 (by omega), fun _ => ⟨by simp only [List.length_append, List.length_cons, List.length_nil]; omega, ?_⟩⟩⟩
      refine ⟨by simp only [List.length_append, List.length_cons, List.length_nil]; omega, i64_ok (by omega) (by omega), back _ (i + 1, o ++ 32 :: (itoa q.1 ++ [32] ++ itoa q.2)) ?_ ⟨by dsimp only; omega, ?_⟩ (by dsimp only; omega)⟩
      · exact (by refine ⟨?_, ?_, rfl, rfl⟩ <;> repeat' (first | exact trivial | (refine And.intro (Or.inl rfl) ?_) | (refine And.intro (Or.inr (Or.inl rfl)) ?_) | (refine And.intro (Or.inr (Or.inr (Or.inr ⟨rfl, rfl⟩))) ?_) | (refine And.intro (Or.inr (Or.inr (Or.inl ⟨rfl, rfl, trivial⟩))) ?_) | exact ⟨(by show (_ : Nat) < 1000000000; omega), rfl, rfl⟩ | rfl | (refine And.intro (Or.inl ?_) ?_) | (refine And.intro ?_ ?_)))
      · dsimp only
        rw [ptsS_step hq, tl_app, hb]
        simp [tl]
    · rw [List.take_of_length_le (by omega)] at hb
      have l1 := itoa_len20 h5.1 h5.2
      have l2 := itoa_len20 h6.1 h6.2
      clear back hx
      repeat' (first | (with_reducible intro _) | (with_reducible apply And.intro) | (with_reducible refine ⟨_, c_Decimal h5.1 (by omega), ?_⟩; try simp only [go_sem, Nat.reduceBEq, ↓reduceIte, ↓reduceDIte, Nat.reduceAdd, Nat.reduceSub, Nat.reduceMul, Nat.reduceLeDiff, ← Bool.decide_and, ← Bool.decide_or, ← decide_not, Int.reduceLT, Int.reduceLE, Int.reduceToNat, Int.reduceNeg, by_nil, by32, Int.reduceEq, not_true_eq_false, not_false_eq_true, false_implies]) | (with_reducible refine ⟨_, c_Decimal h6.1 (by omega), ?_⟩; try simp only [go_sem, Nat.reduceBEq, ↓reduceIte, ↓reduceDIte, Nat.reduceAdd, Nat.reduceSub, Nat.reduceMul, Nat.reduceLeDiff, ← Bool.decide_and, ← Bool.decide_or, ← decide_not, Int.reduceLT, Int.reduceLE, Int.reduceToNat, Int.reduceNeg, by_nil, by32, Int.reduceEq, not_true_eq_false, not_false_eq_true, false_implies]) | fail)
      all_goals first | omega | (simp only [List.length_append, List.length_cons, List.length_nil]; omega) | (simp_all [wrR, optL, tl, tl_app]; done) | (simp_all [wrR, optL, tl, tl_app]; omega)
/-- A text's parts, from a place on. -/
theorem c_SplitR (s : Str) (c : UInt8) (hs : s.length ≤ 1000000000) : PC env 23 [⟨.str, s⟩, ⟨.int .u8, (c.toNat : Int)⟩] (.sl .str) (spl c s) := by
  refine PC.of_PW (m := 2000) env_ok fn_23 rfl rfl rfl rfl (by kernel_rfl) ?_; intro hx; simp only [Tryd.f23]; simp only [go_sem, Nat.reduceBEq, ↓reduceIte, ↓reduceDIte, Nat.reduceAdd, Nat.reduceSub, Nat.reduceMul, Nat.reduceLeDiff, ← Bool.decide_and, ← Bool.decide_or, ← decide_not, Int.reduceLT, Int.reduceLE, Int.reduceToNat, Int.reduceNeg, by_nil, by32, Int.reduceEq, not_true_eq_false, not_false_eq_true, false_implies]
  have hlen : s.length ≤ 9223372036854775807 := hx.1
  refine Walks.loopA (X := Nat × Nat × List Str) (fun (z : Nat × Nat × List Str) => [(7, .iv (.int .i64) (z.1 : Int)), (6, .iv (.int .i64) (z.2.1 : Int)), (5, .lfull 8), (8, .any)]) (fun (z : Nat × Nat × List Str) => [(8, .arr .str z.2.2)]) (fun (z : Nat × Nat × List Str) => z.2.1 ≤ z.1 ∧ z.1 ≤ s.length ∧ z.2.2.length ≤ z.1 ∧ c ∉ (s.drop z.2.1).take (z.1 - z.2.1) ∧ z.2.2 ++ spl c (s.drop z.2.1) = spl c s) (fun (z : Nat × Nat × List Str) => s.length - z.1) (0, 0, []) ?_; intro b1 b2 hb1 hb2; simp (config := {maxSteps := 4000000}) only [go_sem, Nat.reduceBEq, ↓reduceIte, ↓reduceDIte, Nat.reduceAdd, Nat.reduceSub, Nat.reduceMul, Nat.reduceLeDiff, ← Bool.decide_and, ← Bool.decide_or, ← decide_not, Int.reduceLT, Int.reduceLE, Int.reduceToNat, Int.reduceNeg, by_nil, by32, Int.reduceEq, not_true_eq_false, not_false_eq_true, false_implies] at hb1 hb2; subst hb1; subst hb2; refine ⟨(by refine ⟨?_, ?_, rfl, rfl⟩ <;> repeat' (first | exact trivial | (refine And.intro (Or.inl rfl) ?_) | (refine And.intro (Or.inr (Or.inl rfl)) ?_) | (refine And.intro (Or.inr (Or.inr (Or.inr ⟨rfl, rfl⟩))) ?_) | (refine And.intro (Or.inr (Or.inr (Or.inl ⟨rfl, rfl, trivial⟩))) ?_) | exact ⟨(by show (_ : Nat) < 1000000000; omega), rfl, rfl⟩ | rfl | (refine And.intro (Or.inl ?_) ?_) | (refine And.intro ?_ ?_))), ?_, ?_⟩
  · exact ⟨Nat.le_refl _, Nat.zero_le _, Nat.le_refl _, by simp, rfl⟩
  intro ⟨i, last, o⟩ ⟨h1, h2, h3, h4, h5⟩ back
  dsimp only at h1 h2 h3 h4 h5
  refine PW_sound env_ok ⟨_, fn_23, rfl⟩ 2000 _ _ (by kernel_rfl) ?_; simp only [go_sem, Nat.reduceBEq, ↓reduceIte, ↓reduceDIte, Nat.reduceAdd, Nat.reduceSub, Nat.reduceMul, Nat.reduceLeDiff, ← Bool.decide_and, ← Bool.decide_or, ← decide_not, Int.reduceLT, Int.reduceLE, Int.reduceToNat, Int.reduceNeg, by_nil, by32, Int.reduceEq, not_true_eq_false, not_false_eq_true, false_implies]
  refine ⟨fun h => ?_, fun h => ⟨⟨by omega, by omega⟩, by omega, ?_⟩⟩
  · obtain ⟨x, hx'⟩ := get_of_lt (xs := s) (i := i) (by omega)
    have hsp : s.drop last = (s.drop last).take (i - last) ++ x :: s.drop (i + 1) := by
      rw [← drop_cons hx']
      have e : s.drop i = (s.drop last).drop (i - last) := by rw [List.drop_drop]; congr 1; omega
      rw [e, List.take_append_drop]
    refine ⟨Int.natCast_nonneg _, _, ⟨x, hx', rfl⟩, fun h6 => ⟨⟨Int.natCast_nonneg _, by omega, by omega⟩, by omega, i64_ok (by omega) (by omega), i64_ok (by omega) (by omega), ?_⟩, fun h6 => ⟨i64_ok (by omega) (by omega), ?_⟩⟩
    · have hxc : x = c := UInt8.toNat_inj.1 (by omega)
      subst hxc
      refine back _ (i + 1, i + 1, o ++ [(s.drop last).take (i - last)]) ?_ ⟨Nat.le_refl _, by dsimp only; omega, by dsimp only; simp only [List.length_append, List.length_cons, List.length_nil]; omega, by simp, ?_⟩ (by dsimp only; omega)
      · exact (by refine ⟨?_, ?_, rfl, rfl⟩ <;> repeat' (first | exact trivial | (refine And.intro (Or.inl rfl) ?_) | (refine And.intro (Or.inr (Or.inl rfl)) ?_) | (refine And.intro (Or.inr (Or.inr (Or.inr ⟨rfl, rfl⟩))) ?_) | (refine And.intro (Or.inr (Or.inr (Or.inl ⟨rfl, rfl, trivial⟩))) ?_) | exact ⟨(by show (_ : Nat) < 1000000000; omega), rfl, rfl⟩ | rfl | (refine And.intro (Or.inl ?_) ?_) | (refine And.intro ?_ ?_)))
      · dsimp only
        rw [← h5]
        conv => rhs; rw [hsp]
        rw [spl_cons _ _ h4, List.append_assoc]; rfl
    · have hxc : ¬ x = c := fun e => h6 (by rw [e])
      refine back _ (i + 1, last, o) (by refine ⟨?_, ?_, rfl, rfl⟩ <;> repeat' (first | exact trivial | (refine And.intro (Or.inl rfl) ?_) | (refine And.intro (Or.inr (Or.inl rfl)) ?_) | (refine And.intro (Or.inr (Or.inr (Or.inr ⟨rfl, rfl⟩))) ?_) | (refine And.intro (Or.inr (Or.inr (Or.inl ⟨rfl, rfl, trivial⟩))) ?_) | exact ⟨(by show (_ : Nat) < 1000000000; omega), rfl, rfl⟩ | rfl | (refine And.intro (Or.inl ?_) ?_) | (refine And.intro ?_ ?_))) ⟨by dsimp only; omega, by dsimp only; omega, by dsimp only; omega, ?_, h5⟩ (by dsimp only; omega)
      dsimp only
      have e : i + 1 - last = (i - last) + 1 := by omega
      have hx2 : (s.drop last)[i - last]? = some x := by rw [List.getElem?_drop]; rw [show last + (i - last) = i by omega]; exact hx'
      rw [e, take_snoc hx2, List.mem_append, not_or]
      exact ⟨h4, by simp [Ne.symm hxc]⟩
  · rw [← h5]
    rw [List.take_of_length_le (by rw [List.length_drop]; omega)] at h4
    rw [spl_no c h4]
/-- The points that the reference reads: numbers as they come. -/
def pairsR : List Str → List (Int × Int)
  | a :: b :: l => (numRV a, numRV b) :: pairsR l
  | _ => []
def fillE (k : Int) (f : List Str) : Ev := if k = 1 ∨ k = 2 then (match f with | [s] => (k, s, [], [], 0, 0) | _ => (k, [], [], [], 0, 0)) else if k = 3 ∨ k = 4 then (k, [], pairsR f, [], 0, 0) else if k = 5 then (match f with | [s] => (k, [], [], s, 0, 0) | _ => (k, [], [], [], 0, 0))
  else if k = 9 then (match f with | [s, t] => (k, [], [], [], numRV s, numRV t) | _ => (k, [], [], [], 0, 0)) else if k = 10 then (match f with | [s] => (k, [], [], [], numRV s, 0) | _ => (k, [], [], [], 0, 0)) else (k, [], [], [], 0, 0)
theorem pairsR_step {f : List Str} {j : Nat} {a b : Str} (ha : f[2 * j]? = some a) (hb : f[2 * j + 1]? = some b) : pairsR (f.drop (2 * j)) = (numRV a, numRV b) :: pairsR (f.drop (2 * (j + 1))) := by
  rw [drop_cons ha, drop_cons hb]; rfl
theorem pairsR_end {f : List Str} {j : Nat} (h : f.length ≤ 2 * j + 1) : pairsR (f.drop (2 * j)) = [] := by
  have hl : (f.drop (2 * j)).length ≤ 1 := by rw [List.length_drop]; omega
  match f.drop (2 * j), hl with
  | [], _ => rfl
  | [_], _ => rfl
  | _ :: _ :: _, h => simp at h
theorem c_fill (k : Int) (f : List Str) (hk : 1 ≤ k ∧ k ≤ 12) (hf : f.length ≤ 1000000) : PC env 30 [⟨.int .i64, k⟩, ⟨.sl .str, f⟩] EventT (fillE k f) := by
  have f1 : k = 1 → PC env 30 [⟨.int .i64, k⟩, ⟨.sl .str, f⟩] EventT (fillE k f) := fun e => by
    subst e
    refine PC.of_PW (m := 2000) env_ok fn_30 rfl rfl rfl rfl (by kernel_rfl) ?_; intro hx; simp only [Tryd.f30]; simp only [go_sem, Nat.reduceBEq, ↓reduceIte, ↓reduceDIte, Nat.reduceAdd, Nat.reduceSub, Nat.reduceMul, Nat.reduceLeDiff, ← Bool.decide_and, ← Bool.decide_or, ← decide_not, Int.reduceLT, Int.reduceLE, Int.reduceToNat, Int.reduceNeg, by_nil, by32, Int.reduceEq, not_true_eq_false, not_false_eq_true, false_implies]
    match f with
    | [] => exact ⟨fun h => by simp at h, fun _ => rfl⟩
    | [s] => exact ⟨fun h => ⟨s, rfl, rfl⟩, fun h => by simp at h⟩
    | _ :: _ :: _ => exact ⟨fun h => by simp at h; omega, fun _ => rfl⟩
  have f2 : k = 2 → PC env 30 [⟨.int .i64, k⟩, ⟨.sl .str, f⟩] EventT (fillE k f) := fun e => by
    subst e
    refine PC.of_PW (m := 2000) env_ok fn_30 rfl rfl rfl rfl (by kernel_rfl) ?_; intro hx; simp only [Tryd.f30]; simp only [go_sem, Nat.reduceBEq, ↓reduceIte, ↓reduceDIte, Nat.reduceAdd, Nat.reduceSub, Nat.reduceMul, Nat.reduceLeDiff, ← Bool.decide_and, ← Bool.decide_or, ← decide_not, Int.reduceLT, Int.reduceLE, Int.reduceToNat, Int.reduceNeg, by_nil, by32, Int.reduceEq, not_true_eq_false, not_false_eq_true, false_implies]
    match f with
    | [] => exact ⟨fun h => by simp at h, fun _ => rfl⟩
    | [s] => exact ⟨fun h => ⟨s, rfl, rfl⟩, fun h => by simp at h⟩
    | _ :: _ :: _ => exact ⟨fun h => by simp at h; omega, fun _ => rfl⟩
  have f3 : k = 3 → PC env 30 [⟨.int .i64, k⟩, ⟨.sl .str, f⟩] EventT (fillE k f) := fun e => by
    subst e
    refine PC.of_PW (m := 2000) env_ok fn_30 rfl rfl rfl rfl (by kernel_rfl) ?_; intro hx; simp only [Tryd.f30]; simp only [go_sem, Nat.reduceBEq, ↓reduceIte, ↓reduceDIte, Nat.reduceAdd, Nat.reduceSub, Nat.reduceMul, Nat.reduceLeDiff, ← Bool.decide_and, ← Bool.decide_or, ← decide_not, Int.reduceLT, Int.reduceLE, Int.reduceToNat, Int.reduceNeg, by_nil, by32, Int.reduceEq, not_true_eq_false, not_false_eq_true, false_implies]
    refine Walks.loopA (X := Nat × Int × List (Int × Int)) (fun (z : Nat × Int × List (Int × Int)) => [(6, .iv (.int .i64) z.2.1)]) (fun (z : Nat × Int × List (Int × Int)) => [(5, .box [.iv (.int .i64) 3, .iv .str [], .lfull 1000, .iv .str [], .iv (.int .i64) 0, .iv (.int .i64) 0]), (1000, .arr PointT z.2.2)]) (fun (z : Nat × Int × List (Int × Int)) => 2 * z.1 ≤ f.length + 1 ∧ z.2.2 ++ pairsR (f.drop (2 * z.1)) = pairsR f ∧ z.2.2.length ≤ z.1 ∧ z.2.1 = 2 * (z.1 : Int)) (fun (z : Nat × Int × List (Int × Int)) => f.length - 2 * z.1) (0, 0, []) ?_; intro b1 b2 hb1 hb2; simp (config := {maxSteps := 4000000}) only [go_sem, Nat.reduceBEq, ↓reduceIte, ↓reduceDIte, Nat.reduceAdd, Nat.reduceSub, Nat.reduceMul, Nat.reduceLeDiff, ← Bool.decide_and, ← Bool.decide_or, ← decide_not, Int.reduceLT, Int.reduceLE, Int.reduceToNat, Int.reduceNeg, by_nil, by32, Int.reduceEq, not_true_eq_false, not_false_eq_true, false_implies] at hb1 hb2; subst hb1; subst hb2; refine ⟨(by refine ⟨?_, ?_, rfl, rfl⟩ <;> repeat' (first | exact trivial | (refine And.intro (Or.inl rfl) ?_) | (refine And.intro (Or.inr (Or.inl rfl)) ?_) | (refine And.intro (Or.inr (Or.inr (Or.inr ⟨rfl, rfl⟩))) ?_) | (refine And.intro (Or.inr (Or.inr (Or.inl ⟨rfl, rfl, trivial⟩))) ?_) | exact ⟨(by show (_ : Nat) < 1000000000; omega), rfl, rfl⟩ | rfl | (refine And.intro (Or.inl ?_) ?_) | (refine And.intro ?_ ?_))), ?_, ?_⟩
    · exact ⟨Nat.zero_le _, rfl, Nat.le_refl _, rfl⟩
    intro ⟨j, i, l⟩ ⟨h1, h2, h3, h4⟩ back
    dsimp only at h1 h2 h3 h4
    refine PW_sound env_ok ⟨_, fn_30, rfl⟩ 2000 _ _ (by kernel_rfl) ?_; simp only [go_sem, Nat.reduceBEq, ↓reduceIte, ↓reduceDIte, Nat.reduceAdd, Nat.reduceSub, Nat.reduceMul, Nat.reduceLeDiff, ← Bool.decide_and, ← Bool.decide_or, ← decide_not, Int.reduceLT, Int.reduceLE, Int.reduceToNat, Int.reduceNeg, by_nil, by32, Int.reduceEq, not_true_eq_false, not_false_eq_true, false_implies]
    refine ⟨i64_ok (by omega) (by omega), fun h => ?_, fun h => ?_⟩
    · obtain ⟨a, ha⟩ := get_of_lt (xs := f) (i := 2 * j) (by omega)
      obtain ⟨b, hb⟩ := get_of_lt (xs := f) (i := 2 * j + 1) (by omega)
      have e1 : i.toNat = 2 * j := by omega
      have e2 : (i + 1).toNat = 2 * j + 1 := by omega
      refine ⟨by omega, a, by rw [e1]; exact ha, _, c_numberR a, fun _ => ⟨i64_ok (by omega) (by omega), by omega, b, by rw [e2]; exact hb, _, c_numberR b, fun _ => ⟨by omega, i64_ok (by omega) (by omega), back _ (j + 1, i + 2, l ++ [(numRV a, numRV b)]) ?_ ⟨by dsimp only; omega, ?_, by dsimp only; simp only [List.length_append, List.length_cons, List.length_nil]; omega, by dsimp only; omega⟩ (by dsimp only; omega)⟩⟩⟩
      · exact (by refine ⟨?_, ?_, rfl, rfl⟩ <;> repeat' (first | exact trivial | (refine And.intro (Or.inl rfl) ?_) | (refine And.intro (Or.inr (Or.inl rfl)) ?_) | (refine And.intro (Or.inr (Or.inr (Or.inr ⟨rfl, rfl⟩))) ?_) | (refine And.intro (Or.inr (Or.inr (Or.inl ⟨rfl, rfl, trivial⟩))) ?_) | exact ⟨(by show (_ : Nat) < 1000000000; omega), rfl, rfl⟩ | rfl | (refine And.intro (Or.inl ?_) ?_) | (refine And.intro ?_ ?_)))
      · dsimp only
        rw [← h2, pairsR_step ha hb, List.append_assoc]; rfl
    · rw [pairsR_end (by omega), List.append_nil] at h2
      rw [h2]; rfl
  have f4 : k = 4 → PC env 30 [⟨.int .i64, k⟩, ⟨.sl .str, f⟩] EventT (fillE k f) := fun e => by
    subst e
    refine PC.of_PW (m := 2000) env_ok fn_30 rfl rfl rfl rfl (by kernel_rfl) ?_; intro hx; simp only [Tryd.f30]; simp only [go_sem, Nat.reduceBEq, ↓reduceIte, ↓reduceDIte, Nat.reduceAdd, Nat.reduceSub, Nat.reduceMul, Nat.reduceLeDiff, ← Bool.decide_and, ← Bool.decide_or, ← decide_not, Int.reduceLT, Int.reduceLE, Int.reduceToNat, Int.reduceNeg, by_nil, by32, Int.reduceEq, not_true_eq_false, not_false_eq_true, false_implies]
    refine Walks.loopA (X := Nat × Int × List (Int × Int)) (fun (z : Nat × Int × List (Int × Int)) => [(6, .iv (.int .i64) z.2.1)]) (fun (z : Nat × Int × List (Int × Int)) => [(5, .box [.iv (.int .i64) 4, .iv .str [], .lfull 1000, .iv .str [], .iv (.int .i64) 0, .iv (.int .i64) 0]), (1000, .arr PointT z.2.2)]) (fun (z : Nat × Int × List (Int × Int)) => 2 * z.1 ≤ f.length + 1 ∧ z.2.2 ++ pairsR (f.drop (2 * z.1)) = pairsR f ∧ z.2.2.length ≤ z.1 ∧ z.2.1 = 2 * (z.1 : Int)) (fun (z : Nat × Int × List (Int × Int)) => f.length - 2 * z.1) (0, 0, []) ?_; intro b1 b2 hb1 hb2; simp (config := {maxSteps := 4000000}) only [go_sem, Nat.reduceBEq, ↓reduceIte, ↓reduceDIte, Nat.reduceAdd, Nat.reduceSub, Nat.reduceMul, Nat.reduceLeDiff, ← Bool.decide_and, ← Bool.decide_or, ← decide_not, Int.reduceLT, Int.reduceLE, Int.reduceToNat, Int.reduceNeg, by_nil, by32, Int.reduceEq, not_true_eq_false, not_false_eq_true, false_implies] at hb1 hb2; subst hb1; subst hb2; refine ⟨(by refine ⟨?_, ?_, rfl, rfl⟩ <;> repeat' (first | exact trivial | (refine And.intro (Or.inl rfl) ?_) | (refine And.intro (Or.inr (Or.inl rfl)) ?_) | (refine And.intro (Or.inr (Or.inr (Or.inr ⟨rfl, rfl⟩))) ?_) | (refine And.intro (Or.inr (Or.inr (Or.inl ⟨rfl, rfl, trivial⟩))) ?_) | exact ⟨(by show (_ : Nat) < 1000000000; omega), rfl, rfl⟩ | rfl | (refine And.intro (Or.inl ?_) ?_) | (refine And.intro ?_ ?_))), ?_, ?_⟩
    · exact ⟨Nat.zero_le _, rfl, Nat.le_refl _, rfl⟩
    intro ⟨j, i, l⟩ ⟨h1, h2, h3, h4⟩ back
    dsimp only at h1 h2 h3 h4
    refine PW_sound env_ok ⟨_, fn_30, rfl⟩ 2000 _ _ (by kernel_rfl) ?_; simp only [go_sem, Nat.reduceBEq, ↓reduceIte, ↓reduceDIte, Nat.reduceAdd, Nat.reduceSub, Nat.reduceMul, Nat.reduceLeDiff, ← Bool.decide_and, ← Bool.decide_or, ← decide_not, Int.reduceLT, Int.reduceLE, Int.reduceToNat, Int.reduceNeg, by_nil, by32, Int.reduceEq, not_true_eq_false, not_false_eq_true, false_implies]
    refine ⟨i64_ok (by omega) (by omega), fun h => ?_, fun h => ?_⟩
    · obtain ⟨a, ha⟩ := get_of_lt (xs := f) (i := 2 * j) (by omega)
      obtain ⟨b, hb⟩ := get_of_lt (xs := f) (i := 2 * j + 1) (by omega)
      have e1 : i.toNat = 2 * j := by omega
      have e2 : (i + 1).toNat = 2 * j + 1 := by omega
      refine ⟨by omega, a, by rw [e1]; exact ha, _, c_numberR a, fun _ => ⟨i64_ok (by omega) (by omega), by omega, b, by rw [e2]; exact hb, _, c_numberR b, fun _ => ⟨by omega, i64_ok (by omega) (by omega), back _ (j + 1, i + 2, l ++ [(numRV a, numRV b)]) ?_ ⟨by dsimp only; omega, ?_, by dsimp only; simp only [List.length_append, List.length_cons, List.length_nil]; omega, by dsimp only; omega⟩ (by dsimp only; omega)⟩⟩⟩
      · exact (by refine ⟨?_, ?_, rfl, rfl⟩ <;> repeat' (first | exact trivial | (refine And.intro (Or.inl rfl) ?_) | (refine And.intro (Or.inr (Or.inl rfl)) ?_) | (refine And.intro (Or.inr (Or.inr (Or.inr ⟨rfl, rfl⟩))) ?_) | (refine And.intro (Or.inr (Or.inr (Or.inl ⟨rfl, rfl, trivial⟩))) ?_) | exact ⟨(by show (_ : Nat) < 1000000000; omega), rfl, rfl⟩ | rfl | (refine And.intro (Or.inl ?_) ?_) | (refine And.intro ?_ ?_)))
      · dsimp only
        rw [← h2, pairsR_step ha hb, List.append_assoc]; rfl
    · rw [pairsR_end (by omega), List.append_nil] at h2
      rw [h2]; rfl
  have f5 : k = 5 → PC env 30 [⟨.int .i64, k⟩, ⟨.sl .str, f⟩] EventT (fillE k f) := fun e => by
    subst e
    refine PC.of_PW (m := 2000) env_ok fn_30 rfl rfl rfl rfl (by kernel_rfl) ?_; intro hx; simp only [Tryd.f30]; simp only [go_sem, Nat.reduceBEq, ↓reduceIte, ↓reduceDIte, Nat.reduceAdd, Nat.reduceSub, Nat.reduceMul, Nat.reduceLeDiff, ← Bool.decide_and, ← Bool.decide_or, ← decide_not, Int.reduceLT, Int.reduceLE, Int.reduceToNat, Int.reduceNeg, by_nil, by32, Int.reduceEq, not_true_eq_false, not_false_eq_true, false_implies]
    match f with
    | [] => exact ⟨fun h => by simp at h, fun _ => rfl⟩
    | [s] => exact ⟨fun h => ⟨s, rfl, rfl⟩, fun h => by simp at h⟩
    | _ :: _ :: _ => exact ⟨fun h => by simp at h; omega, fun _ => rfl⟩
  have f9 : k = 9 → PC env 30 [⟨.int .i64, k⟩, ⟨.sl .str, f⟩] EventT (fillE k f) := fun e => by
    subst e
    refine PC.of_PW (m := 2000) env_ok fn_30 rfl rfl rfl rfl (by kernel_rfl) ?_; intro hx; simp only [Tryd.f30]; simp only [go_sem, Nat.reduceBEq, ↓reduceIte, ↓reduceDIte, Nat.reduceAdd, Nat.reduceSub, Nat.reduceMul, Nat.reduceLeDiff, ← Bool.decide_and, ← Bool.decide_or, ← decide_not, Int.reduceLT, Int.reduceLE, Int.reduceToNat, Int.reduceNeg, by_nil, by32, Int.reduceEq, not_true_eq_false, not_false_eq_true, false_implies]
    match f with
    | [] => exact ⟨fun h => by simp at h, fun _ => rfl⟩
    | [s] => exact ⟨fun h => by simp at h, fun _ => rfl⟩
    | [s, t] => exact ⟨fun h => ⟨s, rfl, _, c_numberR s, fun _ => ⟨t, rfl, _, c_numberR t, fun _ => rfl⟩⟩, fun h => by simp at h⟩
    | _ :: _ :: _ :: _ => exact ⟨fun h => by simp at h; omega, fun _ => rfl⟩
  have f10 : k = 10 → PC env 30 [⟨.int .i64, k⟩, ⟨.sl .str, f⟩] EventT (fillE k f) := fun e => by
    subst e
    refine PC.of_PW (m := 2000) env_ok fn_30 rfl rfl rfl rfl (by kernel_rfl) ?_; intro hx; simp only [Tryd.f30]; simp only [go_sem, Nat.reduceBEq, ↓reduceIte, ↓reduceDIte, Nat.reduceAdd, Nat.reduceSub, Nat.reduceMul, Nat.reduceLeDiff, ← Bool.decide_and, ← Bool.decide_or, ← decide_not, Int.reduceLT, Int.reduceLE, Int.reduceToNat, Int.reduceNeg, by_nil, by32, Int.reduceEq, not_true_eq_false, not_false_eq_true, false_implies]
    match f with
    | [] => exact ⟨fun h => by simp at h, fun _ => rfl⟩
    | [s] => exact ⟨fun h => ⟨s, rfl, _, c_numberR s, fun _ => rfl⟩, fun h => by simp at h⟩
    | _ :: _ :: _ => exact ⟨fun h => by simp at h; omega, fun _ => rfl⟩
  by_cases hr : k = 1 ∨ k = 2 ∨ k = 3 ∨ k = 4 ∨ k = 5 ∨ k = 9 ∨ k = 10
  · rcases hr with h | h | h | h | h | h | h
    · exact f1 h
    · exact f2 h
    · exact f3 h
    · exact f4 h
    · exact f5 h
    · exact f9 h
    · exact f10 h
  · have : fillE k f = (k, [], [], [], 0, 0) := by
      unfold fillE
      rw [if_neg (by omega), if_neg (by omega), if_neg (by omega), if_neg (by omega), if_neg (by omega)]
    rw [this]
    have g1 : ¬ k = 1 := by omega
    have g2 : ¬ k = 2 := by omega
    have g3 : ¬ k = 3 := by omega
    have g4 : ¬ k = 4 := by omega
    have g5 : ¬ k = 5 := by omega
    have g9 : ¬ k = 9 := by omega
    have g10 : ¬ k = 10 := by omega
    refine PC.of_PW (m := 2000) env_ok fn_30 rfl rfl rfl rfl (by kernel_rfl) ?_; intro hx; simp only [Tryd.f30]; simp only [go_sem, Nat.reduceBEq, ↓reduceIte, ↓reduceDIte, Nat.reduceAdd, Nat.reduceSub, Nat.reduceMul, Nat.reduceLeDiff, ← Bool.decide_and, ← Bool.decide_or, ← decide_not, Int.reduceLT, Int.reduceLE, Int.reduceToNat, Int.reduceNeg, by_nil, by32, Int.reduceEq, not_true_eq_false, not_false_eq_true, false_implies, g1, g2, g3, g4, g5, g9, g10]
theorem numR_itoa {n : Int} (h : 0 ≤ n) (h2 : n ≤ 1000) : numRV (itoa n) = n := by
  obtain ⟨x, r, e, _⟩ := dec_head n.toNat
  unfold numRV
  rw [itoa_dec h, if_pos ⟨by rw [e]; simp, dig_dec _⟩, valS_dec]; omega
theorem pairsR_pts : ∀ {p : List (Int × Int)}, p.all cooP = true → pairsR (ptsS p) = p
  | [], _ => rfl
  | q :: r, h => by
    have hq := coo_nn h (List.mem_cons_self ..)
    have hr : r.all cooP = true := by simp only [List.all_cons, Bool.and_eq_true] at h; exact h.2
    have e : ptsS (q :: r) = itoa q.1 :: itoa q.2 :: ptsS r := rfl
    rw [e]
    simp only [pairsR, numR_itoa hq.1.1 hq.1.2, numR_itoa hq.2.1 hq.2.2, pairsR_pts hr]
theorem fill_wr {e : Ev} (h : validE e = true) : fillE e.1 (wr e) = e := by
  obtain ⟨hk, hc⟩ := valid_cases h
  obtain ⟨k, keys, p, t, n, l⟩ := e
  rcases hc with ⟨hk, h1, h2, h3⟩ | ⟨hk, h1, h2, h3, h4⟩ | ⟨hk, h1, h2, h3, h4, h5⟩ | ⟨hk, h1, h2, h3, h4, h5⟩ | ⟨hk, h1, h2, h3, h4, h5⟩ | ⟨hk, h1⟩ <;> dsimp only at *
  · unfold fillE
    rw [wr, if_pos hk, if_pos hk, h3]
  · unfold fillE
    rw [wr, if_neg (by omega), if_pos hk, if_neg (by omega), if_pos hk, h1, h4]
    rw [pairsR_pts h2]
  · subst hk; subst h1; subst h2; rw [h5]; rfl
  · subst hk; subst h1; subst h2; subst h3
    show ((9 : Int), ([] : Str), ([] : List (Int × Int)), ([] : Str), numRV (itoa n), numRV (itoa l)) = _
    rw [numR_itoa h4.1 (by omega), numR_itoa (n := l) (by omega) (by omega)]
  · subst hk; subst h1; subst h2; subst h3; subst h5
    show ((10 : Int), ([] : Str), ([] : List (Int × Int)), ([] : Str), numRV (itoa n), (0 : Int)) = _
    rw [numR_itoa h4.1 (by omega)]
  · rw [h1]; rcases hk with rfl | rfl | rfl | rfl | rfl <;> rfl
theorem spl_len (c : UInt8) : ∀ (s : Str), (spl c s).length ≤ s.length + 1
  | [] => Nat.le_refl _
  | x :: r => by
    have ih := spl_len c r
    unfold spl
    split
    · simp only [List.length_cons]; omega
    · split
      · simp
      · rename_i h t e
        rw [e] at ih
        simp only [List.length_cons] at ih ⊢; omega
theorem c_ParseR (s : Str) (hs : s.length < 1000000) : PC env 14 [⟨.str, s⟩] (.tup EventT (.int .i64)) (parseS s) := by
  have hspl := spl_len 32 s
  refine PC.of_PW (m := 2000) env_ok fn_14 rfl rfl rfl rfl (by kernel_rfl) ?_; intro hx; simp only [Tryd.f14]; simp only [go_sem, Nat.reduceBEq, ↓reduceIte, ↓reduceDIte, Nat.reduceAdd, Nat.reduceSub, Nat.reduceMul, Nat.reduceLeDiff, ← Bool.decide_and, ← Bool.decide_or, ← decide_not, Int.reduceLT, Int.reduceLE, Int.reduceToNat, Int.reduceNeg, by_nil, by32, Int.reduceEq, not_true_eq_false, not_false_eq_true, false_implies]
  refine ⟨_, c_SplitR s 32 (by omega), fun hf => ⟨_, c_words, fun _ => ?_⟩⟩
  refine Walks.loopA (X := Int) (fun (k : Int) => [(6, .iv (.int .i64) k)]) (fun (k : Int) => []) (fun (k : Int) => (1 ≤ k ∧ k ≤ 13) ∧ ∀ j, 1 ≤ j → j < k → ¬ (nameK j = (spl 32 s).headD [] ∧ validE (fillE j ((spl 32 s).drop 1)) = true ∧ lineS (fillE j ((spl 32 s).drop 1)) = s)) (fun (k : Int) => (13 - k).toNat) 1 ?_; intro b1 b2 hb1 hb2; simp (config := {maxSteps := 4000000}) only [go_sem, Nat.reduceBEq, ↓reduceIte, ↓reduceDIte, Nat.reduceAdd, Nat.reduceSub, Nat.reduceMul, Nat.reduceLeDiff, ← Bool.decide_and, ← Bool.decide_or, ← decide_not, Int.reduceLT, Int.reduceLE, Int.reduceToNat, Int.reduceNeg, by_nil, by32, Int.reduceEq, not_true_eq_false, not_false_eq_true, false_implies] at hb1 hb2; subst hb1; subst hb2; refine ⟨(by refine ⟨?_, ?_, rfl, rfl⟩ <;> repeat' (first | exact trivial | (refine And.intro (Or.inl rfl) ?_) | (refine And.intro (Or.inr (Or.inl rfl)) ?_) | (refine And.intro (Or.inr (Or.inr (Or.inr ⟨rfl, rfl⟩))) ?_) | (refine And.intro (Or.inr (Or.inr (Or.inl ⟨rfl, rfl, trivial⟩))) ?_) | exact ⟨(by show (_ : Nat) < 1000000000; omega), rfl, rfl⟩ | rfl | (refine And.intro (Or.inl ?_) ?_) | (refine And.intro ?_ ?_))), ?_, ?_⟩
  · exact ⟨by decide, fun j h1 h2 => by omega⟩
  intro k ⟨hk, hb⟩ back
  have hwl : wordsL.length = 13 := rfl
  refine PW_sound env_ok ⟨_, fn_14, rfl⟩ 2000 _ _ (by kernel_rfl) ?_; simp only [go_sem, Nat.reduceBEq, ↓reduceIte, ↓reduceDIte, Nat.reduceAdd, Nat.reduceSub, Nat.reduceMul, Nat.reduceLeDiff, ← Bool.decide_and, ← Bool.decide_or, ← decide_not, Int.reduceLT, Int.reduceLE, Int.reduceToNat, Int.reduceNeg, by_nil, by32, Int.reduceEq, not_true_eq_false, not_false_eq_true, false_implies]
  obtain ⟨y, hy⟩ : ∃ y, (spl 32 s)[0]? = some y := get_of_lt (by have := spl_ne 32 s; cases h : spl 32 s with | nil => exact absurd h this | cons => simp)
  have hhd : (spl 32 s).headD [] = y := by cases h : spl 32 s with | nil => rw [h] at hy; simp at hy | cons => rw [h] at hy; simpa using hy
  have hlen : (1 : Int) ≤ ((spl 32 s).length : Nat) := by have := spl_ne 32 s; have : (spl 32 s).length ≠ 0 := fun h => this (List.eq_nil_of_length_eq_zero h); omega
  refine ⟨fun h => ?_, fun h => ?_⟩
  · have hk12 : 1 ≤ k ∧ k ≤ 12 := by omega
    have hnext : ¬ (nameK k = (spl 32 s).headD [] ∧ validE (fillE k ((spl 32 s).drop 1)) = true ∧ lineS (fillE k ((spl 32 s).drop 1)) = s) → ∀ j, 1 ≤ j → j < k + 1 → ¬ (nameK j = (spl 32 s).headD [] ∧ validE (fillE j ((spl 32 s).drop 1)) = true ∧ lineS (fillE j ((spl 32 s).drop 1)) = s) := fun hn j h1 h2 => by
      by_cases e : j = k
      · subst e; exact hn
      · exact hb j h1 (by omega)
    refine ⟨by omega, _, words_at hk12, y, hy, fun h1 => ⟨i64_ok (by omega) (by omega), back _ (k + 1) (by refine ⟨?_, ?_, rfl, rfl⟩ <;> repeat' (first | exact trivial | (refine And.intro (Or.inl rfl) ?_) | (refine And.intro (Or.inr (Or.inl rfl)) ?_) | (refine And.intro (Or.inr (Or.inr (Or.inr ⟨rfl, rfl⟩))) ?_) | (refine And.intro (Or.inr (Or.inr (Or.inl ⟨rfl, rfl, trivial⟩))) ?_) | exact ⟨(by show (_ : Nat) < 1000000000; omega), rfl, rfl⟩ | rfl | (refine And.intro (Or.inl ?_) ?_) | (refine And.intro ?_ ?_))) ⟨by omega, hnext fun hn => h1 (by rw [hn.1, hhd])⟩ (by omega)⟩, fun h1 => ⟨hlen, _, c_fill k _ hk12 (by rw [List.length_drop]; omega), fun _ => ⟨_, (c_ValidR _).dec, ?_⟩⟩⟩
    simp only [go_sem, Nat.reduceBEq, ↓reduceIte, ↓reduceDIte, Nat.reduceAdd, Nat.reduceSub, Nat.reduceMul, Nat.reduceLeDiff, ← Bool.decide_and, ← Bool.decide_or, ← decide_not, Int.reduceLT, Int.reduceLE, Int.reduceToNat, Int.reduceNeg, by_nil, by32, Int.reduceEq, not_true_eq_false, not_false_eq_true, false_implies]
    generalize fillE k ((spl 32 s).drop 1) = e at hnext ⊢
    obtain ⟨k', keys, p, t, n, l⟩ := e
    refine ⟨fun h2 => ⟨_, c_PrintR _ h2, fun _ => ⟨fun h3 => (parse_iff.2 ⟨h2, h3⟩).symm, fun h3 => ⟨i64_ok (by omega) (by omega), back _ (k + 1) ?_ ⟨by omega, hnext fun hn => h3 hn.2.2⟩ (by omega)⟩⟩⟩, fun h2 => ⟨i64_ok (by omega) (by omega), back _ (k + 1) ?_ ⟨by omega, hnext fun hn => h2 hn.2.1⟩ (by omega)⟩⟩
    · exact (by refine ⟨?_, ?_, rfl, rfl⟩ <;> repeat' (first | exact trivial | (refine And.intro (Or.inl rfl) ?_) | (refine And.intro (Or.inr (Or.inl rfl)) ?_) | (refine And.intro (Or.inr (Or.inr (Or.inr ⟨rfl, rfl⟩))) ?_) | (refine And.intro (Or.inr (Or.inr (Or.inl ⟨rfl, rfl, trivial⟩))) ?_) | exact ⟨(by show (_ : Nat) < 1000000000; omega), rfl, rfl⟩ | rfl | (refine And.intro (Or.inl ?_) ?_) | (refine And.intro ?_ ?_)))
    · exact (by refine ⟨?_, ?_, rfl, rfl⟩ <;> repeat' (first | exact trivial | (refine And.intro (Or.inl rfl) ?_) | (refine And.intro (Or.inr (Or.inl rfl)) ?_) | (refine And.intro (Or.inr (Or.inr (Or.inr ⟨rfl, rfl⟩))) ?_) | (refine And.intro (Or.inr (Or.inr (Or.inl ⟨rfl, rfl, trivial⟩))) ?_) | exact ⟨(by show (_ : Nat) < 1000000000; omega), rfl, rfl⟩ | rfl | (refine And.intro (Or.inl ?_) ?_) | (refine And.intro ?_ ?_)))
  · refine (parse_none fun e he hl => ?_).symm
    have h1 := (valid_cases he).1
    have h2 := spl_line he
    rw [hl] at h2
    refine hb e.1 h1.1 (by omega) ?_
    rw [h2]
    have e1 : (nameK e.1 :: wr e).drop 1 = wr e := rfl
    rw [e1, fill_wr he]
    exact ⟨rfl, he, hl⟩
end Go.Proofs.YtopelldocfbhkaaDoor
