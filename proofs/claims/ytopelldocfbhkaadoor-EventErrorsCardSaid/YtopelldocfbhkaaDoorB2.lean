/- Contracts of the reference: Decimal, words, Print, Split, fill, Parse. Nothing here is trusted; no condition. -/
import Derived.Test.YtopelldocfbhkaaDoorB1
set_option linter.unusedSimpArgs false
set_option linter.unusedVariables false
namespace Go.Proofs.YtopelldocfbhkaaDoor
set_option maxHeartbeats 4000000
set_option maxRecDepth 100000
open Go.Lib
def ev0 : Ev := (0, [], [], [], 0, 0)
theorem c_wNothing (e : Ev) : PC env 48 [⟨EventT, e⟩] (.sl .str) [] := by
  refine PC.of_PW (m := 2000) env_ok fn_48 rfl rfl rfl rfl (by kernel_rfl) ?_; intro hx; simp only [Tryd.f48]; simp only [go_sem, Nat.reduceBEq, ↓reduceIte, ↓reduceDIte, Nat.reduceAdd, Nat.reduceSub, Nat.reduceMul, Nat.reduceLeDiff, ← Bool.decide_and, ← Bool.decide_or, ← decide_not, Int.reduceLT, Int.reduceLE, Int.reduceToNat, Int.reduceNeg]
theorem c_wKeys (e : Ev) : PC env 42 [⟨EventT, e⟩] (.sl .str) [e.2.1] := by
  refine PC.of_PW (m := 2000) env_ok fn_42 rfl rfl rfl rfl (by kernel_rfl) ?_; intro hx; simp only [Tryd.f42]; simp only [go_sem, Nat.reduceBEq, ↓reduceIte, ↓reduceDIte, Nat.reduceAdd, Nat.reduceSub, Nat.reduceMul, Nat.reduceLeDiff, ← Bool.decide_and, ← Bool.decide_or, ← decide_not, Int.reduceLT, Int.reduceLE, Int.reduceToNat, Int.reduceNeg]
theorem c_wText (e : Ev) : PC env 46 [⟨EventT, e⟩] (.sl .str) [e.2.2.2.1] := by
  refine PC.of_PW (m := 2000) env_ok fn_46 rfl rfl rfl rfl (by kernel_rfl) ?_; intro hx; simp only [Tryd.f46]; simp only [go_sem, Nat.reduceBEq, ↓reduceIte, ↓reduceDIte, Nat.reduceAdd, Nat.reduceSub, Nat.reduceMul, Nat.reduceLeDiff, ← Bool.decide_and, ← Bool.decide_or, ← decide_not, Int.reduceLT, Int.reduceLE, Int.reduceToNat, Int.reduceNeg]
theorem c_wHold (e : Ev) : PC env 50 [⟨EventT, e⟩] (.sl .str) [itoa e.2.2.2.2.1, itoa e.2.2.2.2.2] := by
  refine PC.of_PW (m := 2000) env_ok fn_50 rfl rfl rfl rfl (by kernel_rfl) ?_; intro hx; simp only [Tryd.f50]; simp only [go_sem, Nat.reduceBEq, ↓reduceIte, ↓reduceDIte, Nat.reduceAdd, Nat.reduceSub, Nat.reduceMul, Nat.reduceLeDiff, ← Bool.decide_and, ← Bool.decide_or, ← decide_not, Int.reduceLT, Int.reduceLE, Int.reduceToNat, Int.reduceNeg]
  exact ⟨_, c_Itoa _, fun _ => ⟨_, c_Itoa _, fun _ => rfl⟩⟩
theorem c_wChoose (e : Ev) : PC env 52 [⟨EventT, e⟩] (.sl .str) [itoa e.2.2.2.2.1] := by
  refine PC.of_PW (m := 2000) env_ok fn_52 rfl rfl rfl rfl (by kernel_rfl) ?_; intro hx; simp only [Tryd.f52]; simp only [go_sem, Nat.reduceBEq, ↓reduceIte, ↓reduceDIte, Nat.reduceAdd, Nat.reduceSub, Nat.reduceMul, Nat.reduceLeDiff, ← Bool.decide_and, ← Bool.decide_or, ← decide_not, Int.reduceLT, Int.reduceLE, Int.reduceToNat, Int.reduceNeg]
  exact ⟨_, c_Itoa _, fun _ => rfl⟩
def ptsS (p : List (Int × Int)) : List Str := p.flatMap fun q => [itoa q.1, itoa q.2]
theorem ptsS_step {p : List (Int × Int)} {i : Nat} {q : Int × Int} (h : p[i]? = some q) : ptsS (p.take (i + 1)) = ptsS (p.take i) ++ [itoa q.1, itoa q.2] := by
  unfold ptsS
  rw [take_snoc h, List.flatMap_append]; rfl
theorem ptsS_len (p : List (Int × Int)) : (ptsS p).length = 2 * p.length := by
  unfold ptsS
  induction p with
  | nil => rfl
  | cons q r ih => rw [List.flatMap_cons, List.length_append, ih]; simp; omega
theorem c_wPoints (e : Ev) (h : e.2.2.1.length ≤ 1000000) : PC env 44 [⟨EventT, e⟩] (.sl .str) (ptsS e.2.2.1) := by
  refine PC.of_PW (m := 2000) env_ok fn_44 rfl rfl rfl rfl (by kernel_rfl) ?_; intro hx; simp only [Tryd.f44]; simp only [go_sem, Nat.reduceBEq, ↓reduceIte, ↓reduceDIte, Nat.reduceAdd, Nat.reduceSub, Nat.reduceMul, Nat.reduceLeDiff, ← Bool.decide_and, ← Bool.decide_or, ← decide_not, Int.reduceLT, Int.reduceLE, Int.reduceToNat, Int.reduceNeg]
  refine Walks.loopA (X := Nat × List Str) (fun (z : Nat × List Str) => [(9, .iv (.int .i64) (z.1 : Int)), (3, .lfull 1000)]) (fun (z : Nat × List Str) => [(1000, .arr .str z.2)]) (fun (z : Nat × List Str) => z.1 ≤ e.2.2.1.length ∧ z.2 = ptsS (e.2.2.1.take z.1)) (fun (z : Nat × List Str) => e.2.2.1.length - z.1) (0, []) ?_; intro b1 b2 hb1 hb2; simp (config := {maxSteps := 4000000}) only [go_sem, Nat.reduceBEq, ↓reduceIte, ↓reduceDIte, Nat.reduceAdd, Nat.reduceSub, Nat.reduceMul, Nat.reduceLeDiff, ← Bool.decide_and, ← Bool.decide_or, ← decide_not, Int.reduceLT, Int.reduceLE, Int.reduceToNat, Int.reduceNeg] at hb1 hb2; subst hb1; subst hb2; refine ⟨(by refine ⟨?_, ?_, rfl, rfl⟩ <;> repeat' (first | exact trivial | (refine And.intro (Or.inl rfl) ?_) | (refine And.intro (Or.inr (Or.inl rfl)) ?_) | (refine And.intro (Or.inr (Or.inr (Or.inr ⟨rfl, rfl⟩))) ?_) | (refine And.intro (Or.inr (Or.inr (Or.inl ⟨rfl, rfl, trivial⟩))) ?_) | exact ⟨(by show (_ : Nat) < 1000000000; omega), rfl, rfl⟩ | rfl | (refine And.intro (Or.inl ?_) ?_) | (refine And.intro ?_ ?_))), ?_, ?_⟩
  · exact ⟨Nat.zero_le _, rfl⟩
  intro ⟨i, l⟩ ⟨hi, hb⟩ back
  dsimp only at hi hb
  refine PW_sound env_ok ⟨_, fn_44, rfl⟩ 2000 _ _ (by kernel_rfl) ?_; simp only [go_sem, Nat.reduceBEq, ↓reduceIte, ↓reduceDIte, Nat.reduceAdd, Nat.reduceSub, Nat.reduceMul, Nat.reduceLeDiff, ← Bool.decide_and, ← Bool.decide_or, ← decide_not, Int.reduceLT, Int.reduceLE, Int.reduceToNat, Int.reduceNeg]
  refine ⟨fun h1 => ?_, fun h1 => ?_⟩
  · obtain ⟨q, hq⟩ := get_of_lt (xs := e.2.2.1) (i := i) (by omega)
    have hl := ptsS_len (e.2.2.1.take i)
    rw [List.length_take, ← hb] at hl
    refine ⟨Int.natCast_nonneg _, q, hq, _, c_Itoa _, fun _ => ⟨_, c_Itoa _, fun _ => ⟨by omega, i64_ok (by omega) (by omega), back _ (i + 1, l ++ [itoa q.1, itoa q.2]) (by refine ⟨?_, ?_, rfl, rfl⟩ <;> repeat' (first | exact trivial | (refine And.intro (Or.inl rfl) ?_) | (refine And.intro (Or.inr (Or.inl rfl)) ?_) | (refine And.intro (Or.inr (Or.inr (Or.inr ⟨rfl, rfl⟩))) ?_) | (refine And.intro (Or.inr (Or.inr (Or.inl ⟨rfl, rfl, trivial⟩))) ?_) | exact ⟨(by show (_ : Nat) < 1000000000; omega), rfl, rfl⟩ | rfl | (refine And.intro (Or.inl ?_) ?_) | (refine And.intro ?_ ?_))) ⟨by dsimp only; omega, ?_⟩ (by dsimp only; omega)⟩⟩⟩
    rw [hb]
    exact (ptsS_step hq).symm
  · rw [List.take_of_length_le (by omega)] at hb
    exact hb
theorem len_is {α : Type} {l : List α} {n : Nat} (h : ((l.length : Nat) : Int) = n) : l.length = n := by omega
theorem c_rNothing (f : List Str) : PC env 49 [⟨.sl .str, f⟩] (.tup EventT .bool) (ev0, decide (f.length = 0)) := by
  refine PC.of_PW (m := 2000) env_ok fn_49 rfl rfl rfl rfl (by kernel_rfl) ?_; intro hx; simp only [Tryd.f49]; simp only [go_sem, Nat.reduceBEq, ↓reduceIte, ↓reduceDIte, Nat.reduceAdd, Nat.reduceSub, Nat.reduceMul, Nat.reduceLeDiff, ← Bool.decide_and, ← Bool.decide_or, ← decide_not, Int.reduceLT, Int.reduceLE, Int.reduceToNat, Int.reduceNeg]
  exact congrArg (Prod.mk _) (decide_eq_decide.2 (by omega))
def rKeys (f : List Str) : Ev × Bool := match f with | [s] => ((0, s, [], [], 0, 0), true) | _ => (ev0, false)
theorem c_rKeys (f : List Str) : PC env 43 [⟨.sl .str, f⟩] (.tup EventT .bool) (rKeys f) := by
  refine PC.of_PW (m := 2000) env_ok fn_43 rfl rfl rfl rfl (by kernel_rfl) ?_; intro hx; simp only [Tryd.f43]; simp only [go_sem, Nat.reduceBEq, ↓reduceIte, ↓reduceDIte, Nat.reduceAdd, Nat.reduceSub, Nat.reduceMul, Nat.reduceLeDiff, ← Bool.decide_and, ← Bool.decide_or, ← decide_not, Int.reduceLT, Int.reduceLE, Int.reduceToNat, Int.reduceNeg]
  match f with
  | [] => exact ⟨fun _ => rfl, fun h => by simp at h⟩
  | [s] => exact ⟨fun h => by simp at h, fun _ => ⟨s, rfl, rfl⟩⟩
  | _ :: _ :: _ => exact ⟨fun _ => rfl, fun h => by simp at h; omega⟩
def rText (f : List Str) : Ev × Bool := match f with | [s] => ((0, [], [], s, 0, 0), true) | _ => (ev0, false)
theorem c_rText (f : List Str) : PC env 47 [⟨.sl .str, f⟩] (.tup EventT .bool) (rText f) := by
  refine PC.of_PW (m := 2000) env_ok fn_47 rfl rfl rfl rfl (by kernel_rfl) ?_; intro hx; simp only [Tryd.f47]; simp only [go_sem, Nat.reduceBEq, ↓reduceIte, ↓reduceDIte, Nat.reduceAdd, Nat.reduceSub, Nat.reduceMul, Nat.reduceLeDiff, ← Bool.decide_and, ← Bool.decide_or, ← decide_not, Int.reduceLT, Int.reduceLE, Int.reduceToNat, Int.reduceNeg]
  match f with
  | [] => exact ⟨fun _ => rfl, fun h => by simp at h⟩
  | [s] => exact ⟨fun h => by simp at h, fun _ => ⟨s, rfl, rfl⟩⟩
  | _ :: _ :: _ => exact ⟨fun _ => rfl, fun h => by simp at h; omega⟩
def rHold (f : List Str) : Ev × Bool := match f with | [s, t] => ((0, [], [], [], numV s, numV t), numOK s && numOK t) | _ => (ev0, false)
theorem c_rHold (f : List Str) : PC env 51 [⟨.sl .str, f⟩] (.tup EventT .bool) (rHold f) := by
  refine PC.of_PW (m := 2000) env_ok fn_51 rfl rfl rfl rfl (by kernel_rfl) ?_; intro hx; simp only [Tryd.f51]; simp only [go_sem, Nat.reduceBEq, ↓reduceIte, ↓reduceDIte, Nat.reduceAdd, Nat.reduceSub, Nat.reduceMul, Nat.reduceLeDiff, ← Bool.decide_and, ← Bool.decide_or, ← decide_not, Int.reduceLT, Int.reduceLE, Int.reduceToNat, Int.reduceNeg]
  match f with
  | [] => exact ⟨fun _ => rfl, fun h => by simp at h⟩
  | [s] => exact ⟨fun _ => rfl, fun h => by simp at h⟩
  | [s, t] =>
    refine ⟨fun h => by simp at h, fun _ => ⟨s, rfl, _, c_number _, fun _ => ⟨t, rfl, _, c_number _, fun _ => ?_⟩⟩⟩
    cases h : numOK s
    · simp only [go_sem, Nat.reduceBEq, ↓reduceIte, ↓reduceDIte, Nat.reduceAdd, Nat.reduceSub, Nat.reduceMul, Nat.reduceLeDiff, ← Bool.decide_and, ← Bool.decide_or, ← decide_not, Int.reduceLT, Int.reduceLE, Int.reduceToNat, Int.reduceNeg]
      simp [rHold, h]
    · simp only [go_sem, Nat.reduceBEq, ↓reduceIte, ↓reduceDIte, Nat.reduceAdd, Nat.reduceSub, Nat.reduceMul, Nat.reduceLeDiff, ← Bool.decide_and, ← Bool.decide_or, ← decide_not, Int.reduceLT, Int.reduceLE, Int.reduceToNat, Int.reduceNeg]
      simp [rHold, h]
  | _ :: _ :: _ :: _ => exact ⟨fun _ => rfl, fun h => by simp at h; omega⟩
def rChoose (f : List Str) : Ev × Bool := match f with | [s] => ((0, [], [], [], numV s, 0), numOK s) | _ => (ev0, false)
theorem c_rChoose (f : List Str) : PC env 53 [⟨.sl .str, f⟩] (.tup EventT .bool) (rChoose f) := by
  refine PC.of_PW (m := 2000) env_ok fn_53 rfl rfl rfl rfl (by kernel_rfl) ?_; intro hx; simp only [Tryd.f53]; simp only [go_sem, Nat.reduceBEq, ↓reduceIte, ↓reduceDIte, Nat.reduceAdd, Nat.reduceSub, Nat.reduceMul, Nat.reduceLeDiff, ← Bool.decide_and, ← Bool.decide_or, ← decide_not, Int.reduceLT, Int.reduceLE, Int.reduceToNat, Int.reduceNeg]
  match f with
  | [] => exact ⟨fun _ => rfl, fun h => by simp at h⟩
  | [s] => exact ⟨fun h => by simp at h, fun _ => ⟨s, rfl, _, c_number _, fun _ => rfl⟩⟩
  | _ :: _ :: _ => exact ⟨fun _ => rfl, fun h => by simp at h; omega⟩
def pairsS : List Str → List (Int × Int)
  | a :: b :: l => (numV a, numV b) :: pairsS l
  | _ => []
theorem pairsS_snoc : ∀ (k : Nat) {l : List Str} {a b : Str}, l.length = 2 * k → pairsS (l ++ [a, b]) = pairsS l ++ [(numV a, numV b)]
  | 0, l, a, b, h => by
    have : l = [] := List.eq_nil_of_length_eq_zero (by omega)
    subst this; rfl
  | k + 1, [], a, b, h => by simp only [List.length_nil] at h; omega
  | k + 1, [x], a, b, h => by simp only [List.length_cons, List.length_nil] at h; omega
  | k + 1, x :: y :: l, a, b, h => by
    simp only [List.length_cons] at h
    show (numV x, numV y) :: pairsS (l ++ [a, b]) = (numV x, numV y) :: (pairsS l ++ [(numV a, numV b)])
    rw [pairsS_snoc k (by omega)]
theorem pairsS_len : ∀ (l : List Str), (pairsS l).length ≤ l.length
  | [] => Nat.le_refl _
  | [x] => Nat.zero_le _
  | x :: y :: l => by have := pairsS_len l; simp only [pairsS, List.length_cons]; omega
def rPoints (f : List Str) : Ev × Bool := if (f.length % 2 = 0 ∧ f.length ≤ 24) ∧ f.all numOK = true then ((0, [], pairsS f, [], 0, 0), true) else (ev0, false)
theorem c_rPoints (f : List Str) : PC env 45 [⟨.sl .str, f⟩] (.tup EventT .bool) (rPoints f) := by
  refine PC.of_PW (m := 2000) env_ok fn_45 rfl rfl rfl rfl (by kernel_rfl) ?_; intro hx; simp only [Tryd.f45]; simp only [go_sem, Nat.reduceBEq, ↓reduceIte, ↓reduceDIte, Nat.reduceAdd, Nat.reduceSub, Nat.reduceMul, Nat.reduceLeDiff, ← Bool.decide_and, ← Bool.decide_or, ← decide_not, Int.reduceLT, Int.reduceLE, Int.reduceToNat, Int.reduceNeg]
  refine ⟨fun h1 => ⟨fun h2 => ?_, fun h2 => ?_⟩, fun h1 => ?_⟩
  · rw [rPoints, if_neg (by omega)]; rfl
  · have hev : f.length % 2 = 0 := by
      have := h1
      rw [Int.tmod_eq_emod_of_nonneg (Int.natCast_nonneg _)] at this
      omega
    have hno : f.all numOK = false → ((ev0, false) : Ev × Bool) = rPoints f := fun h => by rw [rPoints, if_neg (by simp [h])]
    refine Walks.loopA (X := Nat × Int × List (Int × Int)) (fun (z : Nat × Int × List (Int × Int)) => [(5, .iv (.int .i64) z.2.1)]) (fun (z : Nat × Int × List (Int × Int)) => [(4, .box [.iv (.int .i64) 0, .iv .str [], .lfull 1000, .iv .str [], .iv (.int .i64) 0, .iv (.int .i64) 0]), (1000, .arr PointT z.2.2)]) (fun (z : Nat × Int × List (Int × Int)) => 2 * z.1 ≤ f.length ∧ (f.take (2 * z.1)).all numOK = true ∧ z.2.2 = pairsS (f.take (2 * z.1)) ∧ z.2.1 = 2 * (z.1 : Int)) (fun (z : Nat × Int × List (Int × Int)) => f.length - 2 * z.1) (0, 0, []) ?_; intro b1 b2 hb1 hb2; simp (config := {maxSteps := 4000000}) only [go_sem, Nat.reduceBEq, ↓reduceIte, ↓reduceDIte, Nat.reduceAdd, Nat.reduceSub, Nat.reduceMul, Nat.reduceLeDiff, ← Bool.decide_and, ← Bool.decide_or, ← decide_not, Int.reduceLT, Int.reduceLE, Int.reduceToNat, Int.reduceNeg] at hb1 hb2; subst hb1; subst hb2; refine ⟨(by refine ⟨?_, ?_, rfl, rfl⟩ <;> repeat' (first | exact trivial | (refine And.intro (Or.inl rfl) ?_) | (refine And.intro (Or.inr (Or.inl rfl)) ?_) | (refine And.intro (Or.inr (Or.inr (Or.inr ⟨rfl, rfl⟩))) ?_) | (refine And.intro (Or.inr (Or.inr (Or.inl ⟨rfl, rfl, trivial⟩))) ?_) | exact ⟨(by show (_ : Nat) < 1000000000; omega), rfl, rfl⟩ | rfl | (refine And.intro (Or.inl ?_) ?_) | (refine And.intro ?_ ?_))), ?_, ?_⟩
    · exact ⟨Nat.zero_le _, rfl, rfl, rfl⟩
    intro ⟨k, i, l⟩ ⟨hk, hb, hp, hi⟩ back
    dsimp only at hk hb hp hi
    refine PW_sound env_ok ⟨_, fn_45, rfl⟩ 2000 _ _ (by kernel_rfl) ?_; simp only [go_sem, Nat.reduceBEq, ↓reduceIte, ↓reduceDIte, Nat.reduceAdd, Nat.reduceSub, Nat.reduceMul, Nat.reduceLeDiff, ← Bool.decide_and, ← Bool.decide_or, ← decide_not, Int.reduceLT, Int.reduceLE, Int.reduceToNat, Int.reduceNeg]
    refine ⟨fun h3 => ?_, fun h3 => ?_⟩
    · obtain ⟨a, ha⟩ := get_of_lt (xs := f) (i := 2 * k) (by omega)
      obtain ⟨b, hb'⟩ := get_of_lt (xs := f) (i := 2 * k + 1) (by omega)
      have e1 : i.toNat = 2 * k := by omega
      have e2 : (i + 1).toNat = 2 * k + 1 := by omega
      have hno1 : numOK a = false → f.all numOK = false := fun h => all_no ha h
      have hno2 : numOK b = false → f.all numOK = false := fun h => all_no hb' h
      refine ⟨by omega, a, by rw [e1]; exact ha, _, c_number _, fun _ => ⟨i64_ok (by omega) (by omega), (by show (0 : Int) ≤ _; omega), b, by rw [e2]; exact hb', _, c_number _, fun _ => ?_⟩⟩
      have hl := pairsS_len (f.take (2 * k))
      rw [List.length_take, ← hp] at hl
      cases h4 : numOK a
      · simp only [go_sem, Nat.reduceBEq, ↓reduceIte, ↓reduceDIte, Nat.reduceAdd, Nat.reduceSub, Nat.reduceMul, Nat.reduceLeDiff, ← Bool.decide_and, ← Bool.decide_or, ← decide_not, Int.reduceLT, Int.reduceLE, Int.reduceToNat, Int.reduceNeg]
        exact hno (hno1 h4)
      · simp only [go_sem, Nat.reduceBEq, ↓reduceIte, ↓reduceDIte, Nat.reduceAdd, Nat.reduceSub, Nat.reduceMul, Nat.reduceLeDiff, ← Bool.decide_and, ← Bool.decide_or, ← decide_not, Int.reduceLT, Int.reduceLE, Int.reduceToNat, Int.reduceNeg]
        cases h5 : numOK b
        · simp only [go_sem, Nat.reduceBEq, ↓reduceIte, ↓reduceDIte, Nat.reduceAdd, Nat.reduceSub, Nat.reduceMul, Nat.reduceLeDiff, ← Bool.decide_and, ← Bool.decide_or, ← decide_not, Int.reduceLT, Int.reduceLE, Int.reduceToNat, Int.reduceNeg]
          exact hno (hno2 h5)
        · simp only [go_sem, Nat.reduceBEq, ↓reduceIte, ↓reduceDIte, Nat.reduceAdd, Nat.reduceSub, Nat.reduceMul, Nat.reduceLeDiff, ← Bool.decide_and, ← Bool.decide_or, ← decide_not, Int.reduceLT, Int.reduceLE, Int.reduceToNat, Int.reduceNeg]
          refine ⟨by omega, i64_ok (by omega) (by omega), back _ (k + 1, i + 2, l ++ [(numV a, numV b)]) (by refine ⟨?_, ?_, rfl, rfl⟩ <;> repeat' (first | exact trivial | (refine And.intro (Or.inl rfl) ?_) | (refine And.intro (Or.inr (Or.inl rfl)) ?_) | (refine And.intro (Or.inr (Or.inr (Or.inr ⟨rfl, rfl⟩))) ?_) | (refine And.intro (Or.inr (Or.inr (Or.inl ⟨rfl, rfl, trivial⟩))) ?_) | exact ⟨(by show (_ : Nat) < 1000000000; omega), rfl, rfl⟩ | rfl | (refine And.intro (Or.inl ?_) ?_) | (refine And.intro ?_ ?_))) ⟨by dsimp only; omega, ?_, ?_, by dsimp only; omega⟩ (by dsimp only; omega)⟩
          · show (f.take (2 * k + 1 + 1)).all numOK = true
            rw [all_step hb', all_step ha, hb, h4, h5]; rfl
          · show l ++ [(numV a, numV b)] = pairsS (f.take (2 * k + 1 + 1))
            rw [take_snoc hb', take_snoc ha, List.append_assoc, hp]
            exact (pairsS_snoc k (by rw [List.length_take]; omega)).symm
    · rw [List.take_of_length_le (by omega)] at hb hp
      rw [rPoints, if_pos ⟨⟨by omega, by omega⟩, hb⟩, hp]
  · have hn : ¬ ((f.length % 2 = 0 ∧ f.length ≤ 24) ∧ f.all numOK = true) := fun h => by
      have h3 := h.1.1
      rw [Int.tmod_eq_emod_of_nonneg (Int.natCast_nonneg _)] at h1
      omega
    rw [rPoints, if_neg hn]
    rfl
end Go.Proofs.YtopelldocfbhkaaDoor
--SET+ by_nil
namespace Go.Proofs.YtopelldocfbhkaaDoor
set_option maxHeartbeats 4000000
set_option maxRecDepth 100000
open Go.Lib

theorem by_nil : bytesOf ⟨#[]⟩ = ([] : Str) := rfl
def formsD : List (Int × (Str × (Nat × Nat))) :=
  [(1, ([107, 101, 121], (42, 43))),
   (2, ([99, 104, 111, 114, 100], (42, 43))),
   (3, ([116, 111, 117, 99, 104], (44, 45))),
   (4, ([115, 116, 114, 111, 107, 101], (44, 45))),
   (5, ([112, 97, 115, 116, 101], (46, 47))),
   (6, ([101, 114, 97, 115, 101], (48, 49))),
   (7, ([108, 101, 102, 116], (48, 49))),
   (8, ([114, 105, 103, 104, 116], (48, 49))),
   (9, ([104, 111, 108, 100], (50, 51))),
   (10, ([99, 104, 111, 111, 115, 101], (52, 53))),
   (11, ([99, 111, 109, 109, 105, 116], (48, 49))),
   (12, ([99, 97, 110, 99, 101, 108], (48, 49)))]
theorem c_forms : PC env 29 [] (.mp (.int .i64) FormT) formsD := by
  refine PC.of_PW (m := 2000) env_ok fn_29 rfl rfl rfl rfl (by kernel_rfl) ?_; intro hx; simp only [Tryd.f29]; simp only [go_sem, Nat.reduceBEq, ↓reduceIte, ↓reduceDIte, Nat.reduceAdd, Nat.reduceSub, Nat.reduceMul, Nat.reduceLeDiff, ← Bool.decide_and, ← Bool.decide_or, ← decide_not, Int.reduceLT, Int.reduceLE, Int.reduceToNat, Int.reduceNeg, by_nil]
  simp [mset, eqB, formsD]
  exact ⟨rfl, rfl, rfl, rfl, rfl, rfl, rfl, rfl, rfl, rfl, rfl, rfl⟩
/-- The words of the kinds. -/
def nameK (k : Int) : Str := if k = 1 then [107, 101, 121] else if k = 2 then [99, 104, 111, 114, 100] else if k = 3 then [116, 111, 117, 99, 104] else if k = 4 then [115, 116, 114, 111, 107, 101] else if k = 5 then [112, 97, 115, 116, 101]
  else if k = 6 then [101, 114, 97, 115, 101] else if k = 7 then [108, 101, 102, 116] else if k = 8 then [114, 105, 103, 104, 116] else if k = 9 then [104, 111, 108, 100] else if k = 10 then [99, 104, 111, 111, 115, 101] else if k = 11 then [99, 111, 109, 109, 105, 116] else if k = 12 then [99, 97, 110, 99, 101, 108] else []
/-- The fields of an event. -/
def wr (e : Ev) : List Str := if e.1 = 1 ∨ e.1 = 2 then [e.2.1] else if e.1 = 3 ∨ e.1 = 4 then ptsS e.2.2.1 else if e.1 = 5 then [e.2.2.2.1] else if e.1 = 9 then [itoa e.2.2.2.2.1, itoa e.2.2.2.2.2] else if e.1 = 10 then [itoa e.2.2.2.2.1] else []
def lineS (e : Ev) : Str := joinC 32 (nameK e.1 :: wr e)
def rd (k : Int) (f : List Str) : Ev × Bool := if k = 1 ∨ k = 2 then rKeys f else if k = 3 ∨ k = 4 then rPoints f else if k = 5 then rText f else if k = 9 then rHold f else if k = 10 then rChoose f else (ev0, decide (f.length = 0))
theorem kinds {k : Int} (h : 1 ≤ k ∧ k ≤ 12) : k = 1 ∨ k = 2 ∨ k = 3 ∨ k = 4 ∨ k = 5 ∨ k = 6 ∨ k = 7 ∨ k = 8 ∨ k = 9 ∨ k = 10 ∨ k = 11 ∨ k = 12 := by omega
theorem c_Join32 (xs : List Str) (hn : xs.length ≤ 140737488355328) (hl : (joinC 32 xs).length ≤ 140737488355328) : PC env 32 [⟨.sl .str, xs⟩, ⟨.str, bytesOf ⟨#[32]⟩⟩] .str (joinC 32 xs) :=
  join_joinC 32 xs ▸ c_Join xs [32] hn (by rw [join_joinC]; exact hl)
theorem c_Print (e : Ev) (hk : 1 ≤ e.1 ∧ e.1 ≤ 12) (hp : e.2.2.1.length ≤ 1000000) (hl : (lineS e).length ≤ 140737488355328) : PC env 16 [⟨EventT, e⟩] .str (lineS e) := by
  obtain ⟨k, keys, p, t, n, l⟩ := e
  have hw := ptsS_len p
  dsimp only at hk hp
  refine PC.of_PW (m := 2000) env_ok fn_16 rfl rfl rfl rfl (by kernel_rfl) ?_; intro hx; simp only [Tryd.f16]; simp only [go_sem, Nat.reduceBEq, ↓reduceIte, ↓reduceDIte, Nat.reduceAdd, Nat.reduceSub, Nat.reduceMul, Nat.reduceLeDiff, ← Bool.decide_and, ← Bool.decide_or, ← decide_not, Int.reduceLT, Int.reduceLE, Int.reduceToNat, Int.reduceNeg, by_nil]
  refine ⟨_, c_forms, fun _ => ?_⟩
  have h1 := c_wKeys (k, keys, p, t, n, l)
  have h2 := c_wPoints (k, keys, p, t, n, l) hp
  have h3 := c_wText (k, keys, p, t, n, l)
  have h4 := c_wNothing (k, keys, p, t, n, l)
  have h5 := c_wHold (k, keys, p, t, n, l)
  have h6 := c_wChoose (k, keys, p, t, n, l)
  rcases kinds hk with rfl | rfl | rfl | rfl | rfl | rfl | rfl | rfl | rfl | rfl | rfl | rfl <;> refine ⟨_, rfl, ?_⟩ <;> simp only [go_sem, Nat.reduceBEq, ↓reduceIte, ↓reduceDIte, Nat.reduceAdd, Nat.reduceSub, Nat.reduceMul, Nat.reduceLeDiff, ← Bool.decide_and, ← Bool.decide_or, ← decide_not, Int.reduceLT, Int.reduceLE, Int.reduceToNat, Int.reduceNeg, by_nil]
  · exact ⟨_, h1, fun _ => ⟨by simp, _, c_Join32 _ (by simp) hl, fun _ => rfl⟩⟩
  · exact ⟨_, h1, fun _ => ⟨by simp, _, c_Join32 _ (by simp) hl, fun _ => rfl⟩⟩
  · exact ⟨_, h2, fun _ => ⟨by show 1 + (ptsS p).length ≤ _; omega, _, c_Join32 _ (by show (ptsS p).length + 1 ≤ _; omega) hl, fun _ => rfl⟩⟩
  · exact ⟨_, h2, fun _ => ⟨by show 1 + (ptsS p).length ≤ _; omega, _, c_Join32 _ (by show (ptsS p).length + 1 ≤ _; omega) hl, fun _ => rfl⟩⟩
  · exact ⟨_, h3, fun _ => ⟨by simp, _, c_Join32 _ (by simp) hl, fun _ => rfl⟩⟩
  · exact ⟨_, h4, fun _ => ⟨by simp, _, c_Join32 _ (by simp) hl, fun _ => rfl⟩⟩
  · exact ⟨_, h4, fun _ => ⟨by simp, _, c_Join32 _ (by simp) hl, fun _ => rfl⟩⟩
  · exact ⟨_, h4, fun _ => ⟨by simp, _, c_Join32 _ (by simp) hl, fun _ => rfl⟩⟩
  · exact ⟨_, h5, fun _ => ⟨by simp, _, c_Join32 _ (by simp) hl, fun _ => rfl⟩⟩
  · exact ⟨_, h6, fun _ => ⟨by simp, _, c_Join32 _ (by simp) hl, fun _ => rfl⟩⟩
  · exact ⟨_, h4, fun _ => ⟨by simp, _, c_Join32 _ (by simp) hl, fun _ => rfl⟩⟩
  · exact ⟨_, h4, fun _ => ⟨by simp, _, c_Join32 _ (by simp) hl, fun _ => rfl⟩⟩
/-- What a form makes of a line's fields. -/
def tryF (f : List Str) (x : Int × (Str × (Nat × Nat))) : Option Ev := if x.2.1 = f.headD [] then (if ((rd x.1 (f.drop 1)).2 && validE (x.1, (rd x.1 (f.drop 1)).1.2)) = true then some (x.1, (rd x.1 (f.drop 1)).1.2) else none) else none
def parseS (s : Str) : Ev × Int := match formsD.findSome? (tryF (spl 32 s)) with | some e => (e, 0) | none => (ev0, 3)
def unseen (n : Nat) (seen : List Nat) : Nat := ((List.range n).filter fun i => decide (i ∉ seen)).length
theorem unseen_lt {n i : Nat} {seen : List Nat} (hi : i < n) (hn : i ∉ seen) : unseen n (seen ++ [i]) < unseen n seen := by
  unfold unseen
  have e : (List.range n).filter (fun j => decide (j ∉ seen ++ [i])) = ((List.range n).filter fun j => decide (j ∉ seen)).filter (fun j => decide (j ≠ i)) := by
    rw [List.filter_filter]
    congr 1
    funext j
    simp [and_comm]
  rw [e]
  apply List.length_filter_lt_length_iff_exists.2
  exact ⟨i, by simp [hi, hn], by simp⟩
theorem forms_one : ∀ x, x ∈ formsD → ∀ y, y ∈ formsD → x.2.1 = y.2.1 → x = y := by
  unfold formsD
  decide
theorem tryF_name {f : List Str} {x : Int × (Str × (Nat × Nat))} {e : Ev} (h : tryF f x = some e) : x.2.1 = f.headD [] := by
  unfold tryF at h
  split at h
  · assumption
  · cases h
theorem parse_hit {s : Str} {x : Int × (Str × (Nat × Nat))} {e : Ev} (hx : x ∈ formsD) (h : tryF (spl 32 s) x = some e) : parseS s = (e, 0) := by
  unfold parseS
  cases hf : formsD.findSome? (tryF (spl 32 s)) with
  | none => rw [List.findSome?_eq_none_iff] at hf; rw [hf x hx] at h; cases h
  | some e' =>
    obtain ⟨y, hy, he⟩ := List.exists_of_findSome?_eq_some hf
    have := forms_one x hx y hy (by rw [tryF_name h, tryF_name he])
    subst this
    rw [h] at he
    injection he with he
    subst he; rfl
theorem parse_miss {s : Str} (h : ∀ x, x ∈ formsD → tryF (spl 32 s) x = none) : parseS s = (ev0, 3) := by
  unfold parseS
  rw [List.findSome?_eq_none_iff.2 h]
theorem c_Parse (s : Str) (hs : s.length < 4294967281) : PC env 13 [⟨.str, s⟩] (.tup EventT (.int .i64)) (parseS s) := by
  refine PC.of_PW (m := 2000) env_ok fn_13 rfl rfl rfl rfl (by kernel_rfl) ?_; intro hx; simp only [Tryd.f13]; simp only [go_sem, Nat.reduceBEq, ↓reduceIte, ↓reduceDIte, Nat.reduceAdd, Nat.reduceSub, Nat.reduceMul, Nat.reduceLeDiff, ← Bool.decide_and, ← Bool.decide_or, ← decide_not, Int.reduceLT, Int.reduceLE, Int.reduceToNat, Int.reduceNeg, by_nil]
  refine ⟨_, c_Split s 32 hs, ?_⟩
  rw [split_spl 32 _ s (Nat.lt_succ_self _)]
  intro hf
  refine ⟨_, c_forms, fun _ => ?_⟩
  refine Walks.loopA (X := List Nat) (fun (seen : List Nat) => []) (fun (seen : List Nat) => [(12, .it [.iv (.mp (.int .i64) FormT) formsD] 12 seen)]) (fun (seen : List Nat) => ∀ j, j ∈ seen → ∀ x, formsD[j]? = some x → tryF (spl 32 s) x = none) (fun (seen : List Nat) => unseen 12 seen) [] ?_; intro b1 b2 hb1 hb2; simp (config := {maxSteps := 4000000}) only [go_sem, Nat.reduceBEq, ↓reduceIte, ↓reduceDIte, Nat.reduceAdd, Nat.reduceSub, Nat.reduceMul, Nat.reduceLeDiff, ← Bool.decide_and, ← Bool.decide_or, ← decide_not, Int.reduceLT, Int.reduceLE, Int.reduceToNat, Int.reduceNeg, by_nil] at hb1 hb2; subst hb1; subst hb2; refine ⟨(by refine ⟨?_, ?_, rfl, rfl⟩ <;> repeat' (first | exact trivial | (refine And.intro (Or.inl rfl) ?_) | (refine And.intro (Or.inr (Or.inl rfl)) ?_) | (refine And.intro (Or.inr (Or.inr (Or.inr ⟨rfl, rfl⟩))) ?_) | (refine And.intro (Or.inr (Or.inr (Or.inl ⟨rfl, rfl, trivial⟩))) ?_) | exact ⟨(by show (_ : Nat) < 1000000000; omega), rfl, rfl⟩ | rfl | (refine And.intro (Or.inl ?_) ?_) | (refine And.intro ?_ ?_))), ?_, ?_⟩
  · intro j hj; simp at hj
  intro seen hb back
  refine PW_sound env_ok ⟨_, fn_13, rfl⟩ 2000 _ _ (by kernel_rfl) ?_; simp only [go_sem, Nat.reduceBEq, ↓reduceIte, ↓reduceDIte, Nat.reduceAdd, Nat.reduceSub, Nat.reduceMul, Nat.reduceLeDiff, ← Bool.decide_and, ← Bool.decide_or, ← decide_not, Int.reduceLT, Int.reduceLE, Int.reduceToNat, Int.reduceNeg, by_nil]
  obtain ⟨y, hy⟩ : ∃ y, (spl 32 s)[0]? = some y := get_of_lt (by have := spl_ne 32 s; cases h : spl 32 s with | nil => exact absurd h this | cons => simp)
  have hhd : (spl 32 s).headD [] = y := by cases h : spl 32 s with | nil => rw [h] at hy; simp at hy | cons => rw [h] at hy; simpa using hy
  refine ⟨rfl, fun i hi x hx => ⟨rfl, x, ⟨i, by simp, hx⟩, y, hy, fun h1 => ?_, fun h1 => ?_⟩, fun h => ?_⟩
  · refine back _ (seen ++ [i]) (by refine ⟨?_, ?_, rfl, rfl⟩ <;> repeat' (first | exact trivial | (refine And.intro (Or.inl rfl) ?_) | (refine And.intro (Or.inr (Or.inl rfl)) ?_) | (refine And.intro (Or.inr (Or.inr (Or.inr ⟨rfl, rfl⟩))) ?_) | (refine And.intro (Or.inr (Or.inr (Or.inl ⟨rfl, rfl, trivial⟩))) ?_) | exact ⟨(by show (_ : Nat) < 1000000000; omega), rfl, rfl⟩ | rfl | (refine And.intro (Or.inl ?_) ?_) | (refine And.intro ?_ ?_))) (fun j hj z hz => ?_) (unseen_lt hi.1 hi.2)
    rcases List.mem_append.1 hj with hj | hj
    · exact hb j hj z hz
    · simp only [List.mem_singleton] at hj
      subst hj
      rw [hx] at hz
      injection hz with hz
      subst hz
      unfold tryF
      rw [if_neg (by rw [hhd]; exact h1)]
  · have hmem := List.mem_of_getElem? hx
    have hyes : ∀ e : Ev, tryF (spl 32 s) x = some e → (e, (0 : Int)) = parseS s := fun e h => (parse_hit hmem h).symm
    have hno : tryF (spl 32 s) x = none → ∀ j, j ∈ seen ++ [i] → ∀ z, formsD[j]? = some z → tryF (spl 32 s) z = none := fun h j hj z hz => by
      rcases List.mem_append.1 hj with hj | hj
      · exact hb j hj z hz
      · simp only [List.mem_singleton] at hj
        subst hj
        rw [hx] at hz
        injection hz with hz
        subst hz; exact h
    have ht : tryF (spl 32 s) x = if ((rd x.1 ((spl 32 s).drop 1)).2 && validE (x.1, (rd x.1 ((spl 32 s).drop 1)).1.2)) = true then some (x.1, (rd x.1 ((spl 32 s).drop 1)).1.2) else none := by
      unfold tryF
      rw [if_pos (by rw [hhd]; exact h1)]
    have hlt := unseen_lt hi.1 hi.2
    have k1 := c_rKeys ((spl 32 s).drop 1)
    have k2 := c_rPoints ((spl 32 s).drop 1)
    have k3 := c_rText ((spl 32 s).drop 1)
    have k4 := c_rNothing ((spl 32 s).drop 1)
    have k5 := c_rHold ((spl 32 s).drop 1)
    have k6 := c_rChoose ((spl 32 s).drop 1)
    have hlen : (1 : Int) ≤ ((spl 32 s).length : Nat) := by have := spl_ne 32 s; have : (spl 32 s).length ≠ 0 := fun h => this (List.eq_nil_of_length_eq_zero h); omega
    match i, hi.1 with
    | 0, _ =>
      injection hx with hx
      subst hx
      simp only [go_sem, Nat.reduceBEq, ↓reduceIte, ↓reduceDIte, Nat.reduceAdd, Nat.reduceSub, Nat.reduceMul, Nat.reduceLeDiff, ← Bool.decide_and, ← Bool.decide_or, ← decide_not, Int.reduceLT, Int.reduceLE, Int.reduceToNat, Int.reduceNeg, by_nil]
      refine ⟨hlen, _, k1, fun _ => ?_⟩
      have ht' : tryF (spl 32 s) _ = if ((rKeys ((spl 32 s).drop 1)).2 && validE (1, (rKeys ((spl 32 s).drop 1)).1.2)) = true then some (1, (rKeys ((spl 32 s).drop 1)).1.2) else none := ht
      generalize (rKeys ((spl 32 s).drop 1)) = r at ht' ⊢
      obtain ⟨e, b⟩ := r
      cases b
      · simp only [go_sem, Nat.reduceBEq, ↓reduceIte, ↓reduceDIte, Nat.reduceAdd, Nat.reduceSub, Nat.reduceMul, Nat.reduceLeDiff, ← Bool.decide_and, ← Bool.decide_or, ← decide_not, Int.reduceLT, Int.reduceLE, Int.reduceToNat, Int.reduceNeg, by_nil]
        exact back _ (seen ++ [0]) (by refine ⟨?_, ?_, rfl, rfl⟩ <;> repeat' (first | exact trivial | (refine And.intro (Or.inl rfl) ?_) | (refine And.intro (Or.inr (Or.inl rfl)) ?_) | (refine And.intro (Or.inr (Or.inr (Or.inr ⟨rfl, rfl⟩))) ?_) | (refine And.intro (Or.inr (Or.inr (Or.inl ⟨rfl, rfl, trivial⟩))) ?_) | exact ⟨(by show (_ : Nat) < 1000000000; omega), rfl, rfl⟩ | rfl | (refine And.intro (Or.inl ?_) ?_) | (refine And.intro ?_ ?_))) (hno (ht'.trans (if_neg (by simp)))) hlt
      · simp only [go_sem, Nat.reduceBEq, ↓reduceIte, ↓reduceDIte, Nat.reduceAdd, Nat.reduceSub, Nat.reduceMul, Nat.reduceLeDiff, ← Bool.decide_and, ← Bool.decide_or, ← decide_not, Int.reduceLT, Int.reduceLE, Int.reduceToNat, Int.reduceNeg, by_nil]
        refine ⟨_, (c_Valid _).dec, ?_⟩
        simp only [go_sem, Nat.reduceBEq, ↓reduceIte, ↓reduceDIte, Nat.reduceAdd, Nat.reduceSub, Nat.reduceMul, Nat.reduceLeDiff, ← Bool.decide_and, ← Bool.decide_or, ← decide_not, Int.reduceLT, Int.reduceLE, Int.reduceToNat, Int.reduceNeg, by_nil]
        exact ⟨fun h2 => hyes _ (ht'.trans (if_pos (by simpa using h2))), fun h2 => back _ (seen ++ [0]) (by refine ⟨?_, ?_, rfl, rfl⟩ <;> repeat' (first | exact trivial | (refine And.intro (Or.inl rfl) ?_) | (refine And.intro (Or.inr (Or.inl rfl)) ?_) | (refine And.intro (Or.inr (Or.inr (Or.inr ⟨rfl, rfl⟩))) ?_) | (refine And.intro (Or.inr (Or.inr (Or.inl ⟨rfl, rfl, trivial⟩))) ?_) | exact ⟨(by show (_ : Nat) < 1000000000; omega), rfl, rfl⟩ | rfl | (refine And.intro (Or.inl ?_) ?_) | (refine And.intro ?_ ?_))) (hno (ht'.trans (if_neg (by simpa using h2)))) hlt⟩
    | 1, _ =>
      injection hx with hx
      subst hx
      simp only [go_sem, Nat.reduceBEq, ↓reduceIte, ↓reduceDIte, Nat.reduceAdd, Nat.reduceSub, Nat.reduceMul, Nat.reduceLeDiff, ← Bool.decide_and, ← Bool.decide_or, ← decide_not, Int.reduceLT, Int.reduceLE, Int.reduceToNat, Int.reduceNeg, by_nil]
      refine ⟨hlen, _, k1, fun _ => ?_⟩
      have ht' : tryF (spl 32 s) _ = if ((rKeys ((spl 32 s).drop 1)).2 && validE (2, (rKeys ((spl 32 s).drop 1)).1.2)) = true then some (2, (rKeys ((spl 32 s).drop 1)).1.2) else none := ht
      generalize (rKeys ((spl 32 s).drop 1)) = r at ht' ⊢
      obtain ⟨e, b⟩ := r
      cases b
      · simp only [go_sem, Nat.reduceBEq, ↓reduceIte, ↓reduceDIte, Nat.reduceAdd, Nat.reduceSub, Nat.reduceMul, Nat.reduceLeDiff, ← Bool.decide_and, ← Bool.decide_or, ← decide_not, Int.reduceLT, Int.reduceLE, Int.reduceToNat, Int.reduceNeg, by_nil]
        exact back _ (seen ++ [1]) (by refine ⟨?_, ?_, rfl, rfl⟩ <;> repeat' (first | exact trivial | (refine And.intro (Or.inl rfl) ?_) | (refine And.intro (Or.inr (Or.inl rfl)) ?_) | (refine And.intro (Or.inr (Or.inr (Or.inr ⟨rfl, rfl⟩))) ?_) | (refine And.intro (Or.inr (Or.inr (Or.inl ⟨rfl, rfl, trivial⟩))) ?_) | exact ⟨(by show (_ : Nat) < 1000000000; omega), rfl, rfl⟩ | rfl | (refine And.intro (Or.inl ?_) ?_) | (refine And.intro ?_ ?_))) (hno (ht'.trans (if_neg (by simp)))) hlt
      · simp only [go_sem, Nat.reduceBEq, ↓reduceIte, ↓reduceDIte, Nat.reduceAdd, Nat.reduceSub, Nat.reduceMul, Nat.reduceLeDiff, ← Bool.decide_and, ← Bool.decide_or, ← decide_not, Int.reduceLT, Int.reduceLE, Int.reduceToNat, Int.reduceNeg, by_nil]
        refine ⟨_, (c_Valid _).dec, ?_⟩
        simp only [go_sem, Nat.reduceBEq, ↓reduceIte, ↓reduceDIte, Nat.reduceAdd, Nat.reduceSub, Nat.reduceMul, Nat.reduceLeDiff, ← Bool.decide_and, ← Bool.decide_or, ← decide_not, Int.reduceLT, Int.reduceLE, Int.reduceToNat, Int.reduceNeg, by_nil]
        exact ⟨fun h2 => hyes _ (ht'.trans (if_pos (by simpa using h2))), fun h2 => back _ (seen ++ [1]) (by refine ⟨?_, ?_, rfl, rfl⟩ <;> repeat' (first | exact trivial | (refine And.intro (Or.inl rfl) ?_) | (refine And.intro (Or.inr (Or.inl rfl)) ?_) | (refine And.intro (Or.inr (Or.inr (Or.inr ⟨rfl, rfl⟩))) ?_) | (refine And.intro (Or.inr (Or.inr (Or.inl ⟨rfl, rfl, trivial⟩))) ?_) | exact ⟨(by show (_ : Nat) < 1000000000; omega), rfl, rfl⟩ | rfl | (refine And.intro (Or.inl ?_) ?_) | (refine And.intro ?_ ?_))) (hno (ht'.trans (if_neg (by simpa using h2)))) hlt⟩
    | 2, _ =>
      injection hx with hx
      subst hx
      simp only [go_sem, Nat.reduceBEq, ↓reduceIte, ↓reduceDIte, Nat.reduceAdd, Nat.reduceSub, Nat.reduceMul, Nat.reduceLeDiff, ← Bool.decide_and, ← Bool.decide_or, ← decide_not, Int.reduceLT, Int.reduceLE, Int.reduceToNat, Int.reduceNeg, by_nil]
      refine ⟨hlen, _, k2, fun _ => ?_⟩
      have ht' : tryF (spl 32 s) _ = if ((rPoints ((spl 32 s).drop 1)).2 && validE (3, (rPoints ((spl 32 s).drop 1)).1.2)) = true then some (3, (rPoints ((spl 32 s).drop 1)).1.2) else none := ht
      generalize (rPoints ((spl 32 s).drop 1)) = r at ht' ⊢
      obtain ⟨e, b⟩ := r
      cases b
      · simp only [go_sem, Nat.reduceBEq, ↓reduceIte, ↓reduceDIte, Nat.reduceAdd, Nat.reduceSub, Nat.reduceMul, Nat.reduceLeDiff, ← Bool.decide_and, ← Bool.decide_or, ← decide_not, Int.reduceLT, Int.reduceLE, Int.reduceToNat, Int.reduceNeg, by_nil]
        exact back _ (seen ++ [2]) (by refine ⟨?_, ?_, rfl, rfl⟩ <;> repeat' (first | exact trivial | (refine And.intro (Or.inl rfl) ?_) | (refine And.intro (Or.inr (Or.inl rfl)) ?_) | (refine And.intro (Or.inr (Or.inr (Or.inr ⟨rfl, rfl⟩))) ?_) | (refine And.intro (Or.inr (Or.inr (Or.inl ⟨rfl, rfl, trivial⟩))) ?_) | exact ⟨(by show (_ : Nat) < 1000000000; omega), rfl, rfl⟩ | rfl | (refine And.intro (Or.inl ?_) ?_) | (refine And.intro ?_ ?_))) (hno (ht'.trans (if_neg (by simp)))) hlt
      · simp only [go_sem, Nat.reduceBEq, ↓reduceIte, ↓reduceDIte, Nat.reduceAdd, Nat.reduceSub, Nat.reduceMul, Nat.reduceLeDiff, ← Bool.decide_and, ← Bool.decide_or, ← decide_not, Int.reduceLT, Int.reduceLE, Int.reduceToNat, Int.reduceNeg, by_nil]
        refine ⟨_, (c_Valid _).dec, ?_⟩
        simp only [go_sem, Nat.reduceBEq, ↓reduceIte, ↓reduceDIte, Nat.reduceAdd, Nat.reduceSub, Nat.reduceMul, Nat.reduceLeDiff, ← Bool.decide_and, ← Bool.decide_or, ← decide_not, Int.reduceLT, Int.reduceLE, Int.reduceToNat, Int.reduceNeg, by_nil]
        exact ⟨fun h2 => hyes _ (ht'.trans (if_pos (by simpa using h2))), fun h2 => back _ (seen ++ [2]) (by refine ⟨?_, ?_, rfl, rfl⟩ <;> repeat' (first | exact trivial | (refine And.intro (Or.inl rfl) ?_) | (refine And.intro (Or.inr (Or.inl rfl)) ?_) | (refine And.intro (Or.inr (Or.inr (Or.inr ⟨rfl, rfl⟩))) ?_) | (refine And.intro (Or.inr (Or.inr (Or.inl ⟨rfl, rfl, trivial⟩))) ?_) | exact ⟨(by show (_ : Nat) < 1000000000; omega), rfl, rfl⟩ | rfl | (refine And.intro (Or.inl ?_) ?_) | (refine And.intro ?_ ?_))) (hno (ht'.trans (if_neg (by simpa using h2)))) hlt⟩
    | 3, _ =>
      injection hx with hx
      subst hx
      simp only [go_sem, Nat.reduceBEq, ↓reduceIte, ↓reduceDIte, Nat.reduceAdd, Nat.reduceSub, Nat.reduceMul, Nat.reduceLeDiff, ← Bool.decide_and, ← Bool.decide_or, ← decide_not, Int.reduceLT, Int.reduceLE, Int.reduceToNat, Int.reduceNeg, by_nil]
      refine ⟨hlen, _, k2, fun _ => ?_⟩
      have ht' : tryF (spl 32 s) _ = if ((rPoints ((spl 32 s).drop 1)).2 && validE (4, (rPoints ((spl 32 s).drop 1)).1.2)) = true then some (4, (rPoints ((spl 32 s).drop 1)).1.2) else none := ht
      generalize (rPoints ((spl 32 s).drop 1)) = r at ht' ⊢
      obtain ⟨e, b⟩ := r
      cases b
      · simp only [go_sem, Nat.reduceBEq, ↓reduceIte, ↓reduceDIte, Nat.reduceAdd, Nat.reduceSub, Nat.reduceMul, Nat.reduceLeDiff, ← Bool.decide_and, ← Bool.decide_or, ← decide_not, Int.reduceLT, Int.reduceLE, Int.reduceToNat, Int.reduceNeg, by_nil]
        exact back _ (seen ++ [3]) (by refine ⟨?_, ?_, rfl, rfl⟩ <;> repeat' (first | exact trivial | (refine And.intro (Or.inl rfl) ?_) | (refine And.intro (Or.inr (Or.inl rfl)) ?_) | (refine And.intro (Or.inr (Or.inr (Or.inr ⟨rfl, rfl⟩))) ?_) | (refine And.intro (Or.inr (Or.inr (Or.inl ⟨rfl, rfl, trivial⟩))) ?_) | exact ⟨(by show (_ : Nat) < 1000000000; omega), rfl, rfl⟩ | rfl | (refine And.intro (Or.inl ?_) ?_) | (refine And.intro ?_ ?_))) (hno (ht'.trans (if_neg (by simp)))) hlt
      · simp only [go_sem, Nat.reduceBEq, ↓reduceIte, ↓reduceDIte, Nat.reduceAdd, Nat.reduceSub, Nat.reduceMul, Nat.reduceLeDiff, ← Bool.decide_and, ← Bool.decide_or, ← decide_not, Int.reduceLT, Int.reduceLE, Int.reduceToNat, Int.reduceNeg, by_nil]
        refine ⟨_, (c_Valid _).dec, ?_⟩
        simp only [go_sem, Nat.reduceBEq, ↓reduceIte, ↓reduceDIte, Nat.reduceAdd, Nat.reduceSub, Nat.reduceMul, Nat.reduceLeDiff, ← Bool.decide_and, ← Bool.decide_or, ← decide_not, Int.reduceLT, Int.reduceLE, Int.reduceToNat, Int.reduceNeg, by_nil]
        exact ⟨fun h2 => hyes _ (ht'.trans (if_pos (by simpa using h2))), fun h2 => back _ (seen ++ [3]) (by refine ⟨?_, ?_, rfl, rfl⟩ <;> repeat' (first | exact trivial | (refine And.intro (Or.inl rfl) ?_) | (refine And.intro (Or.inr (Or.inl rfl)) ?_) | (refine And.intro (Or.inr (Or.inr (Or.inr ⟨rfl, rfl⟩))) ?_) | (refine And.intro (Or.inr (Or.inr (Or.inl ⟨rfl, rfl, trivial⟩))) ?_) | exact ⟨(by show (_ : Nat) < 1000000000; omega), rfl, rfl⟩ | rfl | (refine And.intro (Or.inl ?_) ?_) | (refine And.intro ?_ ?_))) (hno (ht'.trans (if_neg (by simpa using h2)))) hlt⟩
    | 4, _ =>
      injection hx with hx
      subst hx
      simp only [go_sem, Nat.reduceBEq, ↓reduceIte, ↓reduceDIte, Nat.reduceAdd, Nat.reduceSub, Nat.reduceMul, Nat.reduceLeDiff, ← Bool.decide_and, ← Bool.decide_or, ← decide_not, Int.reduceLT, Int.reduceLE, Int.reduceToNat, Int.reduceNeg, by_nil]
      refine ⟨hlen, _, k3, fun _ => ?_⟩
      have ht' : tryF (spl 32 s) _ = if ((rText ((spl 32 s).drop 1)).2 && validE (5, (rText ((spl 32 s).drop 1)).1.2)) = true then some (5, (rText ((spl 32 s).drop 1)).1.2) else none := ht
      generalize (rText ((spl 32 s).drop 1)) = r at ht' ⊢
      obtain ⟨e, b⟩ := r
      cases b
      · simp only [go_sem, Nat.reduceBEq, ↓reduceIte, ↓reduceDIte, Nat.reduceAdd, Nat.reduceSub, Nat.reduceMul, Nat.reduceLeDiff, ← Bool.decide_and, ← Bool.decide_or, ← decide_not, Int.reduceLT, Int.reduceLE, Int.reduceToNat, Int.reduceNeg, by_nil]
        exact back _ (seen ++ [4]) (by refine ⟨?_, ?_, rfl, rfl⟩ <;> repeat' (first | exact trivial | (refine And.intro (Or.inl rfl) ?_) | (refine And.intro (Or.inr (Or.inl rfl)) ?_) | (refine And.intro (Or.inr (Or.inr (Or.inr ⟨rfl, rfl⟩))) ?_) | (refine And.intro (Or.inr (Or.inr (Or.inl ⟨rfl, rfl, trivial⟩))) ?_) | exact ⟨(by show (_ : Nat) < 1000000000; omega), rfl, rfl⟩ | rfl | (refine And.intro (Or.inl ?_) ?_) | (refine And.intro ?_ ?_))) (hno (ht'.trans (if_neg (by simp)))) hlt
      · simp only [go_sem, Nat.reduceBEq, ↓reduceIte, ↓reduceDIte, Nat.reduceAdd, Nat.reduceSub, Nat.reduceMul, Nat.reduceLeDiff, ← Bool.decide_and, ← Bool.decide_or, ← decide_not, Int.reduceLT, Int.reduceLE, Int.reduceToNat, Int.reduceNeg, by_nil]
        refine ⟨_, (c_Valid _).dec, ?_⟩
        simp only [go_sem, Nat.reduceBEq, ↓reduceIte, ↓reduceDIte, Nat.reduceAdd, Nat.reduceSub, Nat.reduceMul, Nat.reduceLeDiff, ← Bool.decide_and, ← Bool.decide_or, ← decide_not, Int.reduceLT, Int.reduceLE, Int.reduceToNat, Int.reduceNeg, by_nil]
        exact ⟨fun h2 => hyes _ (ht'.trans (if_pos (by simpa using h2))), fun h2 => back _ (seen ++ [4]) (by refine ⟨?_, ?_, rfl, rfl⟩ <;> repeat' (first | exact trivial | (refine And.intro (Or.inl rfl) ?_) | (refine And.intro (Or.inr (Or.inl rfl)) ?_) | (refine And.intro (Or.inr (Or.inr (Or.inr ⟨rfl, rfl⟩))) ?_) | (refine And.intro (Or.inr (Or.inr (Or.inl ⟨rfl, rfl, trivial⟩))) ?_) | exact ⟨(by show (_ : Nat) < 1000000000; omega), rfl, rfl⟩ | rfl | (refine And.intro (Or.inl ?_) ?_) | (refine And.intro ?_ ?_))) (hno (ht'.trans (if_neg (by simpa using h2)))) hlt⟩
    | 5, _ =>
      injection hx with hx
      subst hx
      simp only [go_sem, Nat.reduceBEq, ↓reduceIte, ↓reduceDIte, Nat.reduceAdd, Nat.reduceSub, Nat.reduceMul, Nat.reduceLeDiff, ← Bool.decide_and, ← Bool.decide_or, ← decide_not, Int.reduceLT, Int.reduceLE, Int.reduceToNat, Int.reduceNeg, by_nil]
      refine ⟨hlen, _, k4, fun _ => ?_⟩
      have ht' : tryF (spl 32 s) _ = if (((ev0, decide (((spl 32 s).drop 1).length = 0)) : Ev × Bool).2 && validE (6, ((ev0, decide (((spl 32 s).drop 1).length = 0)) : Ev × Bool).1.2)) = true then some (6, ((ev0, decide (((spl 32 s).drop 1).length = 0)) : Ev × Bool).1.2) else none := ht
      generalize ((ev0, decide (((spl 32 s).drop 1).length = 0)) : Ev × Bool) = r at ht' ⊢
      obtain ⟨e, b⟩ := r
      cases b
      · simp only [go_sem, Nat.reduceBEq, ↓reduceIte, ↓reduceDIte, Nat.reduceAdd, Nat.reduceSub, Nat.reduceMul, Nat.reduceLeDiff, ← Bool.decide_and, ← Bool.decide_or, ← decide_not, Int.reduceLT, Int.reduceLE, Int.reduceToNat, Int.reduceNeg, by_nil]
        exact back _ (seen ++ [5]) (by refine ⟨?_, ?_, rfl, rfl⟩ <;> repeat' (first | exact trivial | (refine And.intro (Or.inl rfl) ?_) | (refine And.intro (Or.inr (Or.inl rfl)) ?_) | (refine And.intro (Or.inr (Or.inr (Or.inr ⟨rfl, rfl⟩))) ?_) | (refine And.intro (Or.inr (Or.inr (Or.inl ⟨rfl, rfl, trivial⟩))) ?_) | exact ⟨(by show (_ : Nat) < 1000000000; omega), rfl, rfl⟩ | rfl | (refine And.intro (Or.inl ?_) ?_) | (refine And.intro ?_ ?_))) (hno (ht'.trans (if_neg (by simp)))) hlt
      · simp only [go_sem, Nat.reduceBEq, ↓reduceIte, ↓reduceDIte, Nat.reduceAdd, Nat.reduceSub, Nat.reduceMul, Nat.reduceLeDiff, ← Bool.decide_and, ← Bool.decide_or, ← decide_not, Int.reduceLT, Int.reduceLE, Int.reduceToNat, Int.reduceNeg, by_nil]
        refine ⟨_, (c_Valid _).dec, ?_⟩
        simp only [go_sem, Nat.reduceBEq, ↓reduceIte, ↓reduceDIte, Nat.reduceAdd, Nat.reduceSub, Nat.reduceMul, Nat.reduceLeDiff, ← Bool.decide_and, ← Bool.decide_or, ← decide_not, Int.reduceLT, Int.reduceLE, Int.reduceToNat, Int.reduceNeg, by_nil]
        exact ⟨fun h2 => hyes _ (ht'.trans (if_pos (by simpa using h2))), fun h2 => back _ (seen ++ [5]) (by refine ⟨?_, ?_, rfl, rfl⟩ <;> repeat' (first | exact trivial | (refine And.intro (Or.inl rfl) ?_) | (refine And.intro (Or.inr (Or.inl rfl)) ?_) | (refine And.intro (Or.inr (Or.inr (Or.inr ⟨rfl, rfl⟩))) ?_) | (refine And.intro (Or.inr (Or.inr (Or.inl ⟨rfl, rfl, trivial⟩))) ?_) | exact ⟨(by show (_ : Nat) < 1000000000; omega), rfl, rfl⟩ | rfl | (refine And.intro (Or.inl ?_) ?_) | (refine And.intro ?_ ?_))) (hno (ht'.trans (if_neg (by simpa using h2)))) hlt⟩
    | 6, _ =>
      injection hx with hx
      subst hx
      simp only [go_sem, Nat.reduceBEq, ↓reduceIte, ↓reduceDIte, Nat.reduceAdd, Nat.reduceSub, Nat.reduceMul, Nat.reduceLeDiff, ← Bool.decide_and, ← Bool.decide_or, ← decide_not, Int.reduceLT, Int.reduceLE, Int.reduceToNat, Int.reduceNeg, by_nil]
      refine ⟨hlen, _, k4, fun _ => ?_⟩
      have ht' : tryF (spl 32 s) _ = if (((ev0, decide (((spl 32 s).drop 1).length = 0)) : Ev × Bool).2 && validE (7, ((ev0, decide (((spl 32 s).drop 1).length = 0)) : Ev × Bool).1.2)) = true then some (7, ((ev0, decide (((spl 32 s).drop 1).length = 0)) : Ev × Bool).1.2) else none := ht
      generalize ((ev0, decide (((spl 32 s).drop 1).length = 0)) : Ev × Bool) = r at ht' ⊢
      obtain ⟨e, b⟩ := r
      cases b
      · simp only [go_sem, Nat.reduceBEq, ↓reduceIte, ↓reduceDIte, Nat.reduceAdd, Nat.reduceSub, Nat.reduceMul, Nat.reduceLeDiff, ← Bool.decide_and, ← Bool.decide_or, ← decide_not, Int.reduceLT, Int.reduceLE, Int.reduceToNat, Int.reduceNeg, by_nil]
        exact back _ (seen ++ [6]) (by refine ⟨?_, ?_, rfl, rfl⟩ <;> repeat' (first | exact trivial | (refine And.intro (Or.inl rfl) ?_) | (refine And.intro (Or.inr (Or.inl rfl)) ?_) | (refine And.intro (Or.inr (Or.inr (Or.inr ⟨rfl, rfl⟩))) ?_) | (refine And.intro (Or.inr (Or.inr (Or.inl ⟨rfl, rfl, trivial⟩))) ?_) | exact ⟨(by show (_ : Nat) < 1000000000; omega), rfl, rfl⟩ | rfl | (refine And.intro (Or.inl ?_) ?_) | (refine And.intro ?_ ?_))) (hno (ht'.trans (if_neg (by simp)))) hlt
      · simp only [go_sem, Nat.reduceBEq, ↓reduceIte, ↓reduceDIte, Nat.reduceAdd, Nat.reduceSub, Nat.reduceMul, Nat.reduceLeDiff, ← Bool.decide_and, ← Bool.decide_or, ← decide_not, Int.reduceLT, Int.reduceLE, Int.reduceToNat, Int.reduceNeg, by_nil]
        refine ⟨_, (c_Valid _).dec, ?_⟩
        simp only [go_sem, Nat.reduceBEq, ↓reduceIte, ↓reduceDIte, Nat.reduceAdd, Nat.reduceSub, Nat.reduceMul, Nat.reduceLeDiff, ← Bool.decide_and, ← Bool.decide_or, ← decide_not, Int.reduceLT, Int.reduceLE, Int.reduceToNat, Int.reduceNeg, by_nil]
        exact ⟨fun h2 => hyes _ (ht'.trans (if_pos (by simpa using h2))), fun h2 => back _ (seen ++ [6]) (by refine ⟨?_, ?_, rfl, rfl⟩ <;> repeat' (first | exact trivial | (refine And.intro (Or.inl rfl) ?_) | (refine And.intro (Or.inr (Or.inl rfl)) ?_) | (refine And.intro (Or.inr (Or.inr (Or.inr ⟨rfl, rfl⟩))) ?_) | (refine And.intro (Or.inr (Or.inr (Or.inl ⟨rfl, rfl, trivial⟩))) ?_) | exact ⟨(by show (_ : Nat) < 1000000000; omega), rfl, rfl⟩ | rfl | (refine And.intro (Or.inl ?_) ?_) | (refine And.intro ?_ ?_))) (hno (ht'.trans (if_neg (by simpa using h2)))) hlt⟩
    | 7, _ =>
      injection hx with hx
      subst hx
      simp only [go_sem, Nat.reduceBEq, ↓reduceIte, ↓reduceDIte, Nat.reduceAdd, Nat.reduceSub, Nat.reduceMul, Nat.reduceLeDiff, ← Bool.decide_and, ← Bool.decide_or, ← decide_not, Int.reduceLT, Int.reduceLE, Int.reduceToNat, Int.reduceNeg, by_nil]
      refine ⟨hlen, _, k4, fun _ => ?_⟩
      have ht' : tryF (spl 32 s) _ = if (((ev0, decide (((spl 32 s).drop 1).length = 0)) : Ev × Bool).2 && validE (8, ((ev0, decide (((spl 32 s).drop 1).length = 0)) : Ev × Bool).1.2)) = true then some (8, ((ev0, decide (((spl 32 s).drop 1).length = 0)) : Ev × Bool).1.2) else none := ht
      generalize ((ev0, decide (((spl 32 s).drop 1).length = 0)) : Ev × Bool) = r at ht' ⊢
      obtain ⟨e, b⟩ := r
      cases b
      · simp only [go_sem, Nat.reduceBEq, ↓reduceIte, ↓reduceDIte, Nat.reduceAdd, Nat.reduceSub, Nat.reduceMul, Nat.reduceLeDiff, ← Bool.decide_and, ← Bool.decide_or, ← decide_not, Int.reduceLT, Int.reduceLE, Int.reduceToNat, Int.reduceNeg, by_nil]
        exact back _ (seen ++ [7]) (by refine ⟨?_, ?_, rfl, rfl⟩ <;> repeat' (first | exact trivial | (refine And.intro (Or.inl rfl) ?_) | (refine And.intro (Or.inr (Or.inl rfl)) ?_) | (refine And.intro (Or.inr (Or.inr (Or.inr ⟨rfl, rfl⟩))) ?_) | (refine And.intro (Or.inr (Or.inr (Or.inl ⟨rfl, rfl, trivial⟩))) ?_) | exact ⟨(by show (_ : Nat) < 1000000000; omega), rfl, rfl⟩ | rfl | (refine And.intro (Or.inl ?_) ?_) | (refine And.intro ?_ ?_))) (hno (ht'.trans (if_neg (by simp)))) hlt
      · simp only [go_sem, Nat.reduceBEq, ↓reduceIte, ↓reduceDIte, Nat.reduceAdd, Nat.reduceSub, Nat.reduceMul, Nat.reduceLeDiff, ← Bool.decide_and, ← Bool.decide_or, ← decide_not, Int.reduceLT, Int.reduceLE, Int.reduceToNat, Int.reduceNeg, by_nil]
        refine ⟨_, (c_Valid _).dec, ?_⟩
        simp only [go_sem, Nat.reduceBEq, ↓reduceIte, ↓reduceDIte, Nat.reduceAdd, Nat.reduceSub, Nat.reduceMul, Nat.reduceLeDiff, ← Bool.decide_and, ← Bool.decide_or, ← decide_not, Int.reduceLT, Int.reduceLE, Int.reduceToNat, Int.reduceNeg, by_nil]
        exact ⟨fun h2 => hyes _ (ht'.trans (if_pos (by simpa using h2))), fun h2 => back _ (seen ++ [7]) (by refine ⟨?_, ?_, rfl, rfl⟩ <;> repeat' (first | exact trivial | (refine And.intro (Or.inl rfl) ?_) | (refine And.intro (Or.inr (Or.inl rfl)) ?_) | (refine And.intro (Or.inr (Or.inr (Or.inr ⟨rfl, rfl⟩))) ?_) | (refine And.intro (Or.inr (Or.inr (Or.inl ⟨rfl, rfl, trivial⟩))) ?_) | exact ⟨(by show (_ : Nat) < 1000000000; omega), rfl, rfl⟩ | rfl | (refine And.intro (Or.inl ?_) ?_) | (refine And.intro ?_ ?_))) (hno (ht'.trans (if_neg (by simpa using h2)))) hlt⟩
    | 8, _ =>
      injection hx with hx
      subst hx
      simp only [go_sem, Nat.reduceBEq, ↓reduceIte, ↓reduceDIte, Nat.reduceAdd, Nat.reduceSub, Nat.reduceMul, Nat.reduceLeDiff, ← Bool.decide_and, ← Bool.decide_or, ← decide_not, Int.reduceLT, Int.reduceLE, Int.reduceToNat, Int.reduceNeg, by_nil]
      refine ⟨hlen, _, k5, fun _ => ?_⟩
      have ht' : tryF (spl 32 s) _ = if ((rHold ((spl 32 s).drop 1)).2 && validE (9, (rHold ((spl 32 s).drop 1)).1.2)) = true then some (9, (rHold ((spl 32 s).drop 1)).1.2) else none := ht
      generalize (rHold ((spl 32 s).drop 1)) = r at ht' ⊢
      obtain ⟨e, b⟩ := r
      cases b
      · simp only [go_sem, Nat.reduceBEq, ↓reduceIte, ↓reduceDIte, Nat.reduceAdd, Nat.reduceSub, Nat.reduceMul, Nat.reduceLeDiff, ← Bool.decide_and, ← Bool.decide_or, ← decide_not, Int.reduceLT, Int.reduceLE, Int.reduceToNat, Int.reduceNeg, by_nil]
        exact back _ (seen ++ [8]) (by refine ⟨?_, ?_, rfl, rfl⟩ <;> repeat' (first | exact trivial | (refine And.intro (Or.inl rfl) ?_) | (refine And.intro (Or.inr (Or.inl rfl)) ?_) | (refine And.intro (Or.inr (Or.inr (Or.inr ⟨rfl, rfl⟩))) ?_) | (refine And.intro (Or.inr (Or.inr (Or.inl ⟨rfl, rfl, trivial⟩))) ?_) | exact ⟨(by show (_ : Nat) < 1000000000; omega), rfl, rfl⟩ | rfl | (refine And.intro (Or.inl ?_) ?_) | (refine And.intro ?_ ?_))) (hno (ht'.trans (if_neg (by simp)))) hlt
      · simp only [go_sem, Nat.reduceBEq, ↓reduceIte, ↓reduceDIte, Nat.reduceAdd, Nat.reduceSub, Nat.reduceMul, Nat.reduceLeDiff, ← Bool.decide_and, ← Bool.decide_or, ← decide_not, Int.reduceLT, Int.reduceLE, Int.reduceToNat, Int.reduceNeg, by_nil]
        refine ⟨_, (c_Valid _).dec, ?_⟩
        simp only [go_sem, Nat.reduceBEq, ↓reduceIte, ↓reduceDIte, Nat.reduceAdd, Nat.reduceSub, Nat.reduceMul, Nat.reduceLeDiff, ← Bool.decide_and, ← Bool.decide_or, ← decide_not, Int.reduceLT, Int.reduceLE, Int.reduceToNat, Int.reduceNeg, by_nil]
        exact ⟨fun h2 => hyes _ (ht'.trans (if_pos (by simpa using h2))), fun h2 => back _ (seen ++ [8]) (by refine ⟨?_, ?_, rfl, rfl⟩ <;> repeat' (first | exact trivial | (refine And.intro (Or.inl rfl) ?_) | (refine And.intro (Or.inr (Or.inl rfl)) ?_) | (refine And.intro (Or.inr (Or.inr (Or.inr ⟨rfl, rfl⟩))) ?_) | (refine And.intro (Or.inr (Or.inr (Or.inl ⟨rfl, rfl, trivial⟩))) ?_) | exact ⟨(by show (_ : Nat) < 1000000000; omega), rfl, rfl⟩ | rfl | (refine And.intro (Or.inl ?_) ?_) | (refine And.intro ?_ ?_))) (hno (ht'.trans (if_neg (by simpa using h2)))) hlt⟩
    | 9, _ =>
      injection hx with hx
      subst hx
      simp only [go_sem, Nat.reduceBEq, ↓reduceIte, ↓reduceDIte, Nat.reduceAdd, Nat.reduceSub, Nat.reduceMul, Nat.reduceLeDiff, ← Bool.decide_and, ← Bool.decide_or, ← decide_not, Int.reduceLT, Int.reduceLE, Int.reduceToNat, Int.reduceNeg, by_nil]
      refine ⟨hlen, _, k6, fun _ => ?_⟩
      have ht' : tryF (spl 32 s) _ = if ((rChoose ((spl 32 s).drop 1)).2 && validE (10, (rChoose ((spl 32 s).drop 1)).1.2)) = true then some (10, (rChoose ((spl 32 s).drop 1)).1.2) else none := ht
      generalize (rChoose ((spl 32 s).drop 1)) = r at ht' ⊢
      obtain ⟨e, b⟩ := r
      cases b
      · simp only [go_sem, Nat.reduceBEq, ↓reduceIte, ↓reduceDIte, Nat.reduceAdd, Nat.reduceSub, Nat.reduceMul, Nat.reduceLeDiff, ← Bool.decide_and, ← Bool.decide_or, ← decide_not, Int.reduceLT, Int.reduceLE, Int.reduceToNat, Int.reduceNeg, by_nil]
        exact back _ (seen ++ [9]) (by refine ⟨?_, ?_, rfl, rfl⟩ <;> repeat' (first | exact trivial | (refine And.intro (Or.inl rfl) ?_) | (refine And.intro (Or.inr (Or.inl rfl)) ?_) | (refine And.intro (Or.inr (Or.inr (Or.inr ⟨rfl, rfl⟩))) ?_) | (refine And.intro (Or.inr (Or.inr (Or.inl ⟨rfl, rfl, trivial⟩))) ?_) | exact ⟨(by show (_ : Nat) < 1000000000; omega), rfl, rfl⟩ | rfl | (refine And.intro (Or.inl ?_) ?_) | (refine And.intro ?_ ?_))) (hno (ht'.trans (if_neg (by simp)))) hlt
      · simp only [go_sem, Nat.reduceBEq, ↓reduceIte, ↓reduceDIte, Nat.reduceAdd, Nat.reduceSub, Nat.reduceMul, Nat.reduceLeDiff, ← Bool.decide_and, ← Bool.decide_or, ← decide_not, Int.reduceLT, Int.reduceLE, Int.reduceToNat, Int.reduceNeg, by_nil]
        refine ⟨_, (c_Valid _).dec, ?_⟩
        simp only [go_sem, Nat.reduceBEq, ↓reduceIte, ↓reduceDIte, Nat.reduceAdd, Nat.reduceSub, Nat.reduceMul, Nat.reduceLeDiff, ← Bool.decide_and, ← Bool.decide_or, ← decide_not, Int.reduceLT, Int.reduceLE, Int.reduceToNat, Int.reduceNeg, by_nil]
        exact ⟨fun h2 => hyes _ (ht'.trans (if_pos (by simpa using h2))), fun h2 => back _ (seen ++ [9]) (by refine ⟨?_, ?_, rfl, rfl⟩ <;> repeat' (first | exact trivial | (refine And.intro (Or.inl rfl) ?_) | (refine And.intro (Or.inr (Or.inl rfl)) ?_) | (refine And.intro (Or.inr (Or.inr (Or.inr ⟨rfl, rfl⟩))) ?_) | (refine And.intro (Or.inr (Or.inr (Or.inl ⟨rfl, rfl, trivial⟩))) ?_) | exact ⟨(by show (_ : Nat) < 1000000000; omega), rfl, rfl⟩ | rfl | (refine And.intro (Or.inl ?_) ?_) | (refine And.intro ?_ ?_))) (hno (ht'.trans (if_neg (by simpa using h2)))) hlt⟩
    | 10, _ =>
      injection hx with hx
      subst hx
      simp only [go_sem, Nat.reduceBEq, ↓reduceIte, ↓reduceDIte, Nat.reduceAdd, Nat.reduceSub, Nat.reduceMul, Nat.reduceLeDiff, ← Bool.decide_and, ← Bool.decide_or, ← decide_not, Int.reduceLT, Int.reduceLE, Int.reduceToNat, Int.reduceNeg, by_nil]
      refine ⟨hlen, _, k4, fun _ => ?_⟩
      have ht' : tryF (spl 32 s) _ = if (((ev0, decide (((spl 32 s).drop 1).length = 0)) : Ev × Bool).2 && validE (11, ((ev0, decide (((spl 32 s).drop 1).length = 0)) : Ev × Bool).1.2)) = true then some (11, ((ev0, decide (((spl 32 s).drop 1).length = 0)) : Ev × Bool).1.2) else none := ht
      generalize ((ev0, decide (((spl 32 s).drop 1).length = 0)) : Ev × Bool) = r at ht' ⊢
      obtain ⟨e, b⟩ := r
      cases b
      · simp only [go_sem, Nat.reduceBEq, ↓reduceIte, ↓reduceDIte, Nat.reduceAdd, Nat.reduceSub, Nat.reduceMul, Nat.reduceLeDiff, ← Bool.decide_and, ← Bool.decide_or, ← decide_not, Int.reduceLT, Int.reduceLE, Int.reduceToNat, Int.reduceNeg, by_nil]
        exact back _ (seen ++ [10]) (by refine ⟨?_, ?_, rfl, rfl⟩ <;> repeat' (first | exact trivial | (refine And.intro (Or.inl rfl) ?_) | (refine And.intro (Or.inr (Or.inl rfl)) ?_) | (refine And.intro (Or.inr (Or.inr (Or.inr ⟨rfl, rfl⟩))) ?_) | (refine And.intro (Or.inr (Or.inr (Or.inl ⟨rfl, rfl, trivial⟩))) ?_) | exact ⟨(by show (_ : Nat) < 1000000000; omega), rfl, rfl⟩ | rfl | (refine And.intro (Or.inl ?_) ?_) | (refine And.intro ?_ ?_))) (hno (ht'.trans (if_neg (by simp)))) hlt
      · simp only [go_sem, Nat.reduceBEq, ↓reduceIte, ↓reduceDIte, Nat.reduceAdd, Nat.reduceSub, Nat.reduceMul, Nat.reduceLeDiff, ← Bool.decide_and, ← Bool.decide_or, ← decide_not, Int.reduceLT, Int.reduceLE, Int.reduceToNat, Int.reduceNeg, by_nil]
        refine ⟨_, (c_Valid _).dec, ?_⟩
        simp only [go_sem, Nat.reduceBEq, ↓reduceIte, ↓reduceDIte, Nat.reduceAdd, Nat.reduceSub, Nat.reduceMul, Nat.reduceLeDiff, ← Bool.decide_and, ← Bool.decide_or, ← decide_not, Int.reduceLT, Int.reduceLE, Int.reduceToNat, Int.reduceNeg, by_nil]
        exact ⟨fun h2 => hyes _ (ht'.trans (if_pos (by simpa using h2))), fun h2 => back _ (seen ++ [10]) (by refine ⟨?_, ?_, rfl, rfl⟩ <;> repeat' (first | exact trivial | (refine And.intro (Or.inl rfl) ?_) | (refine And.intro (Or.inr (Or.inl rfl)) ?_) | (refine And.intro (Or.inr (Or.inr (Or.inr ⟨rfl, rfl⟩))) ?_) | (refine And.intro (Or.inr (Or.inr (Or.inl ⟨rfl, rfl, trivial⟩))) ?_) | exact ⟨(by show (_ : Nat) < 1000000000; omega), rfl, rfl⟩ | rfl | (refine And.intro (Or.inl ?_) ?_) | (refine And.intro ?_ ?_))) (hno (ht'.trans (if_neg (by simpa using h2)))) hlt⟩
    | 11, _ =>
      injection hx with hx
      subst hx
      simp only [go_sem, Nat.reduceBEq, ↓reduceIte, ↓reduceDIte, Nat.reduceAdd, Nat.reduceSub, Nat.reduceMul, Nat.reduceLeDiff, ← Bool.decide_and, ← Bool.decide_or, ← decide_not, Int.reduceLT, Int.reduceLE, Int.reduceToNat, Int.reduceNeg, by_nil]
      refine ⟨hlen, _, k4, fun _ => ?_⟩
      have ht' : tryF (spl 32 s) _ = if (((ev0, decide (((spl 32 s).drop 1).length = 0)) : Ev × Bool).2 && validE (12, ((ev0, decide (((spl 32 s).drop 1).length = 0)) : Ev × Bool).1.2)) = true then some (12, ((ev0, decide (((spl 32 s).drop 1).length = 0)) : Ev × Bool).1.2) else none := ht
      generalize ((ev0, decide (((spl 32 s).drop 1).length = 0)) : Ev × Bool) = r at ht' ⊢
      obtain ⟨e, b⟩ := r
      cases b
      · simp only [go_sem, Nat.reduceBEq, ↓reduceIte, ↓reduceDIte, Nat.reduceAdd, Nat.reduceSub, Nat.reduceMul, Nat.reduceLeDiff, ← Bool.decide_and, ← Bool.decide_or, ← decide_not, Int.reduceLT, Int.reduceLE, Int.reduceToNat, Int.reduceNeg, by_nil]
        exact back _ (seen ++ [11]) (by refine ⟨?_, ?_, rfl, rfl⟩ <;> repeat' (first | exact trivial | (refine And.intro (Or.inl rfl) ?_) | (refine And.intro (Or.inr (Or.inl rfl)) ?_) | (refine And.intro (Or.inr (Or.inr (Or.inr ⟨rfl, rfl⟩))) ?_) | (refine And.intro (Or.inr (Or.inr (Or.inl ⟨rfl, rfl, trivial⟩))) ?_) | exact ⟨(by show (_ : Nat) < 1000000000; omega), rfl, rfl⟩ | rfl | (refine And.intro (Or.inl ?_) ?_) | (refine And.intro ?_ ?_))) (hno (ht'.trans (if_neg (by simp)))) hlt
      · simp only [go_sem, Nat.reduceBEq, ↓reduceIte, ↓reduceDIte, Nat.reduceAdd, Nat.reduceSub, Nat.reduceMul, Nat.reduceLeDiff, ← Bool.decide_and, ← Bool.decide_or, ← decide_not, Int.reduceLT, Int.reduceLE, Int.reduceToNat, Int.reduceNeg, by_nil]
        refine ⟨_, (c_Valid _).dec, ?_⟩
        simp only [go_sem, Nat.reduceBEq, ↓reduceIte, ↓reduceDIte, Nat.reduceAdd, Nat.reduceSub, Nat.reduceMul, Nat.reduceLeDiff, ← Bool.decide_and, ← Bool.decide_or, ← decide_not, Int.reduceLT, Int.reduceLE, Int.reduceToNat, Int.reduceNeg, by_nil]
        exact ⟨fun h2 => hyes _ (ht'.trans (if_pos (by simpa using h2))), fun h2 => back _ (seen ++ [11]) (by refine ⟨?_, ?_, rfl, rfl⟩ <;> repeat' (first | exact trivial | (refine And.intro (Or.inl rfl) ?_) | (refine And.intro (Or.inr (Or.inl rfl)) ?_) | (refine And.intro (Or.inr (Or.inr (Or.inr ⟨rfl, rfl⟩))) ?_) | (refine And.intro (Or.inr (Or.inr (Or.inl ⟨rfl, rfl, trivial⟩))) ?_) | exact ⟨(by show (_ : Nat) < 1000000000; omega), rfl, rfl⟩ | rfl | (refine And.intro (Or.inl ?_) ?_) | (refine And.intro ?_ ?_))) (hno (ht'.trans (if_neg (by simpa using h2)))) hlt⟩
    | n + 12, h => exact absurd h (by show ¬ n + 12 < 12; omega)
  · refine (parse_miss fun x hx => ?_).symm
    obtain ⟨i, hi⟩ := List.getElem?_of_mem hx
    exact hb i (h i (List.getElem?_eq_some_iff.1 hi).1) x hi
end Go.Proofs.YtopelldocfbhkaaDoor
namespace Go.Proofs.YtopelldocfbhkaaDoor
set_option maxHeartbeats 1000000
set_option maxRecDepth 100000
open Go.Lib

theorem num_itoa {n : Int} (h : 0 ≤ n) (h2 : n ≤ 9999) : numOK (itoa n) = true ∧ numV (itoa n) = n := by
  rw [itoa_dec h]
  have hl := dec_len 3 n.toNat (by omega)
  obtain ⟨x, r, e, h3, _⟩ := dec_head n.toNat
  have ho : numOK (decDigits n.toNat) = true := by
    unfold numOK
    rw [dig_dec, Bool.and_true, decide_eq_true_eq]
    refine ⟨by rw [e]; simp, by omega, fun ⟨h4, h5⟩ => ?_⟩
    rw [e] at h4 h5
    simp only [List.length_cons] at h5
    have := h3 (fun h => by rw [h] at h5; simp at h5)
    simp at h4
    subst h4
    exact absurd this (by decide)
  refine ⟨ho, ?_⟩
  unfold numV
  rw [if_pos ho, valS_dec]; omega
theorem itoa_num {s : Str} (h : numOK s = true) : itoa (numV s) = s ∧ 0 ≤ numV s := by
  have hv : numV s = (valS s : Nat) := by unfold numV; rw [if_pos h]
  unfold numOK at h
  rw [Bool.and_eq_true, decide_eq_true_eq] at h
  obtain ⟨⟨h1, h2, h3⟩, h4⟩ := h
  rw [hv]
  refine ⟨?_, Int.natCast_nonneg _⟩
  rw [itoa_dec (Int.natCast_nonneg _)]
  show decDigits (valS s) = s
  refine dec_val _ s rfl (fun h => by rw [h] at h1; simp at h1) h4 fun x r e hr => ?_
  subst e
  have hx : dig x = true := by simp only [List.all_cons, Bool.and_eq_true] at h4; exact h4.1
  simp only [dig, decide_eq_true_eq] at hx
  have : ¬ x = 48 := fun e => h3 ⟨by simp [e], by cases r with | nil => exact absurd rfl hr | cons => simp⟩
  have : ¬ x.toNat = 48 := fun e => this (UInt8.toNat_inj.1 e)
  omega
theorem no32_itoa {n : Int} (h : 0 ≤ n) : (32 : UInt8) ∉ itoa n := by
  rw [itoa_dec h]
  exact all_no_c (p := dig) rfl (dig_dec _)
theorem no32_low {s : Str} (h : s.all low = true) : (32 : UInt8) ∉ s := all_no_c (p := low) rfl h
theorem coo_nn {p : List (Int × Int)} (h : p.all cooP = true) {q : Int × Int} (hq : q ∈ p) : (0 ≤ q.1 ∧ q.1 ≤ 1000) ∧ 0 ≤ q.2 ∧ q.2 ≤ 1000 := by
  rw [List.all_eq_true] at h
  have := h q hq
  simp [cooP, inB] at this
  omega
theorem pairs_pts : ∀ {p : List (Int × Int)}, p.all cooP = true → pairsS (ptsS p) = p ∧ (ptsS p).all numOK = true
  | [], _ => ⟨rfl, rfl⟩
  | q :: r, h => by
    have hq := coo_nn h (List.mem_cons_self ..)
    have hr : r.all cooP = true := by simp only [List.all_cons, Bool.and_eq_true] at h; exact h.2
    have ih := pairs_pts hr
    have e : ptsS (q :: r) = itoa q.1 :: itoa q.2 :: ptsS r := rfl
    rw [e]
    have h1 := num_itoa hq.1.1 (by omega)
    have h2 := num_itoa hq.2.1 (by omega)
    refine ⟨?_, ?_⟩
    · simp only [pairsS, h1.2, h2.2, ih.1]
    · simp only [List.all_cons, h1.1, h2.1, ih.2, Bool.and_true]
theorem pts_pairs : ∀ (n : Nat) (f : List Str), f.length = 2 * n → f.all numOK = true → ptsS (pairsS f) = f
  | 0, f, h, _ => by
    have : f = [] := List.eq_nil_of_length_eq_zero (by omega)
    subst this; rfl
  | n + 1, [], h, _ => by simp at h
  | n + 1, [x], h, _ => by simp only [List.length_cons, List.length_nil] at h; omega
  | n + 1, x :: y :: l, h, hn => by
    simp only [List.all_cons, Bool.and_eq_true] at hn
    simp only [List.length_cons] at h
    show itoa (numV x) :: itoa (numV y) :: ptsS (pairsS l) = x :: y :: l
    rw [(itoa_num hn.1).1, (itoa_num hn.2.1).1, pts_pairs n l (by omega) hn.2.2]
theorem no32_pts {p : List (Int × Int)} (h : p.all cooP = true) {x : Str} (hx : x ∈ ptsS p) : (32 : UInt8) ∉ x := by
  unfold ptsS at hx
  rw [List.mem_flatMap] at hx
  obtain ⟨q, hq, hx⟩ := hx
  have := coo_nn h hq
  simp only [List.mem_cons, List.not_mem_nil, or_false] at hx
  rcases hx with rfl | rfl
  · exact no32_itoa this.1.1
  · exact no32_itoa this.2.1
/-- What the kinds' events are. -/
theorem valid_cases {e : Ev} (h : validE e = true) : (1 ≤ e.1 ∧ e.1 ≤ 12) ∧
    ((e.1 = 1 ∨ e.1 = 2) ∧ (e.2.1.all low = true ∧ e.2.1.length ≤ 4 ∧ e.2.2 = ([], [], 0, 0)) ∨ (e.1 = 3 ∨ e.1 = 4) ∧ (e.2.1 = [] ∧ e.2.2.1.all cooP = true ∧ e.2.2.1.length ≤ 12 ∧ e.2.2.2 = ([], 0, 0)) ∨
      e.1 = 5 ∧ (e.2.1 = [] ∧ e.2.2.1 = [] ∧ e.2.2.2.1.all low = true ∧ e.2.2.2.1.length ≤ 20 ∧ e.2.2.2.2 = (0, 0)) ∨ e.1 = 9 ∧ (e.2.1 = [] ∧ e.2.2.1 = [] ∧ e.2.2.2.1 = [] ∧ (0 ≤ e.2.2.2.2.1 ∧ e.2.2.2.2.1 ≤ 39) ∧ 1 ≤ e.2.2.2.2.2 ∧ e.2.2.2.2.2 ≤ 40) ∨
      e.1 = 10 ∧ (e.2.1 = [] ∧ e.2.2.1 = [] ∧ e.2.2.2.1 = [] ∧ (0 ≤ e.2.2.2.2.1 ∧ e.2.2.2.2.1 ≤ 49) ∧ e.2.2.2.2.2 = 0) ∨ (e.1 = 6 ∨ e.1 = 7 ∨ e.1 = 8 ∨ e.1 = 11 ∨ e.1 = 12) ∧ e.2 = ([], [], [], 0, 0)) := by
  obtain ⟨k, keys, p, t, n, l⟩ := e
  simp only [validE, Bool.and_eq_true, decide_eq_true_eq] at h
  obtain ⟨⟨⟨⟨hk, h1⟩, h2⟩, h3⟩, h4⟩ := h
  refine ⟨hk, ?_⟩
  rcases kinds hk with rfl | rfl | rfl | rfl | rfl | rfl | rfl | rfl | rfl | rfl | rfl | rfl <;> simp [partK, partP, partT, partN, -List.all_eq_true] at h1 h2 h3 h4 <;> simp [h1, h2, h3, h4, -List.all_eq_true] <;> omega
theorem nameK_or (k : Int) : (32 : UInt8) ∉ nameK k ∧ (nameK k).length ≤ 6 := by
  by_cases h : 1 ≤ k ∧ k ≤ 12
  · rcases kinds h with rfl | rfl | rfl | rfl | rfl | rfl | rfl | rfl | rfl | rfl | rfl | rfl <;> decide
  · have : nameK k = [] := by
      unfold nameK
      rw [if_neg (by omega), if_neg (by omega), if_neg (by omega), if_neg (by omega), if_neg (by omega), if_neg (by omega), if_neg (by omega), if_neg (by omega), if_neg (by omega), if_neg (by omega), if_neg (by omega), if_neg (by omega)]
    rw [this]; decide
theorem nameK_no (k : Int) : (32 : UInt8) ∉ nameK k := (nameK_or k).1
theorem nameK_len (k : Int) : (nameK k).length ≤ 6 := (nameK_or k).2
theorem wr_no {e : Ev} (h : validE e = true) {x : Str} (hx : x ∈ wr e) : (32 : UInt8) ∉ x ∧ x.length ≤ 20 := by
  obtain ⟨hk, hc⟩ := valid_cases h
  have hlen : ∀ {n : Int}, 0 ≤ n → n ≤ 9999 → (itoa n).length ≤ 20 := fun h1 h2 => by
    rw [itoa_dec h1]
    rename_i n'
    have := dec_len 3 n'.toNat (by omega)
    omega
  obtain ⟨k, keys, p, t, n, l⟩ := e
  rcases hc with ⟨hk, h1, h2, h3⟩ | ⟨hk, h1, h2, h3, h4⟩ | ⟨hk, h1, h2, h3, h4, h5⟩ | ⟨hk, h1, h2, h3, h4, h5⟩ | ⟨hk, h1, h2, h3, h4, h5⟩ | ⟨hk, h1⟩ <;> dsimp only at *
  · rw [wr, if_pos hk] at hx
    simp only [List.mem_singleton] at hx
    subst hx
    exact ⟨no32_low h1, by omega⟩
  · rw [wr, if_neg (by dsimp only; omega), if_pos hk] at hx
    refine ⟨no32_pts h2 hx, ?_⟩
    unfold ptsS at hx
    rw [List.mem_flatMap] at hx
    obtain ⟨q, hq, hx⟩ := hx
    have := coo_nn h2 hq
    simp only [List.mem_cons, List.not_mem_nil, or_false] at hx
    rcases hx with rfl | rfl
    · exact hlen this.1.1 (by omega)
    · exact hlen this.2.1 (by omega)
  · subst hk
    have hx : x ∈ [t] := hx
    simp only [List.mem_singleton] at hx
    subst hx
    exact ⟨no32_low h3, by omega⟩
  · subst hk
    have hx : x ∈ [itoa n, itoa l] := hx
    simp only [List.mem_cons, List.not_mem_nil, or_false] at hx
    rcases hx with rfl | rfl
    · exact ⟨no32_itoa h4.1, hlen h4.1 (by omega)⟩
    · exact ⟨no32_itoa (by omega), hlen (by omega) (by omega)⟩
  · subst hk
    have hx : x ∈ [itoa n] := hx
    simp only [List.mem_singleton] at hx
    subst hx
    exact ⟨no32_itoa h4.1, hlen h4.1 (by omega)⟩
  · have : wr (k, keys, p, t, n, l) = [] := by rcases hk with rfl | rfl | rfl | rfl | rfl <;> rfl
    rw [this] at hx; cases hx
theorem wr_len {e : Ev} (h : validE e = true) : (wr e).length ≤ 24 := by
  obtain ⟨hk, hc⟩ := valid_cases h
  obtain ⟨k, keys, p, t, n, l⟩ := e
  rcases hc with ⟨hk, h1, h2, h3⟩ | ⟨hk, h1, h2, h3, h4⟩ | ⟨hk, h1, h2, h3, h4, h5⟩ | ⟨hk, h1, h2, h3, h4, h5⟩ | ⟨hk, h1, h2, h3, h4, h5⟩ | ⟨hk, h1⟩ <;> dsimp only at *
  · rw [wr, if_pos hk]; simp
  · rw [wr, if_neg (by dsimp only; omega), if_pos hk, ptsS_len]; dsimp only; omega
  · subst hk; show ([t]).length ≤ 24; simp
  · subst hk; show ([itoa n, itoa l]).length ≤ 24; simp
  · subst hk; show ([itoa n]).length ≤ 24; simp
  · have : wr (k, keys, p, t, n, l) = [] := by rcases hk with rfl | rfl | rfl | rfl | rfl <;> rfl
    rw [this]; simp
theorem joinC_len (c : UInt8) (m : Nat) : ∀ (l : List Str), (∀ x, x ∈ l → x.length ≤ m) → (joinC c l).length ≤ l.length * (m + 1)
  | [], _ => Nat.zero_le _
  | [x], h => by have := h x (by simp); simp only [joinC, List.length_cons, List.length_nil]; omega
  | x :: y :: r, h => by
    have ih := joinC_len c m (y :: r) (fun z hz => h z (by simp at hz ⊢; exact .inr hz))
    have := h x (by simp)
    simp only [joinC, List.length_append, List.length_cons] at ih ⊢
    simp only [Nat.add_mul, Nat.one_mul] at ih ⊢
    omega
theorem line_len {e : Ev} (h : validE e = true) : (lineS e).length ≤ 525 := by
  have h1 := wr_len h
  have := joinC_len 32 20 (nameK e.1 :: wr e) (fun x hx => by
    rcases List.mem_cons.1 hx with rfl | hx
    · have := nameK_len e.1; omega
    · exact (wr_no h hx).2)
  unfold lineS
  simp only [List.length_cons] at this
  omega
theorem spl_line {e : Ev} (h : validE e = true) : spl 32 (lineS e) = nameK e.1 :: wr e :=
  spl_join 32 (by simp) fun x hx => by
    rcases List.mem_cons.1 hx with rfl | hx
    · exact nameK_no _
    · exact (wr_no h hx).1
theorem rd_wr {e : Ev} (h : validE e = true) : rd e.1 (wr e) = ((0, e.2), true) := by
  obtain ⟨hk, hc⟩ := valid_cases h
  obtain ⟨k, keys, p, t, n, l⟩ := e
  rcases hc with ⟨hk, h1, h2, h3⟩ | ⟨hk, h1, h2, h3, h4⟩ | ⟨hk, h1, h2, h3, h4, h5⟩ | ⟨hk, h1, h2, h3, h4, h5⟩ | ⟨hk, h1, h2, h3, h4, h5⟩ | ⟨hk, h1⟩ <;> dsimp only at *
  · rw [wr, if_pos hk, rd, if_pos hk, h3]; rfl
  · have hp := pairs_pts h2
    have hl := ptsS_len p
    rw [wr, if_neg (by dsimp only; omega), if_pos hk, rd, if_neg (by omega), if_pos hk, rPoints, if_pos ⟨⟨by dsimp only; omega, by dsimp only; omega⟩, hp.2⟩]
    dsimp only
    rw [hp.1, h1, h4]
  · subst hk; subst h1; subst h2; rw [h5]; rfl
  · subst hk; subst h1; subst h2; subst h3
    have a := num_itoa h4.1 (by omega)
    have b := num_itoa (n := l) (by omega) (by omega)
    show ((0, [], [], [], numV (itoa n), numV (itoa l)), numOK (itoa n) && numOK (itoa l)) = _
    rw [a.1, a.2, b.1, b.2]; rfl
  · subst hk; subst h1; subst h2; subst h3; subst h5
    have a := num_itoa h4.1 (by omega)
    show ((0, [], [], [], numV (itoa n), (0 : Int)), numOK (itoa n)) = _
    rw [a.1, a.2]
  · rw [h1]; rcases hk with rfl | rfl | rfl | rfl | rfl <;> rfl
theorem form_at {k : Int} (h : 1 ≤ k ∧ k ≤ 12) : ∃ w, (k, (nameK k, w)) ∈ formsD := by
  rcases kinds h with rfl | rfl | rfl | rfl | rfl | rfl | rfl | rfl | rfl | rfl | rfl | rfl <;> exact ⟨_, by unfold formsD nameK; simp; rfl⟩
theorem form_name {x : Int × (Str × (Nat × Nat))} (h : x ∈ formsD) : x.2.1 = nameK x.1 ∧ 1 ≤ x.1 ∧ x.1 ≤ 12 := by
  revert x
  unfold formsD
  decide
/-- A valid event is read back from its line. -/
theorem parse_line {e : Ev} (h : validE e = true) : parseS (lineS e) = (e, 0) := by
  obtain ⟨w, hw⟩ := form_at (valid_cases h).1
  refine parse_hit hw ?_
  rw [spl_line h]
  unfold tryF
  have e1 : (nameK e.1 :: wr e).drop 1 = wr e := rfl
  refine (if_pos rfl).trans ?_
  dsimp only
  rw [e1, rd_wr h]
  exact if_pos (by simpa using h)
theorem wr_rd {k : Int} {f : List Str} (h : (rd k f).2 = true) (hk : 1 ≤ k ∧ k ≤ 12) : wr (k, (rd k f).1.2) = f := by
  by_cases h1 : k = 1 ∨ k = 2
  · rw [wr, if_pos h1]
    rw [rd, if_pos h1] at h ⊢
    match f, h with
    | [s], _ => rfl
    | [], h => cases h
    | _ :: _ :: _, h => cases h
  by_cases h2 : k = 3 ∨ k = 4
  · rw [wr, if_neg h1, if_pos h2]
    rw [rd, if_neg h1, if_pos h2] at h ⊢
    unfold rPoints at h ⊢
    split at h
    · rename_i hc
      rw [if_pos hc]
      exact pts_pairs (f.length / 2) f (by omega) hc.2
    · cases h
  by_cases h3 : k = 5
  · rw [wr, if_neg h1, if_neg h2, if_pos h3]
    rw [rd, if_neg h1, if_neg h2, if_pos h3] at h ⊢
    match f, h with
    | [s], _ => rfl
    | [], h => cases h
    | _ :: _ :: _, h => cases h
  by_cases h4 : k = 9
  · rw [wr, if_neg h1, if_neg h2, if_neg h3, if_pos h4]
    rw [rd, if_neg h1, if_neg h2, if_neg h3, if_pos h4] at h ⊢
    match f, h with
    | [], h => cases h
    | [s], h => cases h
    | [s, t], h =>
      have h : (numOK s && numOK t) = true := h
      rw [Bool.and_eq_true] at h
      show [itoa (numV s), itoa (numV t)] = _
      rw [(itoa_num h.1).1, (itoa_num h.2).1]
    | _ :: _ :: _ :: _, h => cases h
  by_cases h5 : k = 10
  · rw [wr, if_neg h1, if_neg h2, if_neg h3, if_neg h4, if_pos h5]
    rw [rd, if_neg h1, if_neg h2, if_neg h3, if_neg h4, if_pos h5] at h ⊢
    match f, h with
    | [], h => cases h
    | [s], h =>
      show [itoa (numV s)] = _
      rw [(itoa_num h).1]
    | _ :: _ :: _, h => cases h
  · rw [wr, if_neg h1, if_neg h2, if_neg h3, if_neg h4, if_neg h5]
    rw [rd, if_neg h1, if_neg h2, if_neg h3, if_neg h4, if_neg h5] at h
    exact (List.eq_nil_of_length_eq_zero (of_decide_eq_true h)).symm
/-- What is read is valid, and its line is what was read. -/
theorem parse_yes {s : Str} {e : Ev} (h : (parseS s) = (e, 0)) : validE e = true ∧ lineS e = s := by
  unfold parseS at h
  split at h
  · rename_i e' hf
    injection h with h _
    subst h
    obtain ⟨x, hx, hf⟩ := List.exists_of_findSome?_eq_some hf
    have hn := tryF_name hf
    unfold tryF at hf
    rw [if_pos hn] at hf
    split at hf
    · rename_i hv
      rw [Bool.and_eq_true] at hv
      injection hf with hf
      have hk := form_name hx
      have hw := wr_rd hv.1 hk.2
      rw [hf] at hw hv
      refine ⟨hv.2, ?_⟩
      have h1 : e'.1 = x.1 := by rw [← hf]
      unfold lineS
      rw [hw, h1, ← hk.1, hn]
      have hne := spl_ne 32 s
      cases hs : spl 32 s with
      | nil => exact absurd hs hne
      | cons a r =>
        have := joinC_spl 32 s
        rw [hs] at this
        exact this
    · cases hf
  · injection h with _ h; cases h
theorem parse_or (s : Str) : (∃ e, parseS s = (e, 0)) ∨ parseS s = (ev0, 3) := by
  unfold parseS
  split
  · exact .inl ⟨_, rfl⟩
  · exact .inr rfl
theorem parse_iff {s : Str} {e : Ev} : parseS s = (e, 0) ↔ validE e = true ∧ lineS e = s :=
  ⟨parse_yes, fun h => h.2 ▸ parse_line h.1⟩
theorem parse_none {s : Str} (h : ∀ e, validE e = true → lineS e ≠ s) : parseS s = (ev0, 3) := by
  rcases parse_or s with ⟨e, he⟩ | h'
  · exact absurd (parse_yes he).2 (h e (parse_yes he).1)
  · exact h'
end Go.Proofs.YtopelldocfbhkaaDoor
--SET+ by_nil, by32, Int.reduceEq, not_true_eq_false, not_false_eq_true, false_implies
namespace Go.Proofs.YtopelldocfbhkaaDoor
set_option maxHeartbeats 4000000
set_option maxRecDepth 100000
open Go.Lib

theorem by32 : bytesOf ⟨#[32]⟩ = ([32] : Str) := rfl
theorem digits_at : ∀ d : Nat, d < 10 → List.take 1 (List.drop d (bytesOf ⟨#[48, 49, 50, 51, 52, 53, 54, 55, 56, 57]⟩)) = [UInt8.ofNat (48 + d)] := by decide
theorem c_DecimalN (n : Nat) : n ≤ 1000000 → PC env 24 [⟨.int .i64, (n : Int)⟩] .str (decDigits n) := by
  induction n using Nat.strongRecOn with
  | _ n ih =>
    intro hn
    refine PC.of_PW (m := 2000) env_ok fn_24 rfl rfl rfl rfl (by kernel_rfl) ?_; intro hx; simp only [Tryd.f24]; simp only [go_sem, Nat.reduceBEq, ↓reduceIte, ↓reduceDIte, Nat.reduceAdd, Nat.reduceSub, Nat.reduceMul, Nat.reduceLeDiff, ← Bool.decide_and, ← Bool.decide_or, ← decide_not, Int.reduceLT, Int.reduceLE, Int.reduceToNat, Int.reduceNeg, by_nil, by32, Int.reduceEq, not_true_eq_false, not_false_eq_true, false_implies]
    refine ⟨fun h => ⟨i64_ok (by omega) (by omega), ⟨by omega, by omega, (by show (n : Int) + 1 ≤ 10; omega)⟩, ?_⟩, fun h => ?_⟩
    · have e : ((n : Int) + 1).toNat - n = 1 := by omega
      rw [e, digits_at n (by omega), dec_small (by omega)]
    · have hq : (n : Int) / 10 = ((n / 10 : Nat) : Int) := rfl
      have hm : (n : Int).tmod 10 = ((n % 10 : Nat) : Int) := rfl
      have e : (((n % 10 : Nat) : Int) + 1).toNat - ((n % 10 : Nat) : Int).toNat = 1 := by omega
      have hlen := dec_len 6 (n / 10) (by omega)
      refine ⟨by omega, _, hq ▸ ih (n / 10) (by omega) (by omega), fun _ => ?_⟩
      rw [hm, e, Int.toNat_natCast, digits_at _ (Nat.mod_lt _ (by decide))]
      refine ⟨i64_ok (by omega) (by omega), ⟨by omega, by omega, (by show ((n % 10 : Nat) : Int) + 1 ≤ 10; omega)⟩, (by simp only [List.length_cons, List.length_nil]; omega), ?_⟩
      exact (dec_big (by omega)).symm
theorem c_Decimal {n : Int} (h : 0 ≤ n) (h2 : n ≤ 1000000) : PC env 24 [⟨.int .i64, n⟩] .str (itoa n) := by
  obtain ⟨m, rfl⟩ : ∃ m : Nat, n = m := ⟨n.toNat, by omega⟩
  rw [itoa_dec h]
  exact c_DecimalN m (by omega)
def wordsL : List Str := [[], [107, 101, 121], [99, 104, 111, 114, 100], [116, 111, 117, 99, 104], [115, 116, 114, 111, 107, 101], [112, 97, 115, 116, 101], [101, 114, 97, 115, 101], [108, 101, 102, 116], [114, 105, 103, 104, 116], [104, 111, 108, 100], [99, 104, 111, 111, 115, 101], [99, 111, 109, 109, 105, 116], [99, 97, 110, 99, 101, 108]]
theorem c_words : PC env 25 [] (.sl .str) wordsL := by
  refine PC.of_PW (m := 2000) env_ok fn_25 rfl rfl rfl rfl (by kernel_rfl) ?_; intro hx; simp only [Tryd.f25]; simp only [go_sem, Nat.reduceBEq, ↓reduceIte, ↓reduceDIte, Nat.reduceAdd, Nat.reduceSub, Nat.reduceMul, Nat.reduceLeDiff, ← Bool.decide_and, ← Bool.decide_or, ← decide_not, Int.reduceLT, Int.reduceLE, Int.reduceToNat, Int.reduceNeg, by_nil, by32, Int.reduceEq, not_true_eq_false, not_false_eq_true, false_implies]
  rfl
theorem words_at {k : Int} (h : 1 ≤ k ∧ k ≤ 12) : wordsL[k.toNat]? = some (nameK k) := by
  rcases kinds h with rfl | rfl | rfl | rfl | rfl | rfl | rfl | rfl | rfl | rfl | rfl | rfl <;> rfl
def optL (s : Str) : List Str := if s = [] then [] else [s]
def wrR (e : Ev) : List Str := optL e.2.1 ++ ptsS e.2.2.1 ++ optL e.2.2.2.1 ++ (if e.1 = 9 ∨ e.1 = 10 then [itoa e.2.2.2.2.1] else []) ++ (if e.1 = 9 then [itoa e.2.2.2.2.2] else [])
def tl (l : List Str) : Str := l.flatMap fun x => 32 :: x
theorem join_tl (x : Str) : ∀ (l : List Str), joinC 32 (x :: l) = x ++ tl l
  | [] => by simp [joinC, tl]
  | y :: r => by
    have ih := join_tl y r
    show x ++ 32 :: joinC 32 (y :: r) = _
    rw [ih]; rfl
theorem tl_app (a b : List Str) : tl (a ++ b) = tl a ++ tl b := List.flatMap_append ..
theorem tl_len : ∀ {l : List Str}, (∀ x, x ∈ l → x.length ≤ 20) → (tl l).length ≤ 21 * l.length
  | [], _ => Nat.le_refl _
  | x :: r, h => by
    have h1 := h x (by simp)
    have h2 := tl_len (l := r) fun y hy => h y (by simp [hy])
    show (32 :: (x ++ tl r)).length ≤ _
    simp only [List.length_cons, List.length_append]; omega
theorem wrR_eq {e : Ev} (h : validE e = true) : wrR e = wr e := by
  have hv := h
  obtain ⟨hk, hc⟩ := valid_cases h
  obtain ⟨k, keys, p, t, n, l⟩ := e
  have h12 : (k = 1 ∨ k = 2) → keys ≠ [] := fun hq e => by
    subst e
    rcases hq with hq | hq <;> subst hq <;> simp [validE, partK] at h
  have h5 : k = 5 → t ≠ [] := fun hq e => by
    subst e; subst hq
    simp [validE, partT] at h
  rcases hc with ⟨hk, h1, h2, h3⟩ | ⟨hk, h1, h2, h3, h4⟩ | ⟨hk, h1, h2, h3, h4, h6⟩ | ⟨hk, h1, h2, h3, h4, h6⟩ | ⟨hk, h1, h2, h3, h4, h6⟩ | ⟨hk, h1⟩ <;> dsimp only at *
  · injection h3 with a b; injection b with b c; injection c with c d; subst a; subst b; subst c; subst d
    have := h12 hk
    rw [wr, if_pos hk]
    rcases hk with rfl | rfl <;> simp [wrR, optL, this, ptsS]
  · injection h4 with a b; injection b with b c; subst a; subst b; subst c; subst h1
    rcases hk with rfl | rfl <;> simp [wrR, wr, optL]
  · injection h6 with a b; subst a; subst b; subst h1; subst h2; subst hk
    have := h5 rfl
    simp [wrR, wr, optL, this, ptsS]
  · subst hk; subst h1; subst h2; subst h3; simp [wrR, wr, optL, ptsS]
  · subst hk; subst h1; subst h2; subst h3; simp [wrR, wr, optL, ptsS]
  · injection h1 with a b; injection b with b c; injection c with c d; injection d with d f; subst a; subst b; subst c; subst d; subst f
    rcases hk with rfl | rfl | rfl | rfl | rfl <;> simp [wrR, wr, optL, ptsS]
theorem line_tl {e : Ev} (h : validE e = true) : lineS e = nameK e.1 ++ tl (wrR e) := by
  rw [wrR_eq h]
  exact join_tl _ _
/-- What of an event's numbers the reference's Print leans on. -/
theorem valid_nums {e : Ev} (h : validE e = true) : (1 ≤ e.1 ∧ e.1 ≤ 12) ∧ e.2.1.length ≤ 20 ∧ e.2.2.1.all cooP = true ∧ e.2.2.1.length ≤ 12 ∧ e.2.2.2.1.length ≤ 20 ∧ (0 ≤ e.2.2.2.2.1 ∧ e.2.2.2.2.1 ≤ 1000) ∧ 0 ≤ e.2.2.2.2.2 ∧ e.2.2.2.2.2 ≤ 1000 := by
  obtain ⟨hk, hc⟩ := valid_cases h
  obtain ⟨k, keys, p, t, n, l⟩ := e
  refine ⟨hk, ?_⟩
  rcases hc with ⟨hk, h1, h2, h3⟩ | ⟨hk, h1, h2, h3, h4⟩ | ⟨hk, h1, h2, h3, h4, h6⟩ | ⟨hk, h1, h2, h3, h4, h6⟩ | ⟨hk, h1, h2, h3, h4, h6⟩ | ⟨hk, h1⟩ <;> dsimp only at * <;> simp_all [-List.all_eq_true] <;> omega
theorem itoa_len20 {n : Int} (h : 0 ≤ n) (h2 : n ≤ 1000) : (itoa n).length ≤ 20 := by
  rw [itoa_dec h]
  have := dec_len 3 n.toNat (by omega)
  omega
theorem wrR_len {e : Ev} (h : validE e = true) : ∀ x, x ∈ wrR e → x.length ≤ 20 := fun x hx => by
  rw [wrR_eq h] at hx
  exact (wr_no h hx).2
theorem pts_len20 {p : List (Int × Int)} (h : p.all cooP = true) (i : Nat) : ∀ x, x ∈ ptsS (p.take i) → x.length ≤ 20 := fun x hx => by
  unfold ptsS at hx
  rw [List.mem_flatMap] at hx
  obtain ⟨q, hq, hx⟩ := hx
  have := coo_nn h (List.mem_of_mem_take hq)
  simp only [List.mem_cons, List.not_mem_nil, or_false] at hx
  rcases hx with rfl | rfl
  · exact itoa_len20 this.1.1 (by omega)
  · exact itoa_len20 this.2.1 (by omega)
theorem c_PrintR (e : Ev) (h : validE e = true) : PC env 11 [⟨EventT, e⟩] .str (lineS e) := by
  obtain ⟨hk, h1, h2, h3, h4, h5, h6⟩ := valid_nums h
  rw [line_tl h]
  clear h
  obtain ⟨k, keys, p, t, n, l⟩ := e
  dsimp only at hk h1 h2 h3 h4 h5 h6 ⊢
  have hnm := nameK_len k
  refine PC.of_PW (m := 2000) env_ok fn_11 rfl rfl rfl rfl (by kernel_rfl) ?_; intro hx; simp only [Tryd.f11]; simp only [go_sem, Nat.reduceBEq, ↓reduceIte, ↓reduceDIte, Nat.reduceAdd, Nat.reduceSub, Nat.reduceMul, Nat.reduceLeDiff, ← Bool.decide_and, ← Bool.decide_or, ← decide_not, Int.reduceLT, Int.reduceLE, Int.reduceToNat, Int.reduceNeg, by_nil, by32, Int.reduceEq, not_true_eq_false, not_false_eq_true, false_implies]
  refine ⟨_, c_words, fun _ => ⟨by omega, nameK k, words_at hk, ?_⟩⟩
  apply Walks.shareX (X := Unit) (fun _ => ⟨[(4, .iv (.int .i64) (0 : Int)), (3, .iv .str (nameK k ++ tl (optL keys))), (1, .ref 1 0)], [(1, .box [.iv (.int .i64) k, .iv .str keys, .iv (.sl PointT) p, .iv .str t, .iv (.int .i64) n, .iv (.int .i64) l])]⟩) (fun _ => True)
  · intro key
    refine ⟨fun h7 => ⟨by omega, by omega, key _ () trivial ?_⟩, fun h7 => key _ () trivial ?_⟩
    · have e : nameK k ++ 32 :: keys = nameK k ++ tl (optL keys) := by simp [tl, optL, h7]
      rw [e]
      exact (by refine ⟨?_, ?_, rfl, rfl⟩ <;> repeat' (first | exact trivial | (refine And.intro (Or.inl rfl) ?_) | (refine And.intro (Or.inr (Or.inl rfl)) ?_) | (refine And.intro (Or.inr (Or.inr (Or.inr ⟨rfl, rfl⟩))) ?_) | (refine And.intro (Or.inr (Or.inr (Or.inl ⟨rfl, rfl, trivial⟩))) ?_) | exact ⟨(by show (_ : Nat) < 1000000000; omega), rfl, rfl⟩ | rfl | (refine And.intro (Or.inl ?_) ?_) | (refine And.intro ?_ ?_)))
    · have h7 : keys = [] := h7
      have e : nameK k ++ tl (optL keys) = nameK k := by simp [tl, optL, h7]
      rw [e]
      exact (by refine ⟨?_, ?_, rfl, rfl⟩ <;> repeat' (first | exact trivial | (refine And.intro (Or.inl rfl) ?_) | (refine And.intro (Or.inr (Or.inl rfl)) ?_) | (refine And.intro (Or.inr (Or.inr (Or.inr ⟨rfl, rfl⟩))) ?_) | (refine And.intro (Or.inr (Or.inr (Or.inl ⟨rfl, rfl, trivial⟩))) ?_) | exact ⟨(by show (_ : Nat) < 1000000000; omega), rfl, rfl⟩ | rfl | (refine And.intro (Or.inl ?_) ?_) | (refine And.intro ?_ ?_)))
  · intro _ _
    have ho : (tl (optL keys)).length ≤ 21 := by unfold optL; split <;> simp [tl]; omega
    refine Walks.loopA (X := Nat × Str) (fun (z : Nat × Str) => [(4, .iv (.int .i64) (z.1 : Int)), (3, .iv .str z.2)]) (fun (z : Nat × Str) => []) (fun (z : Nat × Str) => z.1 ≤ p.length ∧ z.2 = nameK k ++ tl (optL keys) ++ tl (ptsS (p.take z.1))) (fun (z : Nat × Str) => p.length - z.1) (0, nameK k ++ tl (optL keys)) ?_; intro b1 b2 hb1 hb2; simp (config := {maxSteps := 4000000}) only [go_sem, Nat.reduceBEq, ↓reduceIte, ↓reduceDIte, Nat.reduceAdd, Nat.reduceSub, Nat.reduceMul, Nat.reduceLeDiff, ← Bool.decide_and, ← Bool.decide_or, ← decide_not, Int.reduceLT, Int.reduceLE, Int.reduceToNat, Int.reduceNeg, by_nil, by32, Int.reduceEq, not_true_eq_false, not_false_eq_true, false_implies] at hb1 hb2; subst hb1; subst hb2; refine ⟨(by refine ⟨?_, ?_, rfl, rfl⟩ <;> repeat' (first | exact trivial | (refine And.intro (Or.inl rfl) ?_) | (refine And.intro (Or.inr (Or.inl rfl)) ?_) | (refine And.intro (Or.inr (Or.inr (Or.inr ⟨rfl, rfl⟩))) ?_) | (refine And.intro (Or.inr (Or.inr (Or.inl ⟨rfl, rfl, trivial⟩))) ?_) | exact ⟨(by show (_ : Nat) < 1000000000; omega), rfl, rfl⟩ | rfl | (refine And.intro (Or.inl ?_) ?_) | (refine And.intro ?_ ?_))), ?_, ?_⟩
    · exact ⟨Nat.zero_le _, by simp [ptsS, tl]⟩
    intro ⟨i, o⟩ ⟨hi, hb⟩ back
    dsimp only at hi hb
    have hl1 := tl_len (pts_len20 h2 i)
    rw [ptsS_len, List.length_take] at hl1
    have hlo : o.length ≤ 600 := by rw [hb]; simp only [List.length_append]; omega
    refine PW_sound env_ok ⟨_, fn_11, rfl⟩ 2000 _ _ (by kernel_rfl) ?_; simp only [go_sem, Nat.reduceBEq, ↓reduceIte, ↓reduceDIte, Nat.reduceAdd, Nat.reduceSub, Nat.reduceMul, Nat.reduceLeDiff, ← Bool.decide_and, ← Bool.decide_or, ← decide_not, Int.reduceLT, Int.reduceLE, Int.reduceToNat, Int.reduceNeg, by_nil, by32, Int.reduceEq, not_true_eq_false, not_false_eq_true, false_implies]
    refine ⟨fun h7 => ?_, fun h7 => ?_⟩
    · obtain ⟨q, hq⟩ := get_of_lt (xs := p) (i := i) (by omega)
      have hc := coo_nn h2 (List.mem_of_getElem? hq)
      have l1 := itoa_len20 hc.1.1 hc.1.2
      have l2 := itoa_len20 hc.2.1 hc.2.2
      refine ⟨Int.natCast_nonneg _, q, hq, _, c_Decimal hc.1.1 (by omega), fun _ => ⟨by omega, by omega, Int.natCast_nonneg _, q, hq, _, c_Decimal hc.2.1 (by omega), fun _ => ⟨by simp only [List.length_append, List.length_cons, List.length_nil]; omega, ?_⟩⟩⟩
      refine ⟨by simp only [List.length_append, List.length_cons, List.length_nil]; omega, i64_ok (by omega) (by omega), back _ (i + 1, o ++ 32 :: (itoa q.1 ++ [32] ++ itoa q.2)) ?_ ⟨by dsimp only; omega, ?_⟩ (by dsimp only; omega)⟩
      · exact (by refine ⟨?_, ?_, rfl, rfl⟩ <;> repeat' (first | exact trivial | (refine And.intro (Or.inl rfl) ?_) | (refine And.intro (Or.inr (Or.inl rfl)) ?_) | (refine And.intro (Or.inr (Or.inr (Or.inr ⟨rfl, rfl⟩))) ?_) | (refine And.intro (Or.inr (Or.inr (Or.inl ⟨rfl, rfl, trivial⟩))) ?_) | exact ⟨(by show (_ : Nat) < 1000000000; omega), rfl, rfl⟩ | rfl | (refine And.intro (Or.inl ?_) ?_) | (refine And.intro ?_ ?_)))
      · dsimp only
        rw [ptsS_step hq, tl_app, hb]
        simp [tl]
    · rw [List.take_of_length_le (by omega)] at hb
      have l1 := itoa_len20 h5.1 h5.2
      have l2 := itoa_len20 h6.1 h6.2
      clear back hx
      repeat' (first | (with_reducible intro _) | (with_reducible apply And.intro) | (with_reducible refine ⟨_, c_Decimal h5.1 (by omega), ?_⟩; try simp only [go_sem, Nat.reduceBEq, ↓reduceIte, ↓reduceDIte, Nat.reduceAdd, Nat.reduceSub, Nat.reduceMul, Nat.reduceLeDiff, ← Bool.decide_and, ← Bool.decide_or, ← decide_not, Int.reduceLT, Int.reduceLE, Int.reduceToNat, Int.reduceNeg, by_nil, by32, Int.reduceEq, not_true_eq_false, not_false_eq_true, false_implies]) | (with_reducible refine ⟨_, c_Decimal h6.1 (by omega), ?_⟩; try simp only [go_sem, Nat.reduceBEq, ↓reduceIte, ↓reduceDIte, Nat.reduceAdd, Nat.reduceSub, Nat.reduceMul, Nat.reduceLeDiff, ← Bool.decide_and, ← Bool.decide_or, ← decide_not, Int.reduceLT, Int.reduceLE, Int.reduceToNat, Int.reduceNeg, by_nil, by32, Int.reduceEq, not_true_eq_false, not_false_eq_true, false_implies]) | fail)
      all_goals first | omega | (simp only [List.length_append, List.length_cons, List.length_nil]; omega) | (simp_all [wrR, optL, tl, tl_app]; done) | (simp_all [wrR, optL, tl, tl_app]; omega)
/-- A text's parts, from a place on. -/
theorem c_SplitR (s : Str) (c : UInt8) (hs : s.length ≤ 1000000000) : PC env 23 [⟨.str, s⟩, ⟨.int .u8, (c.toNat : Int)⟩] (.sl .str) (spl c s) := by
  refine PC.of_PW (m := 2000) env_ok fn_23 rfl rfl rfl rfl (by kernel_rfl) ?_; intro hx; simp only [Tryd.f23]; simp only [go_sem, Nat.reduceBEq, ↓reduceIte, ↓reduceDIte, Nat.reduceAdd, Nat.reduceSub, Nat.reduceMul, Nat.reduceLeDiff, ← Bool.decide_and, ← Bool.decide_or, ← decide_not, Int.reduceLT, Int.reduceLE, Int.reduceToNat, Int.reduceNeg, by_nil, by32, Int.reduceEq, not_true_eq_false, not_false_eq_true, false_implies]
  have hlen : s.length ≤ 9223372036854775807 := hx.1
  refine Walks.loopA (X := Nat × Nat × List Str) (fun (z : Nat × Nat × List Str) => [(7, .iv (.int .i64) (z.1 : Int)), (6, .iv (.int .i64) (z.2.1 : Int)), (5, .lfull 8), (8, .any)]) (fun (z : Nat × Nat × List Str) => [(8, .arr .str z.2.2)]) (fun (z : Nat × Nat × List Str) => z.2.1 ≤ z.1 ∧ z.1 ≤ s.length ∧ z.2.2.length ≤ z.1 ∧ c ∉ (s.drop z.2.1).take (z.1 - z.2.1) ∧ z.2.2 ++ spl c (s.drop z.2.1) = spl c s) (fun (z : Nat × Nat × List Str) => s.length - z.1) (0, 0, []) ?_; intro b1 b2 hb1 hb2; simp (config := {maxSteps := 4000000}) only [go_sem, Nat.reduceBEq, ↓reduceIte, ↓reduceDIte, Nat.reduceAdd, Nat.reduceSub, Nat.reduceMul, Nat.reduceLeDiff, ← Bool.decide_and, ← Bool.decide_or, ← decide_not, Int.reduceLT, Int.reduceLE, Int.reduceToNat, Int.reduceNeg, by_nil, by32, Int.reduceEq, not_true_eq_false, not_false_eq_true, false_implies] at hb1 hb2; subst hb1; subst hb2; refine ⟨(by refine ⟨?_, ?_, rfl, rfl⟩ <;> repeat' (first | exact trivial | (refine And.intro (Or.inl rfl) ?_) | (refine And.intro (Or.inr (Or.inl rfl)) ?_) | (refine And.intro (Or.inr (Or.inr (Or.inr ⟨rfl, rfl⟩))) ?_) | (refine And.intro (Or.inr (Or.inr (Or.inl ⟨rfl, rfl, trivial⟩))) ?_) | exact ⟨(by show (_ : Nat) < 1000000000; omega), rfl, rfl⟩ | rfl | (refine And.intro (Or.inl ?_) ?_) | (refine And.intro ?_ ?_))), ?_, ?_⟩
  · exact ⟨Nat.le_refl _, Nat.zero_le _, Nat.le_refl _, by simp, rfl⟩
  intro ⟨i, last, o⟩ ⟨h1, h2, h3, h4, h5⟩ back
  dsimp only at h1 h2 h3 h4 h5
  refine PW_sound env_ok ⟨_, fn_23, rfl⟩ 2000 _ _ (by kernel_rfl) ?_; simp only [go_sem, Nat.reduceBEq, ↓reduceIte, ↓reduceDIte, Nat.reduceAdd, Nat.reduceSub, Nat.reduceMul, Nat.reduceLeDiff, ← Bool.decide_and, ← Bool.decide_or, ← decide_not, Int.reduceLT, Int.reduceLE, Int.reduceToNat, Int.reduceNeg, by_nil, by32, Int.reduceEq, not_true_eq_false, not_false_eq_true, false_implies]
  refine ⟨fun h => ?_, fun h => ⟨⟨by omega, by omega⟩, by omega, ?_⟩⟩
  · obtain ⟨x, hx'⟩ := get_of_lt (xs := s) (i := i) (by omega)
    have hsp : s.drop last = (s.drop last).take (i - last) ++ x :: s.drop (i + 1) := by
      rw [← drop_cons hx']
      have e : s.drop i = (s.drop last).drop (i - last) := by rw [List.drop_drop]; congr 1; omega
      rw [e, List.take_append_drop]
    refine ⟨Int.natCast_nonneg _, _, ⟨x, hx', rfl⟩, fun h6 => ⟨⟨Int.natCast_nonneg _, by omega, by omega⟩, by omega, i64_ok (by omega) (by omega), i64_ok (by omega) (by omega), ?_⟩, fun h6 => ⟨i64_ok (by omega) (by omega), ?_⟩⟩
    · have hxc : x = c := UInt8.toNat_inj.1 (by omega)
      subst hxc
      refine back _ (i + 1, i + 1, o ++ [(s.drop last).take (i - last)]) ?_ ⟨Nat.le_refl _, by dsimp only; omega, by dsimp only; simp only [List.length_append, List.length_cons, List.length_nil]; omega, by simp, ?_⟩ (by dsimp only; omega)
      · exact (by refine ⟨?_, ?_, rfl, rfl⟩ <;> repeat' (first | exact trivial | (refine And.intro (Or.inl rfl) ?_) | (refine And.intro (Or.inr (Or.inl rfl)) ?_) | (refine And.intro (Or.inr (Or.inr (Or.inr ⟨rfl, rfl⟩))) ?_) | (refine And.intro (Or.inr (Or.inr (Or.inl ⟨rfl, rfl, trivial⟩))) ?_) | exact ⟨(by show (_ : Nat) < 1000000000; omega), rfl, rfl⟩ | rfl | (refine And.intro (Or.inl ?_) ?_) | (refine And.intro ?_ ?_)))
      · dsimp only
        rw [← h5]
        conv => rhs; rw [hsp]
        rw [spl_cons _ _ h4, List.append_assoc]; rfl
    · have hxc : ¬ x = c := fun e => h6 (by rw [e])
      refine back _ (i + 1, last, o) (by refine ⟨?_, ?_, rfl, rfl⟩ <;> repeat' (first | exact trivial | (refine And.intro (Or.inl rfl) ?_) | (refine And.intro (Or.inr (Or.inl rfl)) ?_) | (refine And.intro (Or.inr (Or.inr (Or.inr ⟨rfl, rfl⟩))) ?_) | (refine And.intro (Or.inr (Or.inr (Or.inl ⟨rfl, rfl, trivial⟩))) ?_) | exact ⟨(by show (_ : Nat) < 1000000000; omega), rfl, rfl⟩ | rfl | (refine And.intro (Or.inl ?_) ?_) | (refine And.intro ?_ ?_))) ⟨by dsimp only; omega, by dsimp only; omega, by dsimp only; omega, ?_, h5⟩ (by dsimp only; omega)
      dsimp only
      have e : i + 1 - last = (i - last) + 1 := by omega
      have hx2 : (s.drop last)[i - last]? = some x := by rw [List.getElem?_drop]; rw [show last + (i - last) = i by omega]; exact hx'
      rw [e, take_snoc hx2, List.mem_append, not_or]
      exact ⟨h4, by simp [Ne.symm hxc]⟩
  · rw [← h5]
    rw [List.take_of_length_le (by rw [List.length_drop]; omega)] at h4
    rw [spl_no c h4]
/-- The points that the reference reads: numbers as they come. -/
def pairsR : List Str → List (Int × Int)
  | a :: b :: l => (numRV a, numRV b) :: pairsR l
  | _ => []
def fillE (k : Int) (f : List Str) : Ev := if k = 1 ∨ k = 2 then (match f with | [s] => (k, s, [], [], 0, 0) | _ => (k, [], [], [], 0, 0)) else if k = 3 ∨ k = 4 then (k, [], pairsR f, [], 0, 0) else if k = 5 then (match f with | [s] => (k, [], [], s, 0, 0) | _ => (k, [], [], [], 0, 0))
  else if k = 9 then (match f with | [s, t] => (k, [], [], [], numRV s, numRV t) | _ => (k, [], [], [], 0, 0)) else if k = 10 then (match f with | [s] => (k, [], [], [], numRV s, 0) | _ => (k, [], [], [], 0, 0)) else (k, [], [], [], 0, 0)
theorem pairsR_step {f : List Str} {j : Nat} {a b : Str} (ha : f[2 * j]? = some a) (hb : f[2 * j + 1]? = some b) : pairsR (f.drop (2 * j)) = (numRV a, numRV b) :: pairsR (f.drop (2 * (j + 1))) := by
  rw [drop_cons ha, drop_cons hb]; rfl
theorem pairsR_end {f : List Str} {j : Nat} (h : f.length ≤ 2 * j + 1) : pairsR (f.drop (2 * j)) = [] := by
  have hl : (f.drop (2 * j)).length ≤ 1 := by rw [List.length_drop]; omega
  match f.drop (2 * j), hl with
  | [], _ => rfl
  | [_], _ => rfl
  | _ :: _ :: _, h => simp at h
theorem c_fill (k : Int) (f : List Str) (hk : 1 ≤ k ∧ k ≤ 12) (hf : f.length ≤ 1000000) : PC env 30 [⟨.int .i64, k⟩, ⟨.sl .str, f⟩] EventT (fillE k f) := by
  have f1 : k = 1 → PC env 30 [⟨.int .i64, k⟩, ⟨.sl .str, f⟩] EventT (fillE k f) := fun e => by
    subst e
    refine PC.of_PW (m := 2000) env_ok fn_30 rfl rfl rfl rfl (by kernel_rfl) ?_; intro hx; simp only [Tryd.f30]; simp only [go_sem, Nat.reduceBEq, ↓reduceIte, ↓reduceDIte, Nat.reduceAdd, Nat.reduceSub, Nat.reduceMul, Nat.reduceLeDiff, ← Bool.decide_and, ← Bool.decide_or, ← decide_not, Int.reduceLT, Int.reduceLE, Int.reduceToNat, Int.reduceNeg, by_nil, by32, Int.reduceEq, not_true_eq_false, not_false_eq_true, false_implies]
    match f with
    | [] => exact ⟨fun h => by simp at h, fun _ => rfl⟩
    | [s] => exact ⟨fun h => ⟨s, rfl, rfl⟩, fun h => by simp at h⟩
    | _ :: _ :: _ => exact ⟨fun h => by simp at h; omega, fun _ => rfl⟩
  have f2 : k = 2 → PC env 30 [⟨.int .i64, k⟩, ⟨.sl .str, f⟩] EventT (fillE k f) := fun e => by
    subst e
    refine PC.of_PW (m := 2000) env_ok fn_30 rfl rfl rfl rfl (by kernel_rfl) ?_; intro hx; simp only [Tryd.f30]; simp only [go_sem, Nat.reduceBEq, ↓reduceIte, ↓reduceDIte, Nat.reduceAdd, Nat.reduceSub, Nat.reduceMul, Nat.reduceLeDiff, ← Bool.decide_and, ← Bool.decide_or, ← decide_not, Int.reduceLT, Int.reduceLE, Int.reduceToNat, Int.reduceNeg, by_nil, by32, Int.reduceEq, not_true_eq_false, not_false_eq_true, false_implies]
    match f with
    | [] => exact ⟨fun h => by simp at h, fun _ => rfl⟩
    | [s] => exact ⟨fun h => ⟨s, rfl, rfl⟩, fun h => by simp at h⟩
    | _ :: _ :: _ => exact ⟨fun h => by simp at h; omega, fun _ => rfl⟩
  have f3 : k = 3 → PC env 30 [⟨.int .i64, k⟩, ⟨.sl .str, f⟩] EventT (fillE k f) := fun e => by
    subst e
    refine PC.of_PW (m := 2000) env_ok fn_30 rfl rfl rfl rfl (by kernel_rfl) ?_; intro hx; simp only [Tryd.f30]; simp only [go_sem, Nat.reduceBEq, ↓reduceIte, ↓reduceDIte, Nat.reduceAdd, Nat.reduceSub, Nat.reduceMul, Nat.reduceLeDiff, ← Bool.decide_and, ← Bool.decide_or, ← decide_not, Int.reduceLT, Int.reduceLE, Int.reduceToNat, Int.reduceNeg, by_nil, by32, Int.reduceEq, not_true_eq_false, not_false_eq_true, false_implies]
    refine Walks.loopA (X := Nat × Int × List (Int × Int)) (fun (z : Nat × Int × List (Int × Int)) => [(6, .iv (.int .i64) z.2.1)]) (fun (z : Nat × Int × List (Int × Int)) => [(5, .box [.iv (.int .i64) 3, .iv .str [], .lfull 1000, .iv .str [], .iv (.int .i64) 0, .iv (.int .i64) 0]), (1000, .arr PointT z.2.2)]) (fun (z : Nat × Int × List (Int × Int)) => 2 * z.1 ≤ f.length + 1 ∧ z.2.2 ++ pairsR (f.drop (2 * z.1)) = pairsR f ∧ z.2.2.length ≤ z.1 ∧ z.2.1 = 2 * (z.1 : Int)) (fun (z : Nat × Int × List (Int × Int)) => f.length - 2 * z.1) (0, 0, []) ?_; intro b1 b2 hb1 hb2; simp (config := {maxSteps := 4000000}) only [go_sem, Nat.reduceBEq, ↓reduceIte, ↓reduceDIte, Nat.reduceAdd, Nat.reduceSub, Nat.reduceMul, Nat.reduceLeDiff, ← Bool.decide_and, ← Bool.decide_or, ← decide_not, Int.reduceLT, Int.reduceLE, Int.reduceToNat, Int.reduceNeg, by_nil, by32, Int.reduceEq, not_true_eq_false, not_false_eq_true, false_implies] at hb1 hb2; subst hb1; subst hb2; refine ⟨(by refine ⟨?_, ?_, rfl, rfl⟩ <;> repeat' (first | exact trivial | (refine And.intro (Or.inl rfl) ?_) | (refine And.intro (Or.inr (Or.inl rfl)) ?_) | (refine And.intro (Or.inr (Or.inr (Or.inr ⟨rfl, rfl⟩))) ?_) | (refine And.intro (Or.inr (Or.inr (Or.inl ⟨rfl, rfl, trivial⟩))) ?_) | exact ⟨(by show (_ : Nat) < 1000000000; omega), rfl, rfl⟩ | rfl | (refine And.intro (Or.inl ?_) ?_) | (refine And.intro ?_ ?_))), ?_, ?_⟩
    · exact ⟨Nat.zero_le _, rfl, Nat.le_refl _, rfl⟩
    intro ⟨j, i, l⟩ ⟨h1, h2, h3, h4⟩ back
    dsimp only at h1 h2 h3 h4
    refine PW_sound env_ok ⟨_, fn_30, rfl⟩ 2000 _ _ (by kernel_rfl) ?_; simp only [go_sem, Nat.reduceBEq, ↓reduceIte, ↓reduceDIte, Nat.reduceAdd, Nat.reduceSub, Nat.reduceMul, Nat.reduceLeDiff, ← Bool.decide_and, ← Bool.decide_or, ← decide_not, Int.reduceLT, Int.reduceLE, Int.reduceToNat, Int.reduceNeg, by_nil, by32, Int.reduceEq, not_true_eq_false, not_false_eq_true, false_implies]
    refine ⟨i64_ok (by omega) (by omega), fun h => ?_, fun h => ?_⟩
    · obtain ⟨a, ha⟩ := get_of_lt (xs := f) (i := 2 * j) (by omega)
      obtain ⟨b, hb⟩ := get_of_lt (xs := f) (i := 2 * j + 1) (by omega)
      have e1 : i.toNat = 2 * j := by omega
      have e2 : (i + 1).toNat = 2 * j + 1 := by omega
      refine ⟨by omega, a, by rw [e1]; exact ha, _, c_numberR a, fun _ => ⟨i64_ok (by omega) (by omega), by omega, b, by rw [e2]; exact hb, _, c_numberR b, fun _ => ⟨by omega, i64_ok (by omega) (by omega), back _ (j + 1, i + 2, l ++ [(numRV a, numRV b)]) ?_ ⟨by dsimp only; omega, ?_, by dsimp only; simp only [List.length_append, List.length_cons, List.length_nil]; omega, by dsimp only; omega⟩ (by dsimp only; omega)⟩⟩⟩
      · exact (by refine ⟨?_, ?_, rfl, rfl⟩ <;> repeat' (first | exact trivial | (refine And.intro (Or.inl rfl) ?_) | (refine And.intro (Or.inr (Or.inl rfl)) ?_) | (refine And.intro (Or.inr (Or.inr (Or.inr ⟨rfl, rfl⟩))) ?_) | (refine And.intro (Or.inr (Or.inr (Or.inl ⟨rfl, rfl, trivial⟩))) ?_) | exact ⟨(by show (_ : Nat) < 1000000000; omega), rfl, rfl⟩ | rfl | (refine And.intro (Or.inl ?_) ?_) | (refine And.intro ?_ ?_)))
      · dsimp only
        rw [← h2, pairsR_step ha hb, List.append_assoc]; rfl
    · rw [pairsR_end (by omega), List.append_nil] at h2
      rw [h2]; rfl
  have f4 : k = 4 → PC env 30 [⟨.int .i64, k⟩, ⟨.sl .str, f⟩] EventT (fillE k f) := fun e => by
    subst e
    refine PC.of_PW (m := 2000) env_ok fn_30 rfl rfl rfl rfl (by kernel_rfl) ?_; intro hx; simp only [Tryd.f30]; simp only [go_sem, Nat.reduceBEq, ↓reduceIte, ↓reduceDIte, Nat.reduceAdd, Nat.reduceSub, Nat.reduceMul, Nat.reduceLeDiff, ← Bool.decide_and, ← Bool.decide_or, ← decide_not, Int.reduceLT, Int.reduceLE, Int.reduceToNat, Int.reduceNeg, by_nil, by32, Int.reduceEq, not_true_eq_false, not_false_eq_true, false_implies]
    refine Walks.loopA (X := Nat × Int × List (Int × Int)) (fun (z : Nat × Int × List (Int × Int)) => [(6, .iv (.int .i64) z.2.1)]) (fun (z : Nat × Int × List (Int × Int)) => [(5, .box [.iv (.int .i64) 4, .iv .str [], .lfull 1000, .iv .str [], .iv (.int .i64) 0, .iv (.int .i64) 0]), (1000, .arr PointT z.2.2)]) (fun (z : Nat × Int × List (Int × Int)) => 2 * z.1 ≤ f.length + 1 ∧ z.2.2 ++ pairsR (f.drop (2 * z.1)) = pairsR f ∧ z.2.2.length ≤ z.1 ∧ z.2.1 = 2 * (z.1 : Int)) (fun (z : Nat × Int × List (Int × Int)) => f.length - 2 * z.1) (0, 0, []) ?_; intro b1 b2 hb1 hb2; simp (config := {maxSteps := 4000000}) only [go_sem, Nat.reduceBEq, ↓reduceIte, ↓reduceDIte, Nat.reduceAdd, Nat.reduceSub, Nat.reduceMul, Nat.reduceLeDiff, ← Bool.decide_and, ← Bool.decide_or, ← decide_not, Int.reduceLT, Int.reduceLE, Int.reduceToNat, Int.reduceNeg, by_nil, by32, Int.reduceEq, not_true_eq_false, not_false_eq_true, false_implies] at hb1 hb2; subst hb1; subst hb2; refine ⟨(by refine ⟨?_, ?_, rfl, rfl⟩ <;> repeat' (first | exact trivial | (refine And.intro (Or.inl rfl) ?_) | (refine And.intro (Or.inr (Or.inl rfl)) ?_) | (refine And.intro (Or.inr (Or.inr (Or.inr ⟨rfl, rfl⟩))) ?_) | (refine And.intro (Or.inr (Or.inr (Or.inl ⟨rfl, rfl, trivial⟩))) ?_) | exact ⟨(by show (_ : Nat) < 1000000000; omega), rfl, rfl⟩ | rfl | (refine And.intro (Or.inl ?_) ?_) | (refine And.intro ?_ ?_))), ?_, ?_⟩
    · exact ⟨Nat.zero_le _, rfl, Nat.le_refl _, rfl⟩
    intro ⟨j, i, l⟩ ⟨h1, h2, h3, h4⟩ back
    dsimp only at h1 h2 h3 h4
    refine PW_sound env_ok ⟨_, fn_30, rfl⟩ 2000 _ _ (by kernel_rfl) ?_; simp only [go_sem, Nat.reduceBEq, ↓reduceIte, ↓reduceDIte, Nat.reduceAdd, Nat.reduceSub, Nat.reduceMul, Nat.reduceLeDiff, ← Bool.decide_and, ← Bool.decide_or, ← decide_not, Int.reduceLT, Int.reduceLE, Int.reduceToNat, Int.reduceNeg, by_nil, by32, Int.reduceEq, not_true_eq_false, not_false_eq_true, false_implies]
    refine ⟨i64_ok (by omega) (by omega), fun h => ?_, fun h => ?_⟩
    · obtain ⟨a, ha⟩ := get_of_lt (xs := f) (i := 2 * j) (by omega)
      obtain ⟨b, hb⟩ := get_of_lt (xs := f) (i := 2 * j + 1) (by omega)
      have e1 : i.toNat = 2 * j := by omega
      have e2 : (i + 1).toNat = 2 * j + 1 := by omega
      refine ⟨by omega, a, by rw [e1]; exact ha, _, c_numberR a, fun _ => ⟨i64_ok (by omega) (by omega), by omega, b, by rw [e2]; exact hb, _, c_numberR b, fun _ => ⟨by omega, i64_ok (by omega) (by omega), back _ (j + 1, i + 2, l ++ [(numRV a, numRV b)]) ?_ ⟨by dsimp only; omega, ?_, by dsimp only; simp only [List.length_append, List.length_cons, List.length_nil]; omega, by dsimp only; omega⟩ (by dsimp only; omega)⟩⟩⟩
      · exact (by refine ⟨?_, ?_, rfl, rfl⟩ <;> repeat' (first | exact trivial | (refine And.intro (Or.inl rfl) ?_) | (refine And.intro (Or.inr (Or.inl rfl)) ?_) | (refine And.intro (Or.inr (Or.inr (Or.inr ⟨rfl, rfl⟩))) ?_) | (refine And.intro (Or.inr (Or.inr (Or.inl ⟨rfl, rfl, trivial⟩))) ?_) | exact ⟨(by show (_ : Nat) < 1000000000; omega), rfl, rfl⟩ | rfl | (refine And.intro (Or.inl ?_) ?_) | (refine And.intro ?_ ?_)))
      · dsimp only
        rw [← h2, pairsR_step ha hb, List.append_assoc]; rfl
    · rw [pairsR_end (by omega), List.append_nil] at h2
      rw [h2]; rfl
  have f5 : k = 5 → PC env 30 [⟨.int .i64, k⟩, ⟨.sl .str, f⟩] EventT (fillE k f) := fun e => by
    subst e
    refine PC.of_PW (m := 2000) env_ok fn_30 rfl rfl rfl rfl (by kernel_rfl) ?_; intro hx; simp only [Tryd.f30]; simp only [go_sem, Nat.reduceBEq, ↓reduceIte, ↓reduceDIte, Nat.reduceAdd, Nat.reduceSub, Nat.reduceMul, Nat.reduceLeDiff, ← Bool.decide_and, ← Bool.decide_or, ← decide_not, Int.reduceLT, Int.reduceLE, Int.reduceToNat, Int.reduceNeg, by_nil, by32, Int.reduceEq, not_true_eq_false, not_false_eq_true, false_implies]
    match f with
    | [] => exact ⟨fun h => by simp at h, fun _ => rfl⟩
    | [s] => exact ⟨fun h => ⟨s, rfl, rfl⟩, fun h => by simp at h⟩
    | _ :: _ :: _ => exact ⟨fun h => by simp at h; omega, fun _ => rfl⟩
  have f9 : k = 9 → PC env 30 [⟨.int .i64, k⟩, ⟨.sl .str, f⟩] EventT (fillE k f) := fun e => by
    subst e
    refine PC.of_PW (m := 2000) env_ok fn_30 rfl rfl rfl rfl (by kernel_rfl) ?_; intro hx; simp only [Tryd.f30]; simp only [go_sem, Nat.reduceBEq, ↓reduceIte, ↓reduceDIte, Nat.reduceAdd, Nat.reduceSub, Nat.reduceMul, Nat.reduceLeDiff, ← Bool.decide_and, ← Bool.decide_or, ← decide_not, Int.reduceLT, Int.reduceLE, Int.reduceToNat, Int.reduceNeg, by_nil, by32, Int.reduceEq, not_true_eq_false, not_false_eq_true, false_implies]
    match f with
    | [] => exact ⟨fun h => by simp at h, fun _ => rfl⟩
    | [s] => exact ⟨fun h => by simp at h, fun _ => rfl⟩
    | [s, t] => exact ⟨fun h => ⟨s, rfl, _, c_numberR s, fun _ => ⟨t, rfl, _, c_numberR t, fun _ => rfl⟩⟩, fun h => by simp at h⟩
    | _ :: _ :: _ :: _ => exact ⟨fun h => by simp at h; omega, fun _ => rfl⟩
  have f10 : k = 10 → PC env 30 [⟨.int .i64, k⟩, ⟨.sl .str, f⟩] EventT (fillE k f) := fun e => by
    subst e
    refine PC.of_PW (m := 2000) env_ok fn_30 rfl rfl rfl rfl (by kernel_rfl) ?_; intro hx; simp only [Tryd.f30]; simp only [go_sem, Nat.reduceBEq, ↓reduceIte, ↓reduceDIte, Nat.reduceAdd, Nat.reduceSub, Nat.reduceMul, Nat.reduceLeDiff, ← Bool.decide_and, ← Bool.decide_or, ← decide_not, Int.reduceLT, Int.reduceLE, Int.reduceToNat, Int.reduceNeg, by_nil, by32, Int.reduceEq, not_true_eq_false, not_false_eq_true, false_implies]
    match f with
    | [] => exact ⟨fun h => by simp at h, fun _ => rfl⟩
    | [s] => exact ⟨fun h => ⟨s, rfl, _, c_numberR s, fun _ => rfl⟩, fun h => by simp at h⟩
    | _ :: _ :: _ => exact ⟨fun h => by simp at h; omega, fun _ => rfl⟩
  by_cases hr : k = 1 ∨ k = 2 ∨ k = 3 ∨ k = 4 ∨ k = 5 ∨ k = 9 ∨ k = 10
  · rcases hr with h | h | h | h | h | h | h
    · exact f1 h
    · exact f2 h
    · exact f3 h
    · exact f4 h
    · exact f5 h
    · exact f9 h
    · exact f10 h
  · have : fillE k f = (k, [], [], [], 0, 0) := by
      unfold fillE
      rw [if_neg (by omega), if_neg (by omega), if_neg (by omega), if_neg (by omega), if_neg (by omega)]
    rw [this]
    have g1 : ¬ k = 1 := by omega
    have g2 : ¬ k = 2 := by omega
    have g3 : ¬ k = 3 := by omega
    have g4 : ¬ k = 4 := by omega
    have g5 : ¬ k = 5 := by omega
    have g9 : ¬ k = 9 := by omega
    have g10 : ¬ k = 10 := by omega
    refine PC.of_PW (m := 2000) env_ok fn_30 rfl rfl rfl rfl (by kernel_rfl) ?_; intro hx; simp only [Tryd.f30]; simp only [go_sem, Nat.reduceBEq, ↓reduceIte, ↓reduceDIte, Nat.reduceAdd, Nat.reduceSub, Nat.reduceMul, Nat.reduceLeDiff, ← Bool.decide_and, ← Bool.decide_or, ← decide_not, Int.reduceLT, Int.reduceLE, Int.reduceToNat, Int.reduceNeg, by_nil, by32, Int.reduceEq, not_true_eq_false, not_false_eq_true, false_implies, g1, g2, g3, g4, g5, g9, g10]
theorem numR_itoa {n : Int} (h : 0 ≤ n) (h2 : n ≤ 1000) : numRV (itoa n) = n := by
  obtain ⟨x, r, e, _⟩ := dec_head n.toNat
  unfold numRV
  rw [itoa_dec h, if_pos ⟨by rw [e]; simp, dig_dec _⟩, valS_dec]; omega
theorem pairsR_pts : ∀ {p : List (Int × Int)}, p.all cooP = true → pairsR (ptsS p) = p
  | [], _ => rfl
  | q :: r, h => by
    have hq := coo_nn h (List.mem_cons_self ..)
    have hr : r.all cooP = true := by simp only [List.all_cons, Bool.and_eq_true] at h; exact h.2
    have e : ptsS (q :: r) = itoa q.1 :: itoa q.2 :: ptsS r := rfl
    rw [e]
    simp only [pairsR, numR_itoa hq.1.1 hq.1.2, numR_itoa hq.2.1 hq.2.2, pairsR_pts hr]
theorem fill_wr {e : Ev} (h : validE e = true) : fillE e.1 (wr e) = e := by
  obtain ⟨hk, hc⟩ := valid_cases h
  obtain ⟨k, keys, p, t, n, l⟩ := e
  rcases hc with ⟨hk, h1, h2, h3⟩ | ⟨hk, h1, h2, h3, h4⟩ | ⟨hk, h1, h2, h3, h4, h5⟩ | ⟨hk, h1, h2, h3, h4, h5⟩ | ⟨hk, h1, h2, h3, h4, h5⟩ | ⟨hk, h1⟩ <;> dsimp only at *
  · unfold fillE
    rw [wr, if_pos hk, if_pos hk, h3]
  · unfold fillE
    rw [wr, if_neg (by omega), if_pos hk, if_neg (by omega), if_pos hk, h1, h4]
    rw [pairsR_pts h2]
  · subst hk; subst h1; subst h2; rw [h5]; rfl
  · subst hk; subst h1; subst h2; subst h3
    show ((9 : Int), ([] : Str), ([] : List (Int × Int)), ([] : Str), numRV (itoa n), numRV (itoa l)) = _
    rw [numR_itoa h4.1 (by omega), numR_itoa (n := l) (by omega) (by omega)]
  · subst hk; subst h1; subst h2; subst h3; subst h5
    show ((10 : Int), ([] : Str), ([] : List (Int × Int)), ([] : Str), numRV (itoa n), (0 : Int)) = _
    rw [numR_itoa h4.1 (by omega)]
  · rw [h1]; rcases hk with rfl | rfl | rfl | rfl | rfl <;> rfl
theorem spl_len (c : UInt8) : ∀ (s : Str), (spl c s).length ≤ s.length + 1
  | [] => Nat.le_refl _
  | x :: r => by
    have ih := spl_len c r
    unfold spl
    split
    · simp only [List.length_cons]; omega
    · split
      · simp
      · rename_i h t e
        rw [e] at ih
        simp only [List.length_cons] at ih ⊢; omega
theorem c_ParseR (s : Str) (hs : s.length < 1000000) : PC env 14 [⟨.str, s⟩] (.tup EventT (.int .i64)) (parseS s) := by
  have hspl := spl_len 32 s
  refine PC.of_PW (m := 2000) env_ok fn_14 rfl rfl rfl rfl (by kernel_rfl) ?_; intro hx; simp only [Tryd.f14]; simp only [go_sem, Nat.reduceBEq, ↓reduceIte, ↓reduceDIte, Nat.reduceAdd, Nat.reduceSub, Nat.reduceMul, Nat.reduceLeDiff, ← Bool.decide_and, ← Bool.decide_or, ← decide_not, Int.reduceLT, Int.reduceLE, Int.reduceToNat, Int.reduceNeg, by_nil, by32, Int.reduceEq, not_true_eq_false, not_false_eq_true, false_implies]
  refine ⟨_, c_SplitR s 32 (by omega), fun hf => ⟨_, c_words, fun _ => ?_⟩⟩
  refine Walks.loopA (X := Int) (fun (k : Int) => [(6, .iv (.int .i64) k)]) (fun (k : Int) => []) (fun (k : Int) => (1 ≤ k ∧ k ≤ 13) ∧ ∀ j, 1 ≤ j → j < k → ¬ (nameK j = (spl 32 s).headD [] ∧ validE (fillE j ((spl 32 s).drop 1)) = true ∧ lineS (fillE j ((spl 32 s).drop 1)) = s)) (fun (k : Int) => (13 - k).toNat) 1 ?_; intro b1 b2 hb1 hb2; simp (config := {maxSteps := 4000000}) only [go_sem, Nat.reduceBEq, ↓reduceIte, ↓reduceDIte, Nat.reduceAdd, Nat.reduceSub, Nat.reduceMul, Nat.reduceLeDiff, ← Bool.decide_and, ← Bool.decide_or, ← decide_not, Int.reduceLT, Int.reduceLE, Int.reduceToNat, Int.reduceNeg, by_nil, by32, Int.reduceEq, not_true_eq_false, not_false_eq_true, false_implies] at hb1 hb2; subst hb1; subst hb2; refine ⟨(by refine ⟨?_, ?_, rfl, rfl⟩ <;> repeat' (first | exact trivial | (refine And.intro (Or.inl rfl) ?_) | (refine And.intro (Or.inr (Or.inl rfl)) ?_) | (refine And.intro (Or.inr (Or.inr (Or.inr ⟨rfl, rfl⟩))) ?_) | (refine And.intro (Or.inr (Or.inr (Or.inl ⟨rfl, rfl, trivial⟩))) ?_) | exact ⟨(by show (_ : Nat) < 1000000000; omega), rfl, rfl⟩ | rfl | (refine And.intro (Or.inl ?_) ?_) | (refine And.intro ?_ ?_))), ?_, ?_⟩
  · exact ⟨by decide, fun j h1 h2 => by omega⟩
  intro k ⟨hk, hb⟩ back
  have hwl : wordsL.length = 13 := rfl
  refine PW_sound env_ok ⟨_, fn_14, rfl⟩ 2000 _ _ (by kernel_rfl) ?_; simp only [go_sem, Nat.reduceBEq, ↓reduceIte, ↓reduceDIte, Nat.reduceAdd, Nat.reduceSub, Nat.reduceMul, Nat.reduceLeDiff, ← Bool.decide_and, ← Bool.decide_or, ← decide_not, Int.reduceLT, Int.reduceLE, Int.reduceToNat, Int.reduceNeg, by_nil, by32, Int.reduceEq, not_true_eq_false, not_false_eq_true, false_implies]
  obtain ⟨y, hy⟩ : ∃ y, (spl 32 s)[0]? = some y := get_of_lt (by have := spl_ne 32 s; cases h : spl 32 s with | nil => exact absurd h this | cons => simp)
  have hhd : (spl 32 s).headD [] = y := by cases h : spl 32 s with | nil => rw [h] at hy; simp at hy | cons => rw [h] at hy; simpa using hy
  have hlen : (1 : Int) ≤ ((spl 32 s).length : Nat) := by have := spl_ne 32 s; have : (spl 32 s).length ≠ 0 := fun h => this (List.eq_nil_of_length_eq_zero h); omega
  refine ⟨fun h => ?_, fun h => ?_⟩
  · have hk12 : 1 ≤ k ∧ k ≤ 12 := by omega
    have hnext : ¬ (nameK k = (spl 32 s).headD [] ∧ validE (fillE k ((spl 32 s).drop 1)) = true ∧ lineS (fillE k ((spl 32 s).drop 1)) = s) → ∀ j, 1 ≤ j → j < k + 1 → ¬ (nameK j = (spl 32 s).headD [] ∧ validE (fillE j ((spl 32 s).drop 1)) = true ∧ lineS (fillE j ((spl 32 s).drop 1)) = s) := fun hn j h1 h2 => by
      by_cases e : j = k
      · subst e; exact hn
      · exact hb j h1 (by omega)
    refine ⟨by omega, _, words_at hk12, y, hy, fun h1 => ⟨i64_ok (by omega) (by omega), back _ (k + 1) (by refine ⟨?_, ?_, rfl, rfl⟩ <;> repeat' (first | exact trivial | (refine And.intro (Or.inl rfl) ?_) | (refine And.intro (Or.inr (Or.inl rfl)) ?_) | (refine And.intro (Or.inr (Or.inr (Or.inr ⟨rfl, rfl⟩))) ?_) | (refine And.intro (Or.inr (Or.inr (Or.inl ⟨rfl, rfl, trivial⟩))) ?_) | exact ⟨(by show (_ : Nat) < 1000000000; omega), rfl, rfl⟩ | rfl | (refine And.intro (Or.inl ?_) ?_) | (refine And.intro ?_ ?_))) ⟨by omega, hnext fun hn => h1 (by rw [hn.1, hhd])⟩ (by omega)⟩, fun h1 => ⟨hlen, _, c_fill k _ hk12 (by rw [List.length_drop]; omega), fun _ => ⟨_, (c_ValidR _).dec, ?_⟩⟩⟩
    simp only [go_sem, Nat.reduceBEq, ↓reduceIte, ↓reduceDIte, Nat.reduceAdd, Nat.reduceSub, Nat.reduceMul, Nat.reduceLeDiff, ← Bool.decide_and, ← Bool.decide_or, ← decide_not, Int.reduceLT, Int.reduceLE, Int.reduceToNat, Int.reduceNeg, by_nil, by32, Int.reduceEq, not_true_eq_false, not_false_eq_true, false_implies]
    generalize fillE k ((spl 32 s).drop 1) = e at hnext ⊢
    obtain ⟨k', keys, p, t, n, l⟩ := e
    refine ⟨fun h2 => ⟨_, c_PrintR _ h2, fun _ => ⟨fun h3 => (parse_iff.2 ⟨h2, h3⟩).symm, fun h3 => ⟨i64_ok (by omega) (by omega), back _ (k + 1) ?_ ⟨by omega, hnext fun hn => h3 hn.2.2⟩ (by omega)⟩⟩⟩, fun h2 => ⟨i64_ok (by omega) (by omega), back _ (k + 1) ?_ ⟨by omega, hnext fun hn => h2 hn.2.1⟩ (by omega)⟩⟩
    · exact (by refine ⟨?_, ?_, rfl, rfl⟩ <;> repeat' (first | exact trivial | (refine And.intro (Or.inl rfl) ?_) | (refine And.intro (Or.inr (Or.inl rfl)) ?_) | (refine And.intro (Or.inr (Or.inr (Or.inr ⟨rfl, rfl⟩))) ?_) | (refine And.intro (Or.inr (Or.inr (Or.inl ⟨rfl, rfl, trivial⟩))) ?_) | exact ⟨(by show (_ : Nat) < 1000000000; omega), rfl, rfl⟩ | rfl | (refine And.intro (Or.inl ?_) ?_) | (refine And.intro ?_ ?_)))
    · exact (by refine ⟨?_, ?_, rfl, rfl⟩ <;> repeat' (first | exact trivial | (refine And.intro (Or.inl rfl) ?_) | (refine And.intro (Or.inr (Or.inl rfl)) ?_) | (refine And.intro (Or.inr (Or.inr (Or.inr ⟨rfl, rfl⟩))) ?_) | (refine And.intro (Or.inr (Or.inr (Or.inl ⟨rfl, rfl, trivial⟩))) ?_) | exact ⟨(by show (_ : Nat) < 1000000000; omega), rfl, rfl⟩ | rfl | (refine And.intro (Or.inl ?_) ?_) | (refine And.intro ?_ ?_)))
  · refine (parse_none fun e he hl => ?_).symm
    have h1 := (valid_cases he).1
    have h2 := spl_line he
    rw [hl] at h2
    refine hb e.1 h1.1 (by omega) ?_
    rw [h2]
    have e1 : (nameK e.1 :: wr e).drop 1 = wr e := rfl
    rw [e1, fill_wr he]
    exact ⟨rfl, he, hl⟩
end Go.Proofs.YtopelldocfbhkaaDoor
