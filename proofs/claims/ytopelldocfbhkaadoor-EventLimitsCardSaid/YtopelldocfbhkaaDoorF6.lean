/- The law EventLimits holds for every input. No condition. -/
import Derived.Test.YtopelldocfbhkaaDoorB5
import Derived.Test.YtopelldocfbhkaaDoorCards
import Derived.Test.YtopelldocfbhkaaDoorTie
import Derived.SevenTiedAt
set_option linter.unusedSimpArgs false
set_option linter.unusedVariables false
--SET+ by_nil, by10, by32, Int.reduceEq, not_true_eq_false, not_false_eq_true, false_implies
namespace Go.Proofs.YtopelldocfbhkaaDoor
set_option maxHeartbeats 4000000
set_option maxRecDepth 100000
open Go.Lib
theorem parse_parts {k : Int} {f : List Str} (hk : 1 ≤ k ∧ k ≤ 12) (hf : ∀ x, x ∈ f → (32 : UInt8) ∉ x) : parseS (joinC 32 (nameK k :: f)) = if ((rd k f).2 && validE (k, (rd k f).1.2)) = true then ((k, (rd k f).1.2), 0) else (ev0, 3) := by
  have hs : spl 32 (joinC 32 (nameK k :: f)) = nameK k :: f := spl_join 32 (by simp) fun x hx => by
    rcases List.mem_cons.1 hx with rfl | hx
    · exact nameK_no _
    · exact hf x hx
  obtain ⟨w, hw⟩ := form_at hk
  have ht : tryF (nameK k :: f) (k, (nameK k, w)) = if ((rd k f).2 && validE (k, (rd k f).1.2)) = true then some (k, (rd k f).1.2) else none := by
    unfold tryF
    exact (if_pos rfl).trans rfl
  by_cases hc : ((rd k f).2 && validE (k, (rd k f).1.2)) = true
  · rw [if_pos hc]
    rw [if_pos hc] at ht
    exact parse_hit hw (by rw [hs]; exact ht)
  · rw [if_neg hc]
    rw [if_neg hc] at ht
    refine parse_miss fun x hx => ?_
    rw [hs]
    by_cases hn : x.2.1 = nameK k
    · have e := forms_one x hx _ hw hn
      rw [e]; exact ht
    · unfold tryF
      exact if_neg hn
theorem ev_code {c : Bool} {e : Ev} : (if c = true then (e, (0 : Int)) else (ev0, 3)).2 = if c = true then 0 else 3 := by cases c <;> rfl
theorem no32_digit {d : UInt8} (h : d ≠ 32) : (32 : UInt8) ∉ [d] := by simp [Ne.symm h]
/-- The five lines with a number. -/
theorem lim_touch1 {v : Int} (h : 0 ≤ v) (h2 : v ≤ 1100) : (parseS ([116, 111, 117, 99, 104, 32] ++ itoa v ++ [32, 48])).2 = if v ≤ 1000 then 0 else 3 := by
  have e : ([116, 111, 117, 99, 104, 32] ++ itoa v ++ [32, 48] : Str) = joinC 32 (nameK 3 :: [itoa v, [48]]) := by
    show _ = [116, 111, 117, 99, 104] ++ 32 :: (itoa v ++ 32 :: [48])
    simp
  rw [e, parse_parts (by decide) (fun x hx => by
    simp only [List.mem_cons, List.not_mem_nil, or_false] at hx
    rcases hx with rfl | rfl
    · exact no32_itoa h
    · decide), ev_code]
  have n1 := num_itoa h (by omega)
  have hr : rd 3 [itoa v, [48]] = ((0, [], [(v, 0)], [], 0, 0), true) := by
    show rPoints _ = _
    unfold rPoints
    rw [if_pos ⟨⟨by simp, by simp⟩, by simp only [List.all_cons, n1.1]; rfl⟩]
    simp only [pairsS, n1.2]; rfl
  rw [hr]
  have : validE (3, [], [(v, 0)], [], 0, 0) = decide (v ≤ 1000) := by
    simp [validE, partK, partP, partT, partN, cooP, inB]; omega
  simp [this]
theorem lim_touch2 {v : Int} (h : 0 ≤ v) (h2 : v ≤ 1100) : (parseS ([116, 111, 117, 99, 104, 32, 48, 32] ++ itoa v)).2 = if v ≤ 1000 then 0 else 3 := by
  have e : ([116, 111, 117, 99, 104, 32, 48, 32] ++ itoa v : Str) = joinC 32 (nameK 3 :: [[48], itoa v]) := rfl
  rw [e, parse_parts (by decide) (fun x hx => by
    simp only [List.mem_cons, List.not_mem_nil, or_false] at hx
    rcases hx with rfl | rfl
    · decide
    · exact no32_itoa h), ev_code]
  have n1 := num_itoa h (by omega)
  have hr : rd 3 [[48], itoa v] = ((0, [], [(0, v)], [], 0, 0), true) := by
    show rPoints _ = _
    unfold rPoints
    rw [if_pos ⟨⟨by simp, by simp⟩, by simp only [List.all_cons, n1.1]; rfl⟩]
    simp only [pairsS, n1.2]; rfl
  rw [hr]
  have : validE (3, [], [(0, v)], [], 0, 0) = decide (v ≤ 1000) := by
    simp [validE, partK, partP, partT, partN, cooP, inB]; omega
  simp [this]
theorem lim_hold1 {v : Int} (h : 0 ≤ v) (h2 : v ≤ 1100) : (parseS ([104, 111, 108, 100, 32] ++ itoa v ++ [32, 49])).2 = if v ≤ 39 then 0 else 3 := by
  have e : ([104, 111, 108, 100, 32] ++ itoa v ++ [32, 49] : Str) = joinC 32 (nameK 9 :: [itoa v, [49]]) := by
    show _ = [104, 111, 108, 100] ++ 32 :: (itoa v ++ 32 :: [49])
    simp
  rw [e, parse_parts (by decide) (fun x hx => by
    simp only [List.mem_cons, List.not_mem_nil, or_false] at hx
    rcases hx with rfl | rfl
    · exact no32_itoa h
    · decide), ev_code]
  have n1 := num_itoa h (by omega)
  have hr : rd 9 [itoa v, [49]] = ((0, [], [], [], v, 1), true) := by
    show ((0, [], [], [], numV (itoa v), numV [49]), numOK (itoa v) && numOK [49]) = _
    rw [n1.1, n1.2]; rfl
  rw [hr]
  have : validE (9, [], [], [], v, 1) = decide (v ≤ 39) := by
    simp [validE, partK, partP, partT, partN]; omega
  simp [this]
theorem lim_hold2 {v : Int} (h : 0 ≤ v) (h2 : v ≤ 1100) : (parseS ([104, 111, 108, 100, 32, 48, 32] ++ itoa v)).2 = if 1 ≤ v ∧ v ≤ 40 then 0 else 3 := by
  have e : ([104, 111, 108, 100, 32, 48, 32] ++ itoa v : Str) = joinC 32 (nameK 9 :: [[48], itoa v]) := rfl
  rw [e, parse_parts (by decide) (fun x hx => by
    simp only [List.mem_cons, List.not_mem_nil, or_false] at hx
    rcases hx with rfl | rfl
    · decide
    · exact no32_itoa h), ev_code]
  have n1 := num_itoa h (by omega)
  have hr : rd 9 [[48], itoa v] = ((0, [], [], [], 0, v), true) := by
    show ((0, [], [], [], numV [48], numV (itoa v)), numOK [48] && numOK (itoa v)) = _
    rw [n1.1, n1.2]; rfl
  rw [hr]
  have : validE (9, [], [], [], 0, v) = decide (1 ≤ v ∧ v ≤ 40) := by
    simp [validE, partK, partP, partT, partN]
  simp [this]
theorem lim_choose {v : Int} (h : 0 ≤ v) (h2 : v ≤ 1100) : (parseS ([99, 104, 111, 111, 115, 101, 32] ++ itoa v)).2 = if v ≤ 49 then 0 else 3 := by
  have e : ([99, 104, 111, 111, 115, 101, 32] ++ itoa v : Str) = joinC 32 (nameK 10 :: [itoa v]) := rfl
  rw [e, parse_parts (by decide) (fun x hx => by
    simp only [List.mem_cons, List.not_mem_nil, or_false] at hx
    subst hx
    exact no32_itoa h), ev_code]
  have n1 := num_itoa h (by omega)
  have hr : rd 10 [itoa v] = ((0, [], [], [], v, 0), true) := by
    show ((0, [], [], [], numV (itoa v), (0 : Int)), numOK (itoa v)) = _
    rw [n1.1, n1.2]
  rw [hr]
  have : validE (10, [], [], [], v, 0) = decide (v ≤ 49) := by
    simp [validE, partK, partP, partT, partN]; omega
  simp [this]
/-- The strokes and the pasted texts: by trying them all. -/
def strokeS (n : Nat) : Str := [115, 116, 114, 111, 107, 101] ++ (List.replicate n [32, 55, 32, 56]).flatten
def pasteS (n : Nat) : Str := [112, 97, 115, 116, 101, 32] ++ List.replicate n 122
theorem lim_stroke : ∀ n : Nat, n < 15 → (parseS (strokeS n)).2 = if 2 ≤ n ∧ n ≤ 12 then 0 else 3 := by decide +kernel
theorem lim_paste : ∀ n : Nat, n < 24 → (parseS (pasteS n)).2 = if 1 ≤ n ∧ n ≤ 20 then 0 else 3 := by decide +kernel
theorem strokeS_len (n : Nat) : (strokeS n).length = 6 + 4 * n := by
  unfold strokeS
  induction n with
  | zero => rfl
  | succ n ih => rw [List.replicate_succ, List.flatten_cons]; simp only [List.length_append, List.length_cons, List.length_nil] at ih ⊢; omega
theorem strokeS_step (n : Nat) : strokeS (n + 1) = strokeS n ++ [32, 55, 32, 56] := by
  unfold strokeS
  rw [List.replicate_succ', List.flatten_append, List.append_assoc]; rfl
theorem pasteS_step (n : Nat) : pasteS (n + 1) = pasteS n ++ [122] := by
  unfold pasteS
  rw [List.replicate_succ', List.append_assoc]
theorem pasteS_len (n : Nat) : (pasteS n).length = 6 + n := by unfold pasteS; simp; omega
theorem c_Limits (n p l : Int) : PC env 9 [⟨.int .u16, n⟩, ⟨.int .u8, p⟩, ⟨.int .u8, l⟩] .bool true := by
  refine PC.of_PW (m := 2000) env_ok fn_9 rfl rfl rfl rfl (by kernel_rfl) ?_; intro hx; simp only [Tryd.f9]; simp only [go_sem, Nat.reduceBEq, ↓reduceIte, ↓reduceDIte, Nat.reduceAdd, Nat.reduceSub, Nat.reduceMul, Nat.reduceLeDiff, ← Bool.decide_and, ← Bool.decide_or, ← decide_not, Int.reduceLT, Int.reduceLE, Int.reduceToNat, Int.reduceNeg, by_nil, by10, by32, Int.reduceEq, not_true_eq_false, not_false_eq_true, false_implies]
  have hn : 0 ≤ n := hx.1.1
  have hp := u8_of hx.2.1
  have hl := u8_of hx.2.2.1
  have t1 : Int.tmod n 1101 = n % 1101 := Int.tmod_eq_emod_of_nonneg hn
  have t2 : Int.tmod p 15 = p % 15 := Int.tmod_eq_emod_of_nonneg hp.1
  have t3 : Int.tmod l 24 = l % 24 := Int.tmod_eq_emod_of_nonneg hl.1
  rw [t1]
  obtain ⟨v, hv⟩ : ∃ v, v = n % 1101 := ⟨_, rfl⟩
  rw [← hv]
  have h0 : 0 ≤ v := by omega
  have h1 : v ≤ 1100 := by omega
  have hlen : (itoa v).length ≤ 4 := by rw [itoa_dec h0]; exact dec_len 3 _ (by omega)
  have p1 := lim_touch1 h0 h1
  have p2 := lim_touch2 h0 h1
  have p3 := lim_hold1 h0 h1
  have p4 := lim_hold2 h0 h1
  have p5 := lim_choose h0 h1
  have c1 := c_Parse ([116, 111, 117, 99, 104, 32] ++ itoa v ++ [32, 48]) (by simp only [List.length_append, List.length_cons, List.length_nil]; omega)
  have c2 := c_Parse ([116, 111, 117, 99, 104, 32, 48, 32] ++ itoa v) (by simp only [List.length_append, List.length_cons, List.length_nil]; omega)
  have c3 := c_Parse ([104, 111, 108, 100, 32] ++ itoa v ++ [32, 49]) (by simp only [List.length_append, List.length_cons, List.length_nil]; omega)
  have c4 := c_Parse ([104, 111, 108, 100, 32, 48, 32] ++ itoa v) (by simp only [List.length_append, List.length_cons, List.length_nil]; omega)
  have c5 := c_Parse ([99, 104, 111, 111, 115, 101, 32] ++ itoa v) (by simp only [List.length_append, List.length_cons, List.length_nil]; omega)
  generalize parseS ([116, 111, 117, 99, 104, 32] ++ itoa v ++ [32, 48]) = r1 at p1 c1
  generalize parseS ([116, 111, 117, 99, 104, 32, 48, 32] ++ itoa v) = r2 at p2 c2
  generalize parseS ([104, 111, 108, 100, 32] ++ itoa v ++ [32, 49]) = r3 at p3 c3
  generalize parseS ([104, 111, 108, 100, 32, 48, 32] ++ itoa v) = r4 at p4 c4
  generalize parseS ([99, 104, 111, 111, 115, 101, 32] ++ itoa v) = r5 at p5 c5
  have L : ∀ (k : Nat) (s : Str), s.length = k → k ≤ 1000 → s.length + (itoa v).length ≤ 9223372036854775807 := fun k s h1 h2 => by omega
  refine ⟨_, c_sanity, _, c_Decimal h0 (by omega), fun _ => ⟨L 6 _ rfl (by decide), ?_⟩⟩
  refine ⟨by simp only [List.length_append]; exact Nat.le_trans (Nat.add_le_add_right (Nat.add_le_add_left hlen _) _) (by decide), _, c1, fun _ => ⟨L 8 _ rfl (by decide), _, c2, fun _ => ⟨L 5 _ rfl (by decide), ?_⟩⟩⟩
  refine ⟨by simp only [List.length_append]; exact Nat.le_trans (Nat.add_le_add_right (Nat.add_le_add_left hlen _) _) (by decide), _, c3, fun _ => ⟨L 7 _ rfl (by decide), _, c4, fun _ => ⟨L 7 _ rfl (by decide), _, c5, fun _ => ?_⟩⟩⟩
  rw [p1, p2, p3, p4, p5]
  apply Walks.shareX (X := Unit) (fun _ => ⟨[(21, .iv (.int .i64) (0 : Int)), (20, .iv .str (strokeS 0)), (7, .iv .bool true), (1, .iv (.int .u8) p), (2, .iv (.int .u8) l)], []⟩) (fun _ => True)
  · intro key
    have hcases : v = 0 ∨ (1 ≤ v ∧ v ≤ 39) ∨ v = 40 ∨ (41 ≤ v ∧ v ≤ 49) ∨ (50 ≤ v ∧ v ≤ 1000) ∨ 1001 ≤ v := by omega
    rcases hcases with h | h | h | h | h | h
    · have g1 : v ≤ 1000 := by omega
      have g2 : v ≤ 39 := by omega
      have g3 : ¬ (1 ≤ v ∧ v ≤ 40) := by omega
      have g4 : v ≤ 49 := by omega
      have g5 : ¬ 1 ≤ v := by omega
      have g6 : v ≤ 40 := by omega
      rw [if_pos g1, if_pos g2, if_neg g3, if_pos g4]
      simp only [go_sem, Nat.reduceBEq, ↓reduceIte, ↓reduceDIte, Nat.reduceAdd, Nat.reduceSub, Nat.reduceMul, Nat.reduceLeDiff, ← Bool.decide_and, ← Bool.decide_or, ← decide_not, Int.reduceLT, Int.reduceLE, Int.reduceToNat, Int.reduceNeg, by_nil, by10, by32, Int.reduceEq, not_true_eq_false, not_false_eq_true, false_implies, g1, g2, g4, g5, g6]
      exact key _ () trivial (by refine ⟨?_, ?_, rfl, rfl⟩ <;> repeat' (first | exact trivial | (refine And.intro (Or.inl rfl) ?_) | (refine And.intro (Or.inr (Or.inl rfl)) ?_) | (refine And.intro (Or.inr (Or.inr (Or.inr ⟨rfl, rfl⟩))) ?_) | (refine And.intro (Or.inr (Or.inr (Or.inl ⟨rfl, rfl, trivial⟩))) ?_) | exact ⟨(by show (_ : Nat) < 1000000000; omega), rfl, rfl⟩ | rfl | (refine And.intro (Or.inl ?_) ?_) | (refine And.intro ?_ ?_)))
    · have g1 : v ≤ 1000 := by omega
      have g2 : v ≤ 39 := by omega
      have g3 : (1 ≤ v ∧ v ≤ 40) := by omega
      have g4 : v ≤ 49 := by omega
      have g5 : 1 ≤ v := by omega
      have g6 : v ≤ 40 := by omega
      rw [if_pos g1, if_pos g2, if_pos g3, if_pos g4]
      simp only [go_sem, Nat.reduceBEq, ↓reduceIte, ↓reduceDIte, Nat.reduceAdd, Nat.reduceSub, Nat.reduceMul, Nat.reduceLeDiff, ← Bool.decide_and, ← Bool.decide_or, ← decide_not, Int.reduceLT, Int.reduceLE, Int.reduceToNat, Int.reduceNeg, by_nil, by10, by32, Int.reduceEq, not_true_eq_false, not_false_eq_true, false_implies, g1, g2, g4, g5, g6]
      exact key _ () trivial (by refine ⟨?_, ?_, rfl, rfl⟩ <;> repeat' (first | exact trivial | (refine And.intro (Or.inl rfl) ?_) | (refine And.intro (Or.inr (Or.inl rfl)) ?_) | (refine And.intro (Or.inr (Or.inr (Or.inr ⟨rfl, rfl⟩))) ?_) | (refine And.intro (Or.inr (Or.inr (Or.inl ⟨rfl, rfl, trivial⟩))) ?_) | exact ⟨(by show (_ : Nat) < 1000000000; omega), rfl, rfl⟩ | rfl | (refine And.intro (Or.inl ?_) ?_) | (refine And.intro ?_ ?_)))
    · have g1 : v ≤ 1000 := by omega
      have g2 : ¬ v ≤ 39 := by omega
      have g3 : (1 ≤ v ∧ v ≤ 40) := by omega
      have g4 : v ≤ 49 := by omega
      have g5 : 1 ≤ v := by omega
      have g6 : v ≤ 40 := by omega
      rw [if_pos g1, if_neg g2, if_pos g3, if_pos g4]
      simp only [go_sem, Nat.reduceBEq, ↓reduceIte, ↓reduceDIte, Nat.reduceAdd, Nat.reduceSub, Nat.reduceMul, Nat.reduceLeDiff, ← Bool.decide_and, ← Bool.decide_or, ← decide_not, Int.reduceLT, Int.reduceLE, Int.reduceToNat, Int.reduceNeg, by_nil, by10, by32, Int.reduceEq, not_true_eq_false, not_false_eq_true, false_implies, g1, g2, g4, g5, g6]
      exact key _ () trivial (by refine ⟨?_, ?_, rfl, rfl⟩ <;> repeat' (first | exact trivial | (refine And.intro (Or.inl rfl) ?_) | (refine And.intro (Or.inr (Or.inl rfl)) ?_) | (refine And.intro (Or.inr (Or.inr (Or.inr ⟨rfl, rfl⟩))) ?_) | (refine And.intro (Or.inr (Or.inr (Or.inl ⟨rfl, rfl, trivial⟩))) ?_) | exact ⟨(by show (_ : Nat) < 1000000000; omega), rfl, rfl⟩ | rfl | (refine And.intro (Or.inl ?_) ?_) | (refine And.intro ?_ ?_)))
    · have g1 : v ≤ 1000 := by omega
      have g2 : ¬ v ≤ 39 := by omega
      have g3 : ¬ (1 ≤ v ∧ v ≤ 40) := by omega
      have g4 : v ≤ 49 := by omega
      have g5 : 1 ≤ v := by omega
      have g6 : ¬ v ≤ 40 := by omega
      rw [if_pos g1, if_neg g2, if_neg g3, if_pos g4]
      simp only [go_sem, Nat.reduceBEq, ↓reduceIte, ↓reduceDIte, Nat.reduceAdd, Nat.reduceSub, Nat.reduceMul, Nat.reduceLeDiff, ← Bool.decide_and, ← Bool.decide_or, ← decide_not, Int.reduceLT, Int.reduceLE, Int.reduceToNat, Int.reduceNeg, by_nil, by10, by32, Int.reduceEq, not_true_eq_false, not_false_eq_true, false_implies, g1, g2, g4, g5, g6]
      exact key _ () trivial (by refine ⟨?_, ?_, rfl, rfl⟩ <;> repeat' (first | exact trivial | (refine And.intro (Or.inl rfl) ?_) | (refine And.intro (Or.inr (Or.inl rfl)) ?_) | (refine And.intro (Or.inr (Or.inr (Or.inr ⟨rfl, rfl⟩))) ?_) | (refine And.intro (Or.inr (Or.inr (Or.inl ⟨rfl, rfl, trivial⟩))) ?_) | exact ⟨(by show (_ : Nat) < 1000000000; omega), rfl, rfl⟩ | rfl | (refine And.intro (Or.inl ?_) ?_) | (refine And.intro ?_ ?_)))
    · have g1 : v ≤ 1000 := by omega
      have g2 : ¬ v ≤ 39 := by omega
      have g3 : ¬ (1 ≤ v ∧ v ≤ 40) := by omega
      have g4 : ¬ v ≤ 49 := by omega
      have g5 : 1 ≤ v := by omega
      have g6 : ¬ v ≤ 40 := by omega
      rw [if_pos g1, if_neg g2, if_neg g3, if_neg g4]
      simp only [go_sem, Nat.reduceBEq, ↓reduceIte, ↓reduceDIte, Nat.reduceAdd, Nat.reduceSub, Nat.reduceMul, Nat.reduceLeDiff, ← Bool.decide_and, ← Bool.decide_or, ← decide_not, Int.reduceLT, Int.reduceLE, Int.reduceToNat, Int.reduceNeg, by_nil, by10, by32, Int.reduceEq, not_true_eq_false, not_false_eq_true, false_implies, g1, g2, g4, g5, g6]
      exact key _ () trivial (by refine ⟨?_, ?_, rfl, rfl⟩ <;> repeat' (first | exact trivial | (refine And.intro (Or.inl rfl) ?_) | (refine And.intro (Or.inr (Or.inl rfl)) ?_) | (refine And.intro (Or.inr (Or.inr (Or.inr ⟨rfl, rfl⟩))) ?_) | (refine And.intro (Or.inr (Or.inr (Or.inl ⟨rfl, rfl, trivial⟩))) ?_) | exact ⟨(by show (_ : Nat) < 1000000000; omega), rfl, rfl⟩ | rfl | (refine And.intro (Or.inl ?_) ?_) | (refine And.intro ?_ ?_)))
    · have g1 : ¬ v ≤ 1000 := by omega
      have g2 : ¬ v ≤ 39 := by omega
      have g3 : ¬ (1 ≤ v ∧ v ≤ 40) := by omega
      have g4 : ¬ v ≤ 49 := by omega
      have g5 : 1 ≤ v := by omega
      have g6 : ¬ v ≤ 40 := by omega
      rw [if_neg g1, if_neg g2, if_neg g3, if_neg g4]
      simp only [go_sem, Nat.reduceBEq, ↓reduceIte, ↓reduceDIte, Nat.reduceAdd, Nat.reduceSub, Nat.reduceMul, Nat.reduceLeDiff, ← Bool.decide_and, ← Bool.decide_or, ← decide_not, Int.reduceLT, Int.reduceLE, Int.reduceToNat, Int.reduceNeg, by_nil, by10, by32, Int.reduceEq, not_true_eq_false, not_false_eq_true, false_implies, g1, g2, g4, g5, g6]
      exact key _ () trivial (by refine ⟨?_, ?_, rfl, rfl⟩ <;> repeat' (first | exact trivial | (refine And.intro (Or.inl rfl) ?_) | (refine And.intro (Or.inr (Or.inl rfl)) ?_) | (refine And.intro (Or.inr (Or.inr (Or.inr ⟨rfl, rfl⟩))) ?_) | (refine And.intro (Or.inr (Or.inr (Or.inl ⟨rfl, rfl, trivial⟩))) ?_) | exact ⟨(by show (_ : Nat) < 1000000000; omega), rfl, rfl⟩ | rfl | (refine And.intro (Or.inl ?_) ?_) | (refine And.intro ?_ ?_)))
  · intro _ _
    refine Walks.loopA (X := Nat) (fun (i : Nat) => [(21, .iv (.int .i64) (i : Int)), (20, .iv .str (strokeS i))]) (fun (i : Nat) => []) (fun (i : Nat) => i ≤ (p % 15).toNat) (fun (i : Nat) => 15 - i) 0 ?_; intro b1 b2 hb1 hb2; simp (config := {maxSteps := 4000000}) only [go_sem, Nat.reduceBEq, ↓reduceIte, ↓reduceDIte, Nat.reduceAdd, Nat.reduceSub, Nat.reduceMul, Nat.reduceLeDiff, ← Bool.decide_and, ← Bool.decide_or, ← decide_not, Int.reduceLT, Int.reduceLE, Int.reduceToNat, Int.reduceNeg, by_nil, by10, by32, Int.reduceEq, not_true_eq_false, not_false_eq_true, false_implies] at hb1 hb2; subst hb1; subst hb2; refine ⟨(by refine ⟨?_, ?_, rfl, rfl⟩ <;> repeat' (first | exact trivial | (refine And.intro (Or.inl rfl) ?_) | (refine And.intro (Or.inr (Or.inl rfl)) ?_) | (refine And.intro (Or.inr (Or.inr (Or.inr ⟨rfl, rfl⟩))) ?_) | (refine And.intro (Or.inr (Or.inr (Or.inl ⟨rfl, rfl, trivial⟩))) ?_) | exact ⟨(by show (_ : Nat) < 1000000000; omega), rfl, rfl⟩ | rfl | (refine And.intro (Or.inl ?_) ?_) | (refine And.intro ?_ ?_))), ?_, ?_⟩
    · exact Nat.zero_le _
    intro i hi back
    have hsl := strokeS_len i
    refine PW_sound env_ok ⟨_, fn_9, rfl⟩ 2000 _ _ (by kernel_rfl) ?_; simp only [go_sem, Nat.reduceBEq, ↓reduceIte, ↓reduceDIte, Nat.reduceAdd, Nat.reduceSub, Nat.reduceMul, Nat.reduceLeDiff, ← Bool.decide_and, ← Bool.decide_or, ← decide_not, Int.reduceLT, Int.reduceLE, Int.reduceToNat, Int.reduceNeg, by_nil, by10, by32, Int.reduceEq, not_true_eq_false, not_false_eq_true, false_implies]
    rw [t2]
    refine ⟨fun g1 => ⟨by show (strokeS i).length + 4 ≤ _; omega, i64_ok (by omega) (by omega), ?_⟩, fun g1 => ?_⟩
    · refine back _ (i + 1) ?_ (by omega) (by omega)
      rw [strokeS_step]
      exact (by refine ⟨?_, ?_, rfl, rfl⟩ <;> repeat' (first | exact trivial | (refine And.intro (Or.inl rfl) ?_) | (refine And.intro (Or.inr (Or.inl rfl)) ?_) | (refine And.intro (Or.inr (Or.inr (Or.inr ⟨rfl, rfl⟩))) ?_) | (refine And.intro (Or.inr (Or.inr (Or.inl ⟨rfl, rfl, trivial⟩))) ?_) | exact ⟨(by show (_ : Nat) < 1000000000; omega), rfl, rfl⟩ | rfl | (refine And.intro (Or.inl ?_) ?_) | (refine And.intro ?_ ?_)))
    · clear back
      have hip : i = (p % 15).toNat := by omega
      refine Walks.loopA (X := Nat) (fun (j : Nat) => [(23, .iv (.int .i64) (j : Int)), (22, .iv .str (pasteS j))]) (fun (j : Nat) => []) (fun (j : Nat) => j ≤ (l % 24).toNat) (fun (j : Nat) => 24 - j) 0 ?_; intro b1 b2 hb1 hb2; simp (config := {maxSteps := 4000000}) only [go_sem, Nat.reduceBEq, ↓reduceIte, ↓reduceDIte, Nat.reduceAdd, Nat.reduceSub, Nat.reduceMul, Nat.reduceLeDiff, ← Bool.decide_and, ← Bool.decide_or, ← decide_not, Int.reduceLT, Int.reduceLE, Int.reduceToNat, Int.reduceNeg, by_nil, by10, by32, Int.reduceEq, not_true_eq_false, not_false_eq_true, false_implies] at hb1 hb2; subst hb1; subst hb2; refine ⟨(by refine ⟨?_, ?_, rfl, rfl⟩ <;> repeat' (first | exact trivial | (refine And.intro (Or.inl rfl) ?_) | (refine And.intro (Or.inr (Or.inl rfl)) ?_) | (refine And.intro (Or.inr (Or.inr (Or.inr ⟨rfl, rfl⟩))) ?_) | (refine And.intro (Or.inr (Or.inr (Or.inl ⟨rfl, rfl, trivial⟩))) ?_) | exact ⟨(by show (_ : Nat) < 1000000000; omega), rfl, rfl⟩ | rfl | (refine And.intro (Or.inl ?_) ?_) | (refine And.intro ?_ ?_))), ?_, ?_⟩
      · exact Nat.zero_le _
      intro j hj back
      have hpl := pasteS_len j
      refine PW_sound env_ok ⟨_, fn_9, rfl⟩ 2000 _ _ (by kernel_rfl) ?_; simp only [go_sem, Nat.reduceBEq, ↓reduceIte, ↓reduceDIte, Nat.reduceAdd, Nat.reduceSub, Nat.reduceMul, Nat.reduceLeDiff, ← Bool.decide_and, ← Bool.decide_or, ← decide_not, Int.reduceLT, Int.reduceLE, Int.reduceToNat, Int.reduceNeg, by_nil, by10, by32, Int.reduceEq, not_true_eq_false, not_false_eq_true, false_implies]
      rw [t3]
      refine ⟨fun g2 => ⟨by show (pasteS j).length + 1 ≤ _; omega, i64_ok (by omega) (by omega), ?_⟩, fun g2 => ?_⟩
      · refine back _ (j + 1) ?_ (by omega) (by omega)
        rw [pasteS_step]
        exact (by refine ⟨?_, ?_, rfl, rfl⟩ <;> repeat' (first | exact trivial | (refine And.intro (Or.inl rfl) ?_) | (refine And.intro (Or.inr (Or.inl rfl)) ?_) | (refine And.intro (Or.inr (Or.inr (Or.inr ⟨rfl, rfl⟩))) ?_) | (refine And.intro (Or.inr (Or.inr (Or.inl ⟨rfl, rfl, trivial⟩))) ?_) | exact ⟨(by show (_ : Nat) < 1000000000; omega), rfl, rfl⟩ | rfl | (refine And.intro (Or.inl ?_) ?_) | (refine And.intro ?_ ?_)))
      · have q1 := lim_stroke i (by omega)
        have q2 := lim_paste j (by omega)
        clear back
        refine ⟨_, c_Parse (strokeS i) (by omega), fun _ => ⟨_, c_Parse (pasteS j) (by omega), fun _ => ?_⟩⟩
        generalize parseS (strokeS i) = r1 at q1 ⊢
        generalize parseS (pasteS j) = r2 at q2 ⊢
        rw [q1, q2, t2]
        have hi3 : i < 2 ∨ (2 ≤ i ∧ i ≤ 12) ∨ 13 ≤ i := by omega
        have hj3 : j < 1 ∨ (1 ≤ j ∧ j ≤ 20) ∨ 21 ≤ j := by omega
        rcases hi3 with hi3 | hi3 | hi3 <;> rcases hj3 with hj3 | hj3 | hj3
        · have z1 : ¬ 2 ≤ p % 15 := by omega
          have z2 : p % 15 ≤ 12 := by omega
          have z3 : ¬ 1 ≤ l % 24 := by omega
          have z4 : l % 24 ≤ 20 := by omega
          rw [if_neg (show ¬ (2 ≤ i ∧ i ≤ 12) by omega), if_neg (show ¬ (1 ≤ j ∧ j ≤ 20) by omega)]
          simp only [go_sem, Nat.reduceBEq, ↓reduceIte, ↓reduceDIte, Nat.reduceAdd, Nat.reduceSub, Nat.reduceMul, Nat.reduceLeDiff, ← Bool.decide_and, ← Bool.decide_or, ← decide_not, Int.reduceLT, Int.reduceLE, Int.reduceToNat, Int.reduceNeg, by_nil, by10, by32, Int.reduceEq, not_true_eq_false, not_false_eq_true, false_implies, z1, z2, z3, z4]
          try simp only [go_sem, Nat.reduceBEq, ↓reduceIte, ↓reduceDIte, Nat.reduceAdd, Nat.reduceSub, Nat.reduceMul, Nat.reduceLeDiff, ← Bool.decide_and, ← Bool.decide_or, ← decide_not, Int.reduceLT, Int.reduceLE, Int.reduceToNat, Int.reduceNeg, by_nil, by10, by32, Int.reduceEq, not_true_eq_false, not_false_eq_true, false_implies, t2, t3, z1, z2, z3, z4]
        · have z1 : ¬ 2 ≤ p % 15 := by omega
          have z2 : p % 15 ≤ 12 := by omega
          have z3 : 1 ≤ l % 24 := by omega
          have z4 : l % 24 ≤ 20 := by omega
          rw [if_neg (show ¬ (2 ≤ i ∧ i ≤ 12) by omega), if_pos (show 1 ≤ j ∧ j ≤ 20 by omega)]
          simp only [go_sem, Nat.reduceBEq, ↓reduceIte, ↓reduceDIte, Nat.reduceAdd, Nat.reduceSub, Nat.reduceMul, Nat.reduceLeDiff, ← Bool.decide_and, ← Bool.decide_or, ← decide_not, Int.reduceLT, Int.reduceLE, Int.reduceToNat, Int.reduceNeg, by_nil, by10, by32, Int.reduceEq, not_true_eq_false, not_false_eq_true, false_implies, z1, z2, z3, z4]
          try simp only [go_sem, Nat.reduceBEq, ↓reduceIte, ↓reduceDIte, Nat.reduceAdd, Nat.reduceSub, Nat.reduceMul, Nat.reduceLeDiff, ← Bool.decide_and, ← Bool.decide_or, ← decide_not, Int.reduceLT, Int.reduceLE, Int.reduceToNat, Int.reduceNeg, by_nil, by10, by32, Int.reduceEq, not_true_eq_false, not_false_eq_true, false_implies, t2, t3, z1, z2, z3, z4]
        · have z1 : ¬ 2 ≤ p % 15 := by omega
          have z2 : p % 15 ≤ 12 := by omega
          have z3 : 1 ≤ l % 24 := by omega
          have z4 : ¬ l % 24 ≤ 20 := by omega
          rw [if_neg (show ¬ (2 ≤ i ∧ i ≤ 12) by omega), if_neg (show ¬ (1 ≤ j ∧ j ≤ 20) by omega)]
          simp only [go_sem, Nat.reduceBEq, ↓reduceIte, ↓reduceDIte, Nat.reduceAdd, Nat.reduceSub, Nat.reduceMul, Nat.reduceLeDiff, ← Bool.decide_and, ← Bool.decide_or, ← decide_not, Int.reduceLT, Int.reduceLE, Int.reduceToNat, Int.reduceNeg, by_nil, by10, by32, Int.reduceEq, not_true_eq_false, not_false_eq_true, false_implies, z1, z2, z3, z4]
          try simp only [go_sem, Nat.reduceBEq, ↓reduceIte, ↓reduceDIte, Nat.reduceAdd, Nat.reduceSub, Nat.reduceMul, Nat.reduceLeDiff, ← Bool.decide_and, ← Bool.decide_or, ← decide_not, Int.reduceLT, Int.reduceLE, Int.reduceToNat, Int.reduceNeg, by_nil, by10, by32, Int.reduceEq, not_true_eq_false, not_false_eq_true, false_implies, t2, t3, z1, z2, z3, z4]
        · have z1 : 2 ≤ p % 15 := by omega
          have z2 : p % 15 ≤ 12 := by omega
          have z3 : ¬ 1 ≤ l % 24 := by omega
          have z4 : l % 24 ≤ 20 := by omega
          rw [if_pos (show 2 ≤ i ∧ i ≤ 12 by omega), if_neg (show ¬ (1 ≤ j ∧ j ≤ 20) by omega)]
          simp only [go_sem, Nat.reduceBEq, ↓reduceIte, ↓reduceDIte, Nat.reduceAdd, Nat.reduceSub, Nat.reduceMul, Nat.reduceLeDiff, ← Bool.decide_and, ← Bool.decide_or, ← decide_not, Int.reduceLT, Int.reduceLE, Int.reduceToNat, Int.reduceNeg, by_nil, by10, by32, Int.reduceEq, not_true_eq_false, not_false_eq_true, false_implies, z1, z2, z3, z4]
          try simp only [go_sem, Nat.reduceBEq, ↓reduceIte, ↓reduceDIte, Nat.reduceAdd, Nat.reduceSub, Nat.reduceMul, Nat.reduceLeDiff, ← Bool.decide_and, ← Bool.decide_or, ← decide_not, Int.reduceLT, Int.reduceLE, Int.reduceToNat, Int.reduceNeg, by_nil, by10, by32, Int.reduceEq, not_true_eq_false, not_false_eq_true, false_implies, t2, t3, z1, z2, z3, z4]
        · have z1 : 2 ≤ p % 15 := by omega
          have z2 : p % 15 ≤ 12 := by omega
          have z3 : 1 ≤ l % 24 := by omega
          have z4 : l % 24 ≤ 20 := by omega
          rw [if_pos (show 2 ≤ i ∧ i ≤ 12 by omega), if_pos (show 1 ≤ j ∧ j ≤ 20 by omega)]
          simp only [go_sem, Nat.reduceBEq, ↓reduceIte, ↓reduceDIte, Nat.reduceAdd, Nat.reduceSub, Nat.reduceMul, Nat.reduceLeDiff, ← Bool.decide_and, ← Bool.decide_or, ← decide_not, Int.reduceLT, Int.reduceLE, Int.reduceToNat, Int.reduceNeg, by_nil, by10, by32, Int.reduceEq, not_true_eq_false, not_false_eq_true, false_implies, z1, z2, z3, z4]
          try simp only [go_sem, Nat.reduceBEq, ↓reduceIte, ↓reduceDIte, Nat.reduceAdd, Nat.reduceSub, Nat.reduceMul, Nat.reduceLeDiff, ← Bool.decide_and, ← Bool.decide_or, ← decide_not, Int.reduceLT, Int.reduceLE, Int.reduceToNat, Int.reduceNeg, by_nil, by10, by32, Int.reduceEq, not_true_eq_false, not_false_eq_true, false_implies, t2, t3, z1, z2, z3, z4]
        · have z1 : 2 ≤ p % 15 := by omega
          have z2 : p % 15 ≤ 12 := by omega
          have z3 : 1 ≤ l % 24 := by omega
          have z4 : ¬ l % 24 ≤ 20 := by omega
          rw [if_pos (show 2 ≤ i ∧ i ≤ 12 by omega), if_neg (show ¬ (1 ≤ j ∧ j ≤ 20) by omega)]
          simp only [go_sem, Nat.reduceBEq, ↓reduceIte, ↓reduceDIte, Nat.reduceAdd, Nat.reduceSub, Nat.reduceMul, Nat.reduceLeDiff, ← Bool.decide_and, ← Bool.decide_or, ← decide_not, Int.reduceLT, Int.reduceLE, Int.reduceToNat, Int.reduceNeg, by_nil, by10, by32, Int.reduceEq, not_true_eq_false, not_false_eq_true, false_implies, z1, z2, z3, z4]
          try simp only [go_sem, Nat.reduceBEq, ↓reduceIte, ↓reduceDIte, Nat.reduceAdd, Nat.reduceSub, Nat.reduceMul, Nat.reduceLeDiff, ← Bool.decide_and, ← Bool.decide_or, ← decide_not, Int.reduceLT, Int.reduceLE, Int.reduceToNat, Int.reduceNeg, by_nil, by10, by32, Int.reduceEq, not_true_eq_false, not_false_eq_true, false_implies, t2, t3, z1, z2, z3, z4]
        · have z1 : 2 ≤ p % 15 := by omega
          have z2 : ¬ p % 15 ≤ 12 := by omega
          have z3 : ¬ 1 ≤ l % 24 := by omega
          have z4 : l % 24 ≤ 20 := by omega
          rw [if_neg (show ¬ (2 ≤ i ∧ i ≤ 12) by omega), if_neg (show ¬ (1 ≤ j ∧ j ≤ 20) by omega)]
          simp only [go_sem, Nat.reduceBEq, ↓reduceIte, ↓reduceDIte, Nat.reduceAdd, Nat.reduceSub, Nat.reduceMul, Nat.reduceLeDiff, ← Bool.decide_and, ← Bool.decide_or, ← decide_not, Int.reduceLT, Int.reduceLE, Int.reduceToNat, Int.reduceNeg, by_nil, by10, by32, Int.reduceEq, not_true_eq_false, not_false_eq_true, false_implies, z1, z2, z3, z4]
          try simp only [go_sem, Nat.reduceBEq, ↓reduceIte, ↓reduceDIte, Nat.reduceAdd, Nat.reduceSub, Nat.reduceMul, Nat.reduceLeDiff, ← Bool.decide_and, ← Bool.decide_or, ← decide_not, Int.reduceLT, Int.reduceLE, Int.reduceToNat, Int.reduceNeg, by_nil, by10, by32, Int.reduceEq, not_true_eq_false, not_false_eq_true, false_implies, t2, t3, z1, z2, z3, z4]
        · have z1 : 2 ≤ p % 15 := by omega
          have z2 : ¬ p % 15 ≤ 12 := by omega
          have z3 : 1 ≤ l % 24 := by omega
          have z4 : l % 24 ≤ 20 := by omega
          rw [if_neg (show ¬ (2 ≤ i ∧ i ≤ 12) by omega), if_pos (show 1 ≤ j ∧ j ≤ 20 by omega)]
          simp only [go_sem, Nat.reduceBEq, ↓reduceIte, ↓reduceDIte, Nat.reduceAdd, Nat.reduceSub, Nat.reduceMul, Nat.reduceLeDiff, ← Bool.decide_and, ← Bool.decide_or, ← decide_not, Int.reduceLT, Int.reduceLE, Int.reduceToNat, Int.reduceNeg, by_nil, by10, by32, Int.reduceEq, not_true_eq_false, not_false_eq_true, false_implies, z1, z2, z3, z4]
          try simp only [go_sem, Nat.reduceBEq, ↓reduceIte, ↓reduceDIte, Nat.reduceAdd, Nat.reduceSub, Nat.reduceMul, Nat.reduceLeDiff, ← Bool.decide_and, ← Bool.decide_or, ← decide_not, Int.reduceLT, Int.reduceLE, Int.reduceToNat, Int.reduceNeg, by_nil, by10, by32, Int.reduceEq, not_true_eq_false, not_false_eq_true, false_implies, t2, t3, z1, z2, z3, z4]
        · have z1 : 2 ≤ p % 15 := by omega
          have z2 : ¬ p % 15 ≤ 12 := by omega
          have z3 : 1 ≤ l % 24 := by omega
          have z4 : ¬ l % 24 ≤ 20 := by omega
          rw [if_neg (show ¬ (2 ≤ i ∧ i ≤ 12) by omega), if_neg (show ¬ (1 ≤ j ∧ j ≤ 20) by omega)]
          simp only [go_sem, Nat.reduceBEq, ↓reduceIte, ↓reduceDIte, Nat.reduceAdd, Nat.reduceSub, Nat.reduceMul, Nat.reduceLeDiff, ← Bool.decide_and, ← Bool.decide_or, ← decide_not, Int.reduceLT, Int.reduceLE, Int.reduceToNat, Int.reduceNeg, by_nil, by10, by32, Int.reduceEq, not_true_eq_false, not_false_eq_true, false_implies, z1, z2, z3, z4]
          try simp only [go_sem, Nat.reduceBEq, ↓reduceIte, ↓reduceDIte, Nat.reduceAdd, Nat.reduceSub, Nat.reduceMul, Nat.reduceLeDiff, ← Bool.decide_and, ← Bool.decide_or, ← decide_not, Int.reduceLT, Int.reduceLE, Int.reduceToNat, Int.reduceNeg, by_nil, by10, by32, Int.reduceEq, not_true_eq_false, not_false_eq_true, false_implies, t2, t3, z1, z2, z3, z4]
end Go.Proofs.YtopelldocfbhkaaDoor
namespace Go.Proofs.YtopelldocfbhkaaDoor
open Go.ChangeShapes Go.WideShapes Go.ChangeAt Go.RowKit
theorem limits_all (xs : List (Sigma Ty.den)) (h : xs.map (·.1) = [.int .u16, .int .u8, .int .u8]) : PC env 9 xs .bool true := by
  match xs, h with
  | [⟨_, y0⟩, ⟨_, y1⟩, ⟨_, y2⟩], h =>
    injection h with h1 h
    injection h with h2 h
    injection h with h3 h
    dsimp only at h1 h2 h3
    subst h1 h2 h3
    exact c_Limits y0 y1 y2
set_option maxRecDepth 100000 in
theorem limits_lifted (os : Os) (started : os.Started) (H : Type) (enc : TypeId × Value → H) :
    ReturnsInHanded {} Tryd.checked os 9 .any (Rows.eventLimitsRow.pre enc Tryd.prog Tryd.f9 (OpenSpec.ofChange Rows.eventLimitsSpec)) (Rows.eventLimitsSpec.post enc Tryd.prog Tryd.f9 false true false false) := by
  rw [pre_laid (c := Rows.eventLimitsRow) (s := Rows.eventLimitsSpec) rfl]
  refine lift_laid (C := Tryd.checked) (X := fun w _ => laidMet Tryd.prog laidL w) laid_heap own_none started (by kernel_rfl) fn_9
    (ChangeSpec.witness_at (enc := enc) (C := Tryd.checked) (X := fun w _ => laidMet Tryd.prog laidL w) false (laidWorld os) #[.int .u16 0, .int .u8 0, .int .u8 0] 8 (by kernel_rfl) (by kernel_rfl) (by kernel_rfl) (by kernel_rfl) (by kernel_rfl) (by kernel_rfl) (laid_met os _)) ?_
  intro W base args ds gs before hval hW hx hsh
  refine law_calls (E := env) (b0 := base) (Ts := [.int .u16, .int .u8, .int .u8]) (tb := 4) env_ok laid_out (of_decide_eq_true (by kernel_rfl)) rfl rfl rfl (by kernel_rfl) rfl ?_ limits_all (tabs_of hsh hx) hval hW
  intro ds hds
  match ds, hds with
  | [d0, d1, d2], _ => rfl
theorem limits_holds : Rows.EventLimitsSaid :=
  OpenClaim.holds_of_wide 9 Tryd.f9 rfl rfl rfl rfl rfl rfl rfl ⟨rfl, rfl, rfl, rfl, rfl⟩ rfl rfl rfl rfl rfl (by kernel_rfl) fn_9 (by kernel_rfl)
    (of_decide_eq_true (by kernel_rfl)) (by unfold Func.isWrapper; first | (rw [if_pos (by decide +kernel)]; kernel_rfl) | (rw [if_neg (by decide +kernel)]; exact ⟨rfl, rfl⟩))
    (fun os started H enc _ => limits_lifted os started H enc)
theorem limits_card : Rows.EventLimitsCardSaid :=
  Claim7.holds_tied_plain_at .later [] [.data, .data, .data, .data, .pinned] true (true, "5dc4ae48ce4c2a9348dcc132f8ec6b161086df3f9f12457d6c6e77583ebed4cd") false
    limits_holds (fun _ h => by cases h) (by kernel_rfl) (fun _ h => by cases h) eventLimits_row_tie rfl ⟨rfl, rfl⟩ (by kernel_rfl) rfl
    (fun f fn hf hfn => by
      obtain rfl : f = 9 := Option.some.inj ((show Tryd.prog.funcNamed "syllabary/syllabarylaw01.EventLimits" = some 9 by kernel_rfl).symm.trans hf) |>.symm
      obtain rfl : fn = Tryd.f9 := (Option.some.inj (fn_9.symm.trans hfn)).symm
      exact ⟨by kernel_rfl, fun j t ht => by
        have hall : (Tryd.f9.params.toList.all fun u => !Tryd.prog.wantsStandIn u) = true := by kernel_rfl
        have hm : t ∈ Tryd.f9.params.toList := Array.mem_toList_iff.2 (Array.mem_of_getElem? ht)
        exact (show Tryd.prog.wantsStandIn t = false by simpa using List.all_eq_true.1 hall t hm)⟩)
    (by kernel_rfl)
end Go.Proofs.YtopelldocfbhkaaDoor
