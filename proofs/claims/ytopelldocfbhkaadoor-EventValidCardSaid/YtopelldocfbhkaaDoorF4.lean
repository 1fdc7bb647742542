/- The law EventValid holds for every input. No condition. -/
import Derived.Test.YtopelldocfbhkaaDoorB5
import Derived.Test.YtopelldocfbhkaaDoorCards
import Derived.Test.YtopelldocfbhkaaDoorTie
import Derived.SevenTiedAt
set_option linter.unusedSimpArgs false
set_option linter.unusedVariables false
--SET+ by_nil, Int.reduceEq, not_true_eq_false, not_false_eq_true, false_implies
namespace Go.Proofs.YtopelldocfbhkaaDoor
set_option maxHeartbeats 4000000
set_option maxRecDepth 100000
open Go.Lib
theorem h_Made3 (x : Raw) (h0 : 0 ≤ x.1 ∧ 0 ≤ x.2.2.2.1 ∧ 0 ≤ x.2.2.2.2) (hq : kindE x = 3) : HC env 12 [.iv RawT x, .iv (.int .i64) (26 : Int)] [] (.agg [.iv (.int .i64) (3 : Int), .iv .str [], .lsl 21 2 0 1, .iv .str [], .iv (.int .i64) (0 : Int), .iv (.int .i64) (0 : Int)]) [(21, .arr PointT (ptsE x))] := by
  obtain ⟨k0, l, p, n, m⟩ := x
  have t1 : Int.tmod k0 12 = k0 % 12 := Int.tmod_eq_emod_of_nonneg h0.1
  have t2 : Int.tmod n 40 = n % 40 := Int.tmod_eq_emod_of_nonneg h0.2.1
  have t3 : Int.tmod n 50 = n % 50 := Int.tmod_eq_emod_of_nonneg h0.2.1
  have t4 : Int.tmod m 40 = m % 40 := Int.tmod_eq_emod_of_nonneg h0.2.2
  have hk := h0.1
  have hn := h0.2.1
  have hm := h0.2.2
  dsimp only at hk hn hm
  clear h0
  have htw := textW_len l
  refine HC.of_PW (m := 2000) env_ok fn_12 rfl rfl rfl rfl (by kernel_rfl) ?_; intro hx hbl; simp only [Tryd.f12]; simp only [go_sem, Nat.reduceBEq, ↓reduceIte, ↓reduceDIte, Nat.reduceAdd, Nat.reduceSub, Nat.reduceMul, Nat.reduceLeDiff, ← Bool.decide_and, ← Bool.decide_or, ← decide_not, Int.reduceLT, Int.reduceLE, Int.reduceToNat, Int.reduceNeg, by_nil, Int.reduceEq, not_true_eq_false, not_false_eq_true, false_implies]
  have hp : ∀ q, q ∈ p → (0 ≤ q.1 ∧ q.1 ≤ 255) ∧ 0 ≤ q.2 ∧ q.2 ≤ 255 := fun q hq => by
    have := hx.1.2.2.1.2 q hq
    exact ⟨u8_of this.1, u8_of this.2⟩
  rw [t1]
  clear hx
  refine ⟨i64_ok (by omega) (by omega), _, c_Text l, fun _ => ?_⟩
  have hK : 1 + k0 % 12 = kindE (k0, l, p, n, m) := rfl
  rw [hK]
  have hKb : 1 ≤ kindE (k0, l, p, n, m) ∧ kindE (k0, l, p, n, m) ≤ 12 := by rw [← hK]; omega
  apply Walks.shareX (X := Unit) (fun _ => ⟨[(8, .iv (.int .i64) (0 : Int)), (7, .lfull 21), (6, .iv .str (textW l)), (5, .ref 5 0), (4, .ref 4 0), (2, .ref 2 0), (1, .iv (.int .i64) (26 : Int))],
    [(21, .arr PointT []), (5, .box [.iv (.int .i64) (kindE (k0, l, p, n, m)), .iv .str [], .nilsl, .iv .str [], .iv (.int .i64) (0 : Int), .iv (.int .i64) (0 : Int)]), (4, .box [.iv (.int .i64) (0 : Int), .iv .str [], .nilsl, .iv .str [], .iv (.int .i64) (0 : Int), .iv (.int .i64) (0 : Int)]), (2, .box [.iv (.int .u8) k0, .iv (.sl (.int .u8)) l, .iv (.sl (.st (.pair (.int .u8) (.int .u8)))) p, .iv (.int .u8) n, .iv (.int .u8) m])]⟩) (fun _ => True)
  · intro key
    refine ⟨fun h => key _ () trivial ?_, fun h => key _ () trivial ?_⟩
    · have e : textW l = bytesOf ⟨#[97]⟩ := by unfold textW; rw [if_pos h]; rfl
      rw [e]
      exact (by refine ⟨?_, ?_, rfl, rfl⟩ <;> repeat' (first | exact trivial | (refine And.intro (Or.inl rfl) ?_) | (refine And.intro (Or.inr (Or.inl rfl)) ?_) | (refine And.intro (Or.inr (Or.inr (Or.inr ⟨rfl, rfl⟩))) ?_) | (refine And.intro (Or.inr (Or.inr (Or.inl ⟨rfl, rfl, trivial⟩))) ?_) | exact ⟨(by show (_ : Nat) < 1000000000; omega), rfl, rfl⟩ | rfl | (refine And.intro (Or.inl ?_) ?_) | (refine And.intro ?_ ?_)))
    · have e : textW l = textE l := by unfold textW; rw [if_neg h]
      rw [e]
      exact (by refine ⟨?_, ?_, rfl, rfl⟩ <;> repeat' (first | exact trivial | (refine And.intro (Or.inl rfl) ?_) | (refine And.intro (Or.inr (Or.inl rfl)) ?_) | (refine And.intro (Or.inr (Or.inr (Or.inr ⟨rfl, rfl⟩))) ?_) | (refine And.intro (Or.inr (Or.inr (Or.inl ⟨rfl, rfl, trivial⟩))) ?_) | exact ⟨(by show (_ : Nat) < 1000000000; omega), rfl, rfl⟩ | rfl | (refine And.intro (Or.inl ?_) ?_) | (refine And.intro ?_ ?_)))
  · intro _ _
    refine Walks.loopA (X := Nat × List (Int × Int)) (fun (z : Nat × List (Int × Int)) => [(8, .iv (.int .i64) (z.1 : Int)), (7, .lfull 21)]) (fun (z : Nat × List (Int × Int)) => [(21, .arr PointT z.2)]) (fun (z : Nat × List (Int × Int)) => z.1 ≤ p.length ∧ z.1 ≤ 6 ∧ z.2 = (p.take z.1).map ptE) (fun (z : Nat × List (Int × Int)) => 6 - z.1) (0, []) ?_; intro b1 b2 hb1 hb2; simp (config := {maxSteps := 4000000}) only [go_sem, Nat.reduceBEq, ↓reduceIte, ↓reduceDIte, Nat.reduceAdd, Nat.reduceSub, Nat.reduceMul, Nat.reduceLeDiff, ← Bool.decide_and, ← Bool.decide_or, ← decide_not, Int.reduceLT, Int.reduceLE, Int.reduceToNat, Int.reduceNeg, by_nil, Int.reduceEq, not_true_eq_false, not_false_eq_true, false_implies] at hb1 hb2; subst hb1; subst hb2; refine ⟨(by refine ⟨?_, ?_, rfl, rfl⟩ <;> repeat' (first | exact trivial | (refine And.intro (Or.inl rfl) ?_) | (refine And.intro (Or.inr (Or.inl rfl)) ?_) | (refine And.intro (Or.inr (Or.inr (Or.inr ⟨rfl, rfl⟩))) ?_) | (refine And.intro (Or.inr (Or.inr (Or.inl ⟨rfl, rfl, trivial⟩))) ?_) | exact ⟨(by show (_ : Nat) < 1000000000; omega), rfl, rfl⟩ | rfl | (refine And.intro (Or.inl ?_) ?_) | (refine And.intro ?_ ?_))), ?_, ?_⟩
    · exact ⟨Nat.zero_le _, Nat.zero_le _, rfl⟩
    intro ⟨i, a⟩ ⟨hi, h6, hb⟩ back
    dsimp only at hi h6 hb
    have hal : a.length = i := by rw [hb, List.length_map, List.length_take]; omega
    refine PW_sound env_ok ⟨_, fn_12, rfl⟩ 2000 _ _ (by kernel_rfl) ?_; simp only [go_sem, Nat.reduceBEq, ↓reduceIte, ↓reduceDIte, Nat.reduceAdd, Nat.reduceSub, Nat.reduceMul, Nat.reduceLeDiff, ← Bool.decide_and, ← Bool.decide_or, ← decide_not, Int.reduceLT, Int.reduceLE, Int.reduceToNat, Int.reduceNeg, by_nil, Int.reduceEq, not_true_eq_false, not_false_eq_true, false_implies]
    have hend : ¬ (i < p.length ∧ i < 6) → a = (p.take 6).map ptE := fun h => by
      rw [hb]
      by_cases h1 : i = 6
      · rw [h1]
      · have e1 : p.take i = p := List.take_of_length_le (by omega)
        have e2 : p.take 6 = p := List.take_of_length_le (by omega)
        rw [e1, e2]
    apply Walks.shareX (X := Unit) (fun _ => ⟨[(7, .lfull 21), (6, .iv .str (textW l)), (5, .ref 5 0), (4, .ref 4 0), (2, .ref 2 0), (1, .iv (.int .i64) (26 : Int))],
      [(21, .arr PointT ((p.take 6).map ptE)), (5, .box [.iv (.int .i64) (kindE (k0, l, p, n, m)), .iv .str [], .nilsl, .iv .str [], .iv (.int .i64) (0 : Int), .iv (.int .i64) (0 : Int)]), (4, .box [.iv (.int .i64) (0 : Int), .iv .str [], .nilsl, .iv .str [], .iv (.int .i64) (0 : Int), .iv (.int .i64) (0 : Int)]), (2, .box [.iv (.int .u8) k0, .iv (.sl (.int .u8)) l, .iv (.sl (.st (.pair (.int .u8) (.int .u8)))) p, .iv (.int .u8) n, .iv (.int .u8) m])]⟩) (fun _ => True)
    · intro key
      refine ⟨fun h1 => ⟨fun h2 => ?_, fun h2 => ?_⟩, fun h1 => ?_⟩
      · obtain ⟨q, hq⟩ := get_of_lt (xs := p) (i := i) (by omega)
        have hqb := hp q (List.mem_of_getElem? hq)
        have e1 : Int.tmod (4 * q.1) 1001 = 4 * q.1 % 1001 := Int.tmod_eq_emod_of_nonneg (by omega)
        have e2 : Int.tmod (4 * q.2) 1001 = 4 * q.2 % 1001 := Int.tmod_eq_emod_of_nonneg (by omega)
        refine ⟨Int.natCast_nonneg _, q, hq, i64_ok (by omega) (by omega), Int.natCast_nonneg _, q, hq, i64_ok (by omega) (by omega), by omega, i64_ok (by omega) (by omega), ?_⟩
        rw [e1, e2]
        refine back _ (i + 1, a ++ [ptE q]) ?_ ⟨by dsimp only; omega, by dsimp only; omega, ?_⟩ (by dsimp only; omega)
        · exact (by refine ⟨?_, ?_, rfl, rfl⟩ <;> repeat' (first | exact trivial | (refine And.intro (Or.inl rfl) ?_) | (refine And.intro (Or.inr (Or.inl rfl)) ?_) | (refine And.intro (Or.inr (Or.inr (Or.inr ⟨rfl, rfl⟩))) ?_) | (refine And.intro (Or.inr (Or.inr (Or.inl ⟨rfl, rfl, trivial⟩))) ?_) | exact ⟨(by show (_ : Nat) < 1000000000; omega), rfl, rfl⟩ | rfl | (refine And.intro (Or.inl ?_) ?_) | (refine And.intro ?_ ?_)))
        · dsimp only
          rw [take_snoc hq, List.map_append, ← hb]; rfl
      · refine key _ () trivial ?_
        rw [← hend (by omega)]
        exact (by refine ⟨?_, ?_, rfl, rfl⟩ <;> repeat' (first | exact trivial | (refine And.intro (Or.inl rfl) ?_) | (refine And.intro (Or.inr (Or.inl rfl)) ?_) | (refine And.intro (Or.inr (Or.inr (Or.inr ⟨rfl, rfl⟩))) ?_) | (refine And.intro (Or.inr (Or.inr (Or.inl ⟨rfl, rfl, trivial⟩))) ?_) | exact ⟨(by show (_ : Nat) < 1000000000; omega), rfl, rfl⟩ | rfl | (refine And.intro (Or.inl ?_) ?_) | (refine And.intro ?_ ?_)))
      · refine key _ () trivial ?_
        rw [← hend (by omega)]
        exact (by refine ⟨?_, ?_, rfl, rfl⟩ <;> repeat' (first | exact trivial | (refine And.intro (Or.inl rfl) ?_) | (refine And.intro (Or.inr (Or.inl rfl)) ?_) | (refine And.intro (Or.inr (Or.inr (Or.inr ⟨rfl, rfl⟩))) ?_) | (refine And.intro (Or.inr (Or.inr (Or.inl ⟨rfl, rfl, trivial⟩))) ?_) | exact ⟨(by show (_ : Nat) < 1000000000; omega), rfl, rfl⟩ | rfl | (refine And.intro (Or.inl ?_) ?_) | (refine And.intro ?_ ?_)))
    · clear back hend hb hal hi h6
      intro _ _
      refine Walks.loopA (X := List (Int × Int)) (fun (b : List (Int × Int)) => [(7, .lfull 21)]) (fun (b : List (Int × Int)) => [(21, .arr PointT b)]) (fun (b : List (Int × Int)) => b.length ≤ 6 ∧ padE n b = ptsE (k0, l, p, n, m)) (fun (b : List (Int × Int)) => 2 - b.length) ((p.take 6).map ptE) ?_; intro b1 b2 hb1 hb2; simp (config := {maxSteps := 4000000}) only [go_sem, Nat.reduceBEq, ↓reduceIte, ↓reduceDIte, Nat.reduceAdd, Nat.reduceSub, Nat.reduceMul, Nat.reduceLeDiff, ← Bool.decide_and, ← Bool.decide_or, ← decide_not, Int.reduceLT, Int.reduceLE, Int.reduceToNat, Int.reduceNeg, by_nil, Int.reduceEq, not_true_eq_false, not_false_eq_true, false_implies] at hb1 hb2; subst hb1; subst hb2; refine ⟨(by refine ⟨?_, ?_, rfl, rfl⟩ <;> repeat' (first | exact trivial | (refine And.intro (Or.inl rfl) ?_) | (refine And.intro (Or.inr (Or.inl rfl)) ?_) | (refine And.intro (Or.inr (Or.inr (Or.inr ⟨rfl, rfl⟩))) ?_) | (refine And.intro (Or.inr (Or.inr (Or.inl ⟨rfl, rfl, trivial⟩))) ?_) | exact ⟨(by show (_ : Nat) < 1000000000; omega), rfl, rfl⟩ | rfl | (refine And.intro (Or.inl ?_) ?_) | (refine And.intro ?_ ?_))), ?_, ?_⟩
      · exact ⟨by rw [List.length_map, List.length_take]; omega, rfl⟩
      intro b ⟨h6, hb⟩ back
      refine PW_sound env_ok ⟨_, fn_12, rfl⟩ 2000 _ _ (by kernel_rfl) ?_; simp only [go_sem, Nat.reduceBEq, ↓reduceIte, ↓reduceDIte, Nat.reduceAdd, Nat.reduceSub, Nat.reduceMul, Nat.reduceLeDiff, ← Bool.decide_and, ← Bool.decide_or, ← decide_not, Int.reduceLT, Int.reduceLE, Int.reduceToNat, Int.reduceNeg, by_nil, Int.reduceEq, not_true_eq_false, not_false_eq_true, false_implies]
      refine ⟨fun h1 => ⟨i64_ok (by omega) (by omega), by omega, ?_⟩, fun h1 => ?_⟩
      · refine back _ (b ++ [(30 * (b.length : Int), n)]) ?_ ⟨by simp only [List.length_append, List.length_cons, List.length_nil]; omega, ?_⟩ (by simp only [List.length_append, List.length_cons, List.length_nil]; omega)
        · exact (by refine ⟨?_, ?_, rfl, rfl⟩ <;> repeat' (first | exact trivial | (refine And.intro (Or.inl rfl) ?_) | (refine And.intro (Or.inr (Or.inl rfl)) ?_) | (refine And.intro (Or.inr (Or.inr (Or.inr ⟨rfl, rfl⟩))) ?_) | (refine And.intro (Or.inr (Or.inr (Or.inl ⟨rfl, rfl, trivial⟩))) ?_) | exact ⟨(by show (_ : Nat) < 1000000000; omega), rfl, rfl⟩ | rfl | (refine And.intro (Or.inl ?_) ?_) | (refine And.intro ?_ ?_)))
        · rw [pad_step n b (by omega)]; exact hb
      · rw [pad_done n b (by omega)] at hb
        have hb1 : (1 : Int) ≤ (b.length : Nat) := by omega
        clear back hK t1
        simp only [hq, go_sem, Nat.reduceBEq, ↓reduceIte, ↓reduceDIte, Nat.reduceAdd, Nat.reduceSub, Nat.reduceMul, Nat.reduceLeDiff, ← Bool.decide_and, ← Bool.decide_or, ← decide_not, Int.reduceLT, Int.reduceLE, Int.reduceToNat, Int.reduceNeg, by_nil, Int.reduceEq, not_true_eq_false, not_false_eq_true, false_implies]
        exact ⟨hb1, by rw [hb]⟩
theorem h_Made4 (x : Raw) (h0 : 0 ≤ x.1 ∧ 0 ≤ x.2.2.2.1 ∧ 0 ≤ x.2.2.2.2) (hq : kindE x = 4) : HC env 12 [.iv RawT x, .iv (.int .i64) (26 : Int)] [] (.agg [.iv (.int .i64) (4 : Int), .iv .str [], .lfull 21, .iv .str [], .iv (.int .i64) (0 : Int), .iv (.int .i64) (0 : Int)]) [(21, .arr PointT (ptsE x))] := by
  obtain ⟨k0, l, p, n, m⟩ := x
  have t1 : Int.tmod k0 12 = k0 % 12 := Int.tmod_eq_emod_of_nonneg h0.1
  have t2 : Int.tmod n 40 = n % 40 := Int.tmod_eq_emod_of_nonneg h0.2.1
  have t3 : Int.tmod n 50 = n % 50 := Int.tmod_eq_emod_of_nonneg h0.2.1
  have t4 : Int.tmod m 40 = m % 40 := Int.tmod_eq_emod_of_nonneg h0.2.2
  have hk := h0.1
  have hn := h0.2.1
  have hm := h0.2.2
  dsimp only at hk hn hm
  clear h0
  have htw := textW_len l
  refine HC.of_PW (m := 2000) env_ok fn_12 rfl rfl rfl rfl (by kernel_rfl) ?_; intro hx hbl; simp only [Tryd.f12]; simp only [go_sem, Nat.reduceBEq, ↓reduceIte, ↓reduceDIte, Nat.reduceAdd, Nat.reduceSub, Nat.reduceMul, Nat.reduceLeDiff, ← Bool.decide_and, ← Bool.decide_or, ← decide_not, Int.reduceLT, Int.reduceLE, Int.reduceToNat, Int.reduceNeg, by_nil, Int.reduceEq, not_true_eq_false, not_false_eq_true, false_implies]
  have hp : ∀ q, q ∈ p → (0 ≤ q.1 ∧ q.1 ≤ 255) ∧ 0 ≤ q.2 ∧ q.2 ≤ 255 := fun q hq => by
    have := hx.1.2.2.1.2 q hq
    exact ⟨u8_of this.1, u8_of this.2⟩
  rw [t1]
  clear hx
  refine ⟨i64_ok (by omega) (by omega), _, c_Text l, fun _ => ?_⟩
  have hK : 1 + k0 % 12 = kindE (k0, l, p, n, m) := rfl
  rw [hK]
  have hKb : 1 ≤ kindE (k0, l, p, n, m) ∧ kindE (k0, l, p, n, m) ≤ 12 := by rw [← hK]; omega
  apply Walks.shareX (X := Unit) (fun _ => ⟨[(8, .iv (.int .i64) (0 : Int)), (7, .lfull 21), (6, .iv .str (textW l)), (5, .ref 5 0), (4, .ref 4 0), (2, .ref 2 0), (1, .iv (.int .i64) (26 : Int))],
    [(21, .arr PointT []), (5, .box [.iv (.int .i64) (kindE (k0, l, p, n, m)), .iv .str [], .nilsl, .iv .str [], .iv (.int .i64) (0 : Int), .iv (.int .i64) (0 : Int)]), (4, .box [.iv (.int .i64) (0 : Int), .iv .str [], .nilsl, .iv .str [], .iv (.int .i64) (0 : Int), .iv (.int .i64) (0 : Int)]), (2, .box [.iv (.int .u8) k0, .iv (.sl (.int .u8)) l, .iv (.sl (.st (.pair (.int .u8) (.int .u8)))) p, .iv (.int .u8) n, .iv (.int .u8) m])]⟩) (fun _ => True)
  · intro key
    refine ⟨fun h => key _ () trivial ?_, fun h => key _ () trivial ?_⟩
    · have e : textW l = bytesOf ⟨#[97]⟩ := by unfold textW; rw [if_pos h]; rfl
      rw [e]
      exact (by refine ⟨?_, ?_, rfl, rfl⟩ <;> repeat' (first | exact trivial | (refine And.intro (Or.inl rfl) ?_) | (refine And.intro (Or.inr (Or.inl rfl)) ?_) | (refine And.intro (Or.inr (Or.inr (Or.inr ⟨rfl, rfl⟩))) ?_) | (refine And.intro (Or.inr (Or.inr (Or.inl ⟨rfl, rfl, trivial⟩))) ?_) | exact ⟨(by show (_ : Nat) < 1000000000; omega), rfl, rfl⟩ | rfl | (refine And.intro (Or.inl ?_) ?_) | (refine And.intro ?_ ?_)))
    · have e : textW l = textE l := by unfold textW; rw [if_neg h]
      rw [e]
      exact (by refine ⟨?_, ?_, rfl, rfl⟩ <;> repeat' (first | exact trivial | (refine And.intro (Or.inl rfl) ?_) | (refine And.intro (Or.inr (Or.inl rfl)) ?_) | (refine And.intro (Or.inr (Or.inr (Or.inr ⟨rfl, rfl⟩))) ?_) | (refine And.intro (Or.inr (Or.inr (Or.inl ⟨rfl, rfl, trivial⟩))) ?_) | exact ⟨(by show (_ : Nat) < 1000000000; omega), rfl, rfl⟩ | rfl | (refine And.intro (Or.inl ?_) ?_) | (refine And.intro ?_ ?_)))
  · intro _ _
    refine Walks.loopA (X := Nat × List (Int × Int)) (fun (z : Nat × List (Int × Int)) => [(8, .iv (.int .i64) (z.1 : Int)), (7, .lfull 21)]) (fun (z : Nat × List (Int × Int)) => [(21, .arr PointT z.2)]) (fun (z : Nat × List (Int × Int)) => z.1 ≤ p.length ∧ z.1 ≤ 6 ∧ z.2 = (p.take z.1).map ptE) (fun (z : Nat × List (Int × Int)) => 6 - z.1) (0, []) ?_; intro b1 b2 hb1 hb2; simp (config := {maxSteps := 4000000}) only [go_sem, Nat.reduceBEq, ↓reduceIte, ↓reduceDIte, Nat.reduceAdd, Nat.reduceSub, Nat.reduceMul, Nat.reduceLeDiff, ← Bool.decide_and, ← Bool.decide_or, ← decide_not, Int.reduceLT, Int.reduceLE, Int.reduceToNat, Int.reduceNeg, by_nil, Int.reduceEq, not_true_eq_false, not_false_eq_true, false_implies] at hb1 hb2; subst hb1; subst hb2; refine ⟨(by refine ⟨?_, ?_, rfl, rfl⟩ <;> repeat' (first | exact trivial | (refine And.intro (Or.inl rfl) ?_) | (refine And.intro (Or.inr (Or.inl rfl)) ?_) | (refine And.intro (Or.inr (Or.inr (Or.inr ⟨rfl, rfl⟩))) ?_) | (refine And.intro (Or.inr (Or.inr (Or.inl ⟨rfl, rfl, trivial⟩))) ?_) | exact ⟨(by show (_ : Nat) < 1000000000; omega), rfl, rfl⟩ | rfl | (refine And.intro (Or.inl ?_) ?_) | (refine And.intro ?_ ?_))), ?_, ?_⟩
    · exact ⟨Nat.zero_le _, Nat.zero_le _, rfl⟩
    intro ⟨i, a⟩ ⟨hi, h6, hb⟩ back
    dsimp only at hi h6 hb
    have hal : a.length = i := by rw [hb, List.length_map, List.length_take]; omega
    refine PW_sound env_ok ⟨_, fn_12, rfl⟩ 2000 _ _ (by kernel_rfl) ?_; simp only [go_sem, Nat.reduceBEq, ↓reduceIte, ↓reduceDIte, Nat.reduceAdd, Nat.reduceSub, Nat.reduceMul, Nat.reduceLeDiff, ← Bool.decide_and, ← Bool.decide_or, ← decide_not, Int.reduceLT, Int.reduceLE, Int.reduceToNat, Int.reduceNeg, by_nil, Int.reduceEq, not_true_eq_false, not_false_eq_true, false_implies]
    have hend : ¬ (i < p.length ∧ i < 6) → a = (p.take 6).map ptE := fun h => by
      rw [hb]
      by_cases h1 : i = 6
      · rw [h1]
      · have e1 : p.take i = p := List.take_of_length_le (by omega)
        have e2 : p.take 6 = p := List.take_of_length_le (by omega)
        rw [e1, e2]
    apply Walks.shareX (X := Unit) (fun _ => ⟨[(7, .lfull 21), (6, .iv .str (textW l)), (5, .ref 5 0), (4, .ref 4 0), (2, .ref 2 0), (1, .iv (.int .i64) (26 : Int))],
      [(21, .arr PointT ((p.take 6).map ptE)), (5, .box [.iv (.int .i64) (kindE (k0, l, p, n, m)), .iv .str [], .nilsl, .iv .str [], .iv (.int .i64) (0 : Int), .iv (.int .i64) (0 : Int)]), (4, .box [.iv (.int .i64) (0 : Int), .iv .str [], .nilsl, .iv .str [], .iv (.int .i64) (0 : Int), .iv (.int .i64) (0 : Int)]), (2, .box [.iv (.int .u8) k0, .iv (.sl (.int .u8)) l, .iv (.sl (.st (.pair (.int .u8) (.int .u8)))) p, .iv (.int .u8) n, .iv (.int .u8) m])]⟩) (fun _ => True)
    · intro key
      refine ⟨fun h1 => ⟨fun h2 => ?_, fun h2 => ?_⟩, fun h1 => ?_⟩
      · obtain ⟨q, hq⟩ := get_of_lt (xs := p) (i := i) (by omega)
        have hqb := hp q (List.mem_of_getElem? hq)
        have e1 : Int.tmod (4 * q.1) 1001 = 4 * q.1 % 1001 := Int.tmod_eq_emod_of_nonneg (by omega)
        have e2 : Int.tmod (4 * q.2) 1001 = 4 * q.2 % 1001 := Int.tmod_eq_emod_of_nonneg (by omega)
        refine ⟨Int.natCast_nonneg _, q, hq, i64_ok (by omega) (by omega), Int.natCast_nonneg _, q, hq, i64_ok (by omega) (by omega), by omega, i64_ok (by omega) (by omega), ?_⟩
        rw [e1, e2]
        refine back _ (i + 1, a ++ [ptE q]) ?_ ⟨by dsimp only; omega, by dsimp only; omega, ?_⟩ (by dsimp only; omega)
        · exact (by refine ⟨?_, ?_, rfl, rfl⟩ <;> repeat' (first | exact trivial | (refine And.intro (Or.inl rfl) ?_) | (refine And.intro (Or.inr (Or.inl rfl)) ?_) | (refine And.intro (Or.inr (Or.inr (Or.inr ⟨rfl, rfl⟩))) ?_) | (refine And.intro (Or.inr (Or.inr (Or.inl ⟨rfl, rfl, trivial⟩))) ?_) | exact ⟨(by show (_ : Nat) < 1000000000; omega), rfl, rfl⟩ | rfl | (refine And.intro (Or.inl ?_) ?_) | (refine And.intro ?_ ?_)))
        · dsimp only
          rw [take_snoc hq, List.map_append, ← hb]; rfl
      · refine key _ () trivial ?_
        rw [← hend (by omega)]
        exact (by refine ⟨?_, ?_, rfl, rfl⟩ <;> repeat' (first | exact trivial | (refine And.intro (Or.inl rfl) ?_) | (refine And.intro (Or.inr (Or.inl rfl)) ?_) | (refine And.intro (Or.inr (Or.inr (Or.inr ⟨rfl, rfl⟩))) ?_) | (refine And.intro (Or.inr (Or.inr (Or.inl ⟨rfl, rfl, trivial⟩))) ?_) | exact ⟨(by show (_ : Nat) < 1000000000; omega), rfl, rfl⟩ | rfl | (refine And.intro (Or.inl ?_) ?_) | (refine And.intro ?_ ?_)))
      · refine key _ () trivial ?_
        rw [← hend (by omega)]
        exact (by refine ⟨?_, ?_, rfl, rfl⟩ <;> repeat' (first | exact trivial | (refine And.intro (Or.inl rfl) ?_) | (refine And.intro (Or.inr (Or.inl rfl)) ?_) | (refine And.intro (Or.inr (Or.inr (Or.inr ⟨rfl, rfl⟩))) ?_) | (refine And.intro (Or.inr (Or.inr (Or.inl ⟨rfl, rfl, trivial⟩))) ?_) | exact ⟨(by show (_ : Nat) < 1000000000; omega), rfl, rfl⟩ | rfl | (refine And.intro (Or.inl ?_) ?_) | (refine And.intro ?_ ?_)))
    · clear back hend hb hal hi h6
      intro _ _
      refine Walks.loopA (X := List (Int × Int)) (fun (b : List (Int × Int)) => [(7, .lfull 21)]) (fun (b : List (Int × Int)) => [(21, .arr PointT b)]) (fun (b : List (Int × Int)) => b.length ≤ 6 ∧ padE n b = ptsE (k0, l, p, n, m)) (fun (b : List (Int × Int)) => 2 - b.length) ((p.take 6).map ptE) ?_; intro b1 b2 hb1 hb2; simp (config := {maxSteps := 4000000}) only [go_sem, Nat.reduceBEq, ↓reduceIte, ↓reduceDIte, Nat.reduceAdd, Nat.reduceSub, Nat.reduceMul, Nat.reduceLeDiff, ← Bool.decide_and, ← Bool.decide_or, ← decide_not, Int.reduceLT, Int.reduceLE, Int.reduceToNat, Int.reduceNeg, by_nil, Int.reduceEq, not_true_eq_false, not_false_eq_true, false_implies] at hb1 hb2; subst hb1; subst hb2; refine ⟨(by refine ⟨?_, ?_, rfl, rfl⟩ <;> repeat' (first | exact trivial | (refine And.intro (Or.inl rfl) ?_) | (refine And.intro (Or.inr (Or.inl rfl)) ?_) | (refine And.intro (Or.inr (Or.inr (Or.inr ⟨rfl, rfl⟩))) ?_) | (refine And.intro (Or.inr (Or.inr (Or.inl ⟨rfl, rfl, trivial⟩))) ?_) | exact ⟨(by show (_ : Nat) < 1000000000; omega), rfl, rfl⟩ | rfl | (refine And.intro (Or.inl ?_) ?_) | (refine And.intro ?_ ?_))), ?_, ?_⟩
      · exact ⟨by rw [List.length_map, List.length_take]; omega, rfl⟩
      intro b ⟨h6, hb⟩ back
      refine PW_sound env_ok ⟨_, fn_12, rfl⟩ 2000 _ _ (by kernel_rfl) ?_; simp only [go_sem, Nat.reduceBEq, ↓reduceIte, ↓reduceDIte, Nat.reduceAdd, Nat.reduceSub, Nat.reduceMul, Nat.reduceLeDiff, ← Bool.decide_and, ← Bool.decide_or, ← decide_not, Int.reduceLT, Int.reduceLE, Int.reduceToNat, Int.reduceNeg, by_nil, Int.reduceEq, not_true_eq_false, not_false_eq_true, false_implies]
      refine ⟨fun h1 => ⟨i64_ok (by omega) (by omega), by omega, ?_⟩, fun h1 => ?_⟩
      · refine back _ (b ++ [(30 * (b.length : Int), n)]) ?_ ⟨by simp only [List.length_append, List.length_cons, List.length_nil]; omega, ?_⟩ (by simp only [List.length_append, List.length_cons, List.length_nil]; omega)
        · exact (by refine ⟨?_, ?_, rfl, rfl⟩ <;> repeat' (first | exact trivial | (refine And.intro (Or.inl rfl) ?_) | (refine And.intro (Or.inr (Or.inl rfl)) ?_) | (refine And.intro (Or.inr (Or.inr (Or.inr ⟨rfl, rfl⟩))) ?_) | (refine And.intro (Or.inr (Or.inr (Or.inl ⟨rfl, rfl, trivial⟩))) ?_) | exact ⟨(by show (_ : Nat) < 1000000000; omega), rfl, rfl⟩ | rfl | (refine And.intro (Or.inl ?_) ?_) | (refine And.intro ?_ ?_)))
        · rw [pad_step n b (by omega)]; exact hb
      · rw [pad_done n b (by omega)] at hb
        have hb1 : (1 : Int) ≤ (b.length : Nat) := by omega
        clear back hK t1
        simp only [hq, go_sem, Nat.reduceBEq, ↓reduceIte, ↓reduceDIte, Nat.reduceAdd, Nat.reduceSub, Nat.reduceMul, Nat.reduceLeDiff, ← Bool.decide_and, ← Bool.decide_or, ← decide_not, Int.reduceLT, Int.reduceLE, Int.reduceToNat, Int.reduceNeg, by_nil, Int.reduceEq, not_true_eq_false, not_false_eq_true, false_implies]
        rw [hb]
theorem h_MadeO (x : Raw) (h0 : 0 ≤ x.1 ∧ 0 ≤ x.2.2.2.1 ∧ 0 ≤ x.2.2.2.2) (hq : ¬ kindE x = 3 ∧ ¬ kindE x = 4) : HC env 12 [.iv RawT x, .iv (.int .i64) (26 : Int)] [] (.agg [.iv (.int .i64) (kindE x), .iv .str (madeE x).2.1, .nilsl, .iv .str (madeE x).2.2.2.1, .iv (.int .i64) (madeE x).2.2.2.2.1, .iv (.int .i64) (madeE x).2.2.2.2.2]) [] := by
  obtain ⟨k0, l, p, n, m⟩ := x
  have t1 : Int.tmod k0 12 = k0 % 12 := Int.tmod_eq_emod_of_nonneg h0.1
  have t2 : Int.tmod n 40 = n % 40 := Int.tmod_eq_emod_of_nonneg h0.2.1
  have t3 : Int.tmod n 50 = n % 50 := Int.tmod_eq_emod_of_nonneg h0.2.1
  have t4 : Int.tmod m 40 = m % 40 := Int.tmod_eq_emod_of_nonneg h0.2.2
  have hk := h0.1
  have hn := h0.2.1
  have hm := h0.2.2
  dsimp only at hk hn hm
  clear h0
  have htw := textW_len l
  refine HC.of_PW (m := 2000) env_ok fn_12 rfl rfl rfl rfl (by kernel_rfl) ?_; intro hx hbl; simp only [Tryd.f12]; simp only [go_sem, Nat.reduceBEq, ↓reduceIte, ↓reduceDIte, Nat.reduceAdd, Nat.reduceSub, Nat.reduceMul, Nat.reduceLeDiff, ← Bool.decide_and, ← Bool.decide_or, ← decide_not, Int.reduceLT, Int.reduceLE, Int.reduceToNat, Int.reduceNeg, by_nil, Int.reduceEq, not_true_eq_false, not_false_eq_true, false_implies]
  have hp : ∀ q, q ∈ p → (0 ≤ q.1 ∧ q.1 ≤ 255) ∧ 0 ≤ q.2 ∧ q.2 ≤ 255 := fun q hq => by
    have := hx.1.2.2.1.2 q hq
    exact ⟨u8_of this.1, u8_of this.2⟩
  rw [t1]
  clear hx
  refine ⟨i64_ok (by omega) (by omega), _, c_Text l, fun _ => ?_⟩
  have hK : 1 + k0 % 12 = kindE (k0, l, p, n, m) := rfl
  rw [hK]
  have hKb : 1 ≤ kindE (k0, l, p, n, m) ∧ kindE (k0, l, p, n, m) ≤ 12 := by rw [← hK]; omega
  apply Walks.shareX (X := Unit) (fun _ => ⟨[(8, .iv (.int .i64) (0 : Int)), (7, .lfull 21), (6, .iv .str (textW l)), (5, .ref 5 0), (4, .ref 4 0), (2, .ref 2 0), (1, .iv (.int .i64) (26 : Int))],
    [(21, .arr PointT []), (5, .box [.iv (.int .i64) (kindE (k0, l, p, n, m)), .iv .str [], .nilsl, .iv .str [], .iv (.int .i64) (0 : Int), .iv (.int .i64) (0 : Int)]), (4, .box [.iv (.int .i64) (0 : Int), .iv .str [], .nilsl, .iv .str [], .iv (.int .i64) (0 : Int), .iv (.int .i64) (0 : Int)]), (2, .box [.iv (.int .u8) k0, .iv (.sl (.int .u8)) l, .iv (.sl (.st (.pair (.int .u8) (.int .u8)))) p, .iv (.int .u8) n, .iv (.int .u8) m])]⟩) (fun _ => True)
  · intro key
    refine ⟨fun h => key _ () trivial ?_, fun h => key _ () trivial ?_⟩
    · have e : textW l = bytesOf ⟨#[97]⟩ := by unfold textW; rw [if_pos h]; rfl
      rw [e]
      exact (by refine ⟨?_, ?_, rfl, rfl⟩ <;> repeat' (first | exact trivial | (refine And.intro (Or.inl rfl) ?_) | (refine And.intro (Or.inr (Or.inl rfl)) ?_) | (refine And.intro (Or.inr (Or.inr (Or.inr ⟨rfl, rfl⟩))) ?_) | (refine And.intro (Or.inr (Or.inr (Or.inl ⟨rfl, rfl, trivial⟩))) ?_) | exact ⟨(by show (_ : Nat) < 1000000000; omega), rfl, rfl⟩ | rfl | (refine And.intro (Or.inl ?_) ?_) | (refine And.intro ?_ ?_)))
    · have e : textW l = textE l := by unfold textW; rw [if_neg h]
      rw [e]
      exact (by refine ⟨?_, ?_, rfl, rfl⟩ <;> repeat' (first | exact trivial | (refine And.intro (Or.inl rfl) ?_) | (refine And.intro (Or.inr (Or.inl rfl)) ?_) | (refine And.intro (Or.inr (Or.inr (Or.inr ⟨rfl, rfl⟩))) ?_) | (refine And.intro (Or.inr (Or.inr (Or.inl ⟨rfl, rfl, trivial⟩))) ?_) | exact ⟨(by show (_ : Nat) < 1000000000; omega), rfl, rfl⟩ | rfl | (refine And.intro (Or.inl ?_) ?_) | (refine And.intro ?_ ?_)))
  · intro _ _
    refine Walks.loopA (X := Nat × List (Int × Int)) (fun (z : Nat × List (Int × Int)) => [(8, .iv (.int .i64) (z.1 : Int)), (7, .lfull 21)]) (fun (z : Nat × List (Int × Int)) => [(21, .arr PointT z.2)]) (fun (z : Nat × List (Int × Int)) => z.1 ≤ p.length ∧ z.1 ≤ 6 ∧ z.2 = (p.take z.1).map ptE) (fun (z : Nat × List (Int × Int)) => 6 - z.1) (0, []) ?_; intro b1 b2 hb1 hb2; simp (config := {maxSteps := 4000000}) only [go_sem, Nat.reduceBEq, ↓reduceIte, ↓reduceDIte, Nat.reduceAdd, Nat.reduceSub, Nat.reduceMul, Nat.reduceLeDiff, ← Bool.decide_and, ← Bool.decide_or, ← decide_not, Int.reduceLT, Int.reduceLE, Int.reduceToNat, Int.reduceNeg, by_nil, Int.reduceEq, not_true_eq_false, not_false_eq_true, false_implies] at hb1 hb2; subst hb1; subst hb2; refine ⟨(by refine ⟨?_, ?_, rfl, rfl⟩ <;> repeat' (first | exact trivial | (refine And.intro (Or.inl rfl) ?_) | (refine And.intro (Or.inr (Or.inl rfl)) ?_) | (refine And.intro (Or.inr (Or.inr (Or.inr ⟨rfl, rfl⟩))) ?_) | (refine And.intro (Or.inr (Or.inr (Or.inl ⟨rfl, rfl, trivial⟩))) ?_) | exact ⟨(by show (_ : Nat) < 1000000000; omega), rfl, rfl⟩ | rfl | (refine And.intro (Or.inl ?_) ?_) | (refine And.intro ?_ ?_))), ?_, ?_⟩
    · exact ⟨Nat.zero_le _, Nat.zero_le _, rfl⟩
    intro ⟨i, a⟩ ⟨hi, h6, hb⟩ back
    dsimp only at hi h6 hb
    have hal : a.length = i := by rw [hb, List.length_map, List.length_take]; omega
    refine PW_sound env_ok ⟨_, fn_12, rfl⟩ 2000 _ _ (by kernel_rfl) ?_; simp only [go_sem, Nat.reduceBEq, ↓reduceIte, ↓reduceDIte, Nat.reduceAdd, Nat.reduceSub, Nat.reduceMul, Nat.reduceLeDiff, ← Bool.decide_and, ← Bool.decide_or, ← decide_not, Int.reduceLT, Int.reduceLE, Int.reduceToNat, Int.reduceNeg, by_nil, Int.reduceEq, not_true_eq_false, not_false_eq_true, false_implies]
    have hend : ¬ (i < p.length ∧ i < 6) → a = (p.take 6).map ptE := fun h => by
      rw [hb]
      by_cases h1 : i = 6
      · rw [h1]
      · have e1 : p.take i = p := List.take_of_length_le (by omega)
        have e2 : p.take 6 = p := List.take_of_length_le (by omega)
        rw [e1, e2]
    apply Walks.shareX (X := Unit) (fun _ => ⟨[(7, .lfull 21), (6, .iv .str (textW l)), (5, .ref 5 0), (4, .ref 4 0), (2, .ref 2 0), (1, .iv (.int .i64) (26 : Int))],
      [(21, .arr PointT ((p.take 6).map ptE)), (5, .box [.iv (.int .i64) (kindE (k0, l, p, n, m)), .iv .str [], .nilsl, .iv .str [], .iv (.int .i64) (0 : Int), .iv (.int .i64) (0 : Int)]), (4, .box [.iv (.int .i64) (0 : Int), .iv .str [], .nilsl, .iv .str [], .iv (.int .i64) (0 : Int), .iv (.int .i64) (0 : Int)]), (2, .box [.iv (.int .u8) k0, .iv (.sl (.int .u8)) l, .iv (.sl (.st (.pair (.int .u8) (.int .u8)))) p, .iv (.int .u8) n, .iv (.int .u8) m])]⟩) (fun _ => True)
    · intro key
      refine ⟨fun h1 => ⟨fun h2 => ?_, fun h2 => ?_⟩, fun h1 => ?_⟩
      · obtain ⟨q, hq⟩ := get_of_lt (xs := p) (i := i) (by omega)
        have hqb := hp q (List.mem_of_getElem? hq)
        have e1 : Int.tmod (4 * q.1) 1001 = 4 * q.1 % 1001 := Int.tmod_eq_emod_of_nonneg (by omega)
        have e2 : Int.tmod (4 * q.2) 1001 = 4 * q.2 % 1001 := Int.tmod_eq_emod_of_nonneg (by omega)
        refine ⟨Int.natCast_nonneg _, q, hq, i64_ok (by omega) (by omega), Int.natCast_nonneg _, q, hq, i64_ok (by omega) (by omega), by omega, i64_ok (by omega) (by omega), ?_⟩
        rw [e1, e2]
        refine back _ (i + 1, a ++ [ptE q]) ?_ ⟨by dsimp only; omega, by dsimp only; omega, ?_⟩ (by dsimp only; omega)
        · exact (by refine ⟨?_, ?_, rfl, rfl⟩ <;> repeat' (first | exact trivial | (refine And.intro (Or.inl rfl) ?_) | (refine And.intro (Or.inr (Or.inl rfl)) ?_) | (refine And.intro (Or.inr (Or.inr (Or.inr ⟨rfl, rfl⟩))) ?_) | (refine And.intro (Or.inr (Or.inr (Or.inl ⟨rfl, rfl, trivial⟩))) ?_) | exact ⟨(by show (_ : Nat) < 1000000000; omega), rfl, rfl⟩ | rfl | (refine And.intro (Or.inl ?_) ?_) | (refine And.intro ?_ ?_)))
        · dsimp only
          rw [take_snoc hq, List.map_append, ← hb]; rfl
      · refine key _ () trivial ?_
        rw [← hend (by omega)]
        exact (by refine ⟨?_, ?_, rfl, rfl⟩ <;> repeat' (first | exact trivial | (refine And.intro (Or.inl rfl) ?_) | (refine And.intro (Or.inr (Or.inl rfl)) ?_) | (refine And.intro (Or.inr (Or.inr (Or.inr ⟨rfl, rfl⟩))) ?_) | (refine And.intro (Or.inr (Or.inr (Or.inl ⟨rfl, rfl, trivial⟩))) ?_) | exact ⟨(by show (_ : Nat) < 1000000000; omega), rfl, rfl⟩ | rfl | (refine And.intro (Or.inl ?_) ?_) | (refine And.intro ?_ ?_)))
      · refine key _ () trivial ?_
        rw [← hend (by omega)]
        exact (by refine ⟨?_, ?_, rfl, rfl⟩ <;> repeat' (first | exact trivial | (refine And.intro (Or.inl rfl) ?_) | (refine And.intro (Or.inr (Or.inl rfl)) ?_) | (refine And.intro (Or.inr (Or.inr (Or.inr ⟨rfl, rfl⟩))) ?_) | (refine And.intro (Or.inr (Or.inr (Or.inl ⟨rfl, rfl, trivial⟩))) ?_) | exact ⟨(by show (_ : Nat) < 1000000000; omega), rfl, rfl⟩ | rfl | (refine And.intro (Or.inl ?_) ?_) | (refine And.intro ?_ ?_)))
    · clear back hend hb hal hi h6
      intro _ _
      refine Walks.loopA (X := List (Int × Int)) (fun (b : List (Int × Int)) => [(7, .lfull 21)]) (fun (b : List (Int × Int)) => [(21, .arr PointT b)]) (fun (b : List (Int × Int)) => b.length ≤ 6 ∧ padE n b = ptsE (k0, l, p, n, m)) (fun (b : List (Int × Int)) => 2 - b.length) ((p.take 6).map ptE) ?_; intro b1 b2 hb1 hb2; simp (config := {maxSteps := 4000000}) only [go_sem, Nat.reduceBEq, ↓reduceIte, ↓reduceDIte, Nat.reduceAdd, Nat.reduceSub, Nat.reduceMul, Nat.reduceLeDiff, ← Bool.decide_and, ← Bool.decide_or, ← decide_not, Int.reduceLT, Int.reduceLE, Int.reduceToNat, Int.reduceNeg, by_nil, Int.reduceEq, not_true_eq_false, not_false_eq_true, false_implies] at hb1 hb2; subst hb1; subst hb2; refine ⟨(by refine ⟨?_, ?_, rfl, rfl⟩ <;> repeat' (first | exact trivial | (refine And.intro (Or.inl rfl) ?_) | (refine And.intro (Or.inr (Or.inl rfl)) ?_) | (refine And.intro (Or.inr (Or.inr (Or.inr ⟨rfl, rfl⟩))) ?_) | (refine And.intro (Or.inr (Or.inr (Or.inl ⟨rfl, rfl, trivial⟩))) ?_) | exact ⟨(by show (_ : Nat) < 1000000000; omega), rfl, rfl⟩ | rfl | (refine And.intro (Or.inl ?_) ?_) | (refine And.intro ?_ ?_))), ?_, ?_⟩
      · exact ⟨by rw [List.length_map, List.length_take]; omega, rfl⟩
      intro b ⟨h6, hb⟩ back
      refine PW_sound env_ok ⟨_, fn_12, rfl⟩ 2000 _ _ (by kernel_rfl) ?_; simp only [go_sem, Nat.reduceBEq, ↓reduceIte, ↓reduceDIte, Nat.reduceAdd, Nat.reduceSub, Nat.reduceMul, Nat.reduceLeDiff, ← Bool.decide_and, ← Bool.decide_or, ← decide_not, Int.reduceLT, Int.reduceLE, Int.reduceToNat, Int.reduceNeg, by_nil, Int.reduceEq, not_true_eq_false, not_false_eq_true, false_implies]
      refine ⟨fun h1 => ⟨i64_ok (by omega) (by omega), by omega, ?_⟩, fun h1 => ?_⟩
      · refine back _ (b ++ [(30 * (b.length : Int), n)]) ?_ ⟨by simp only [List.length_append, List.length_cons, List.length_nil]; omega, ?_⟩ (by simp only [List.length_append, List.length_cons, List.length_nil]; omega)
        · exact (by refine ⟨?_, ?_, rfl, rfl⟩ <;> repeat' (first | exact trivial | (refine And.intro (Or.inl rfl) ?_) | (refine And.intro (Or.inr (Or.inl rfl)) ?_) | (refine And.intro (Or.inr (Or.inr (Or.inr ⟨rfl, rfl⟩))) ?_) | (refine And.intro (Or.inr (Or.inr (Or.inl ⟨rfl, rfl, trivial⟩))) ?_) | exact ⟨(by show (_ : Nat) < 1000000000; omega), rfl, rfl⟩ | rfl | (refine And.intro (Or.inl ?_) ?_) | (refine And.intro ?_ ?_)))
        · rw [pad_step n b (by omega)]; exact hb
      · rw [pad_done n b (by omega)] at hb
        have hb1 : (1 : Int) ≤ (b.length : Nat) := by omega
        clear back hK t1
        obtain ⟨hq3, hq4⟩ := hq
        simp only [hq3, hq4, go_sem, Nat.reduceBEq, ↓reduceIte, ↓reduceDIte, Nat.reduceAdd, Nat.reduceSub, Nat.reduceMul, Nat.reduceLeDiff, ← Bool.decide_and, ← Bool.decide_or, ← decide_not, Int.reduceLT, Int.reduceLE, Int.reduceToNat, Int.reduceNeg, by_nil, Int.reduceEq, not_true_eq_false, not_false_eq_true, false_implies]
        repeat' (first | (with_reducible intro _) | (with_reducible apply And.intro) | (with_reducible refine ⟨_, c_chord n m hn hm, ?_⟩) | fail)
        all_goals first | omega | (simp_all [madeE]; done)
end Go.Proofs.YtopelldocfbhkaaDoor
--SET+ by_nil, by10, by32, Int.reduceEq, not_true_eq_false, not_false_eq_true, false_implies, env2_ty, env2_str, env2_cmp, env2_key, env2_fn, env2_hfn, env2_ro, env2_tm
--ENV2
namespace Go.Proofs.YtopelldocfbhkaaDoor
set_option maxHeartbeats 4000000
set_option maxRecDepth 100000
open Go.Lib
/-- Where Made's result may be appended to: it hands over its array. -/
noncomputable def env2 : Env := ⟨env.P, env.ty, env.str, env.cmp, fun f => bif Nat.beq f 12 then none else env.fn f, fun f => bif Nat.beq f 12 then some [some RawT, some (.int .i64)] else env.hfn f, env.mapKey, env.ro, env.tm⟩
theorem env2_ty (t : Nat) : env2.ty t = env.ty t := rfl
theorem env2_str (t : Nat) : env2.str t = env.str t := rfl
theorem env2_cmp (t : Nat) : env2.cmp t = env.cmp t := rfl
theorem env2_key (t : Nat) : env2.mapKey t = env.mapKey t := rfl
theorem env2_ro (d t : Nat) : env2.ro d t = env.ro d t := rfl
theorem env2_tm : env2.tm = env.tm := rfl
theorem env2_fn (f : Nat) : env2.fn f = bif Nat.beq f 12 then none else env.fn f := rfl
theorem env2_hfn (f : Nat) : env2.hfn f = bif Nat.beq f 12 then some [some RawT, some (.int .i64)] else env.hfn f := rfl
theorem env2_ok : EnvOK env2 := by
  have h := env_ok
  refine ⟨h.ty, fun f As T hf => ?_, fun f As T hf => ?_, fun f As hf => ?_, h.cmp, h.mapKey, h.mixed⟩
  · rw [env2_fn] at hf
    cases hb : Nat.beq f 12 with
    | true => rw [hb] at hf; cases hf
    | false => rw [hb] at hf; exact h.fn f As T hf
  · rw [env2_fn] at hf
    cases hb : Nat.beq f 12 with
    | true => rw [hb] at hf; cases hf
    | false => rw [hb] at hf; exact h.res f As T hf
  · rw [env2_hfn] at hf
    cases hb : Nat.beq f 12 with
    | true =>
      rw [hb] at hf
      injection hf with hf
      subst hf
      have hbe := Nat.eq_of_beq_eq_true hb
      subst hbe
      exact h.fn 12 [RawT, .int .i64] EventT rfl
    | false => rw [hb] at hf; exact h.hfn f As hf
theorem up2 {f : Nat} {xs : List (Sigma Ty.den)} {T : Ty} {r : T.den} (h : PC env f xs T r) : PC env2 f xs T r := h
theorem upH {f : Nat} {args : List PV} {bl bl' : List (Nat × Blk)} {p : PV} (h : HC env f args bl p bl') : HC env2 f args bl p bl' := h
theorem u8_wrap (x : Int) : 0 ≤ IntKind.u8.wrap x := by
  unfold IntKind.wrap
  simp only [IntKind.signed, IntKind.bits]
  simp
  omega
theorem c_Valid_3 (k : Int) (l : List Int) (p : List (Int × Int)) (n m : Int) (y1 : Int) (y2 : Str) (y3 : List (Int × Int)) (y4 : Str) (y5 y6 : Int) (w1 w2 : Int) (hq : kindE (k, l, p, n, m) = 3) : PC env2 4 [⟨RawT, (k, l, p, n, m)⟩, ⟨EventT, (y1, y2, y3, y4, y5, y6)⟩, ⟨.st (.pair (.int .i8) (.int .i8)), (w1, w2)⟩] .bool true := by
  refine PC.of_PW (m := 2000) env2_ok fn_4 rfl rfl rfl rfl (by kernel_rfl) ?_; intro hx; simp only [Tryd.f4]; simp only [go_sem, Nat.reduceBEq, ↓reduceIte, ↓reduceDIte, Nat.reduceAdd, Nat.reduceSub, Nat.reduceMul, Nat.reduceLeDiff, ← Bool.decide_and, ← Bool.decide_or, ← decide_not, Int.reduceLT, Int.reduceLE, Int.reduceToNat, Int.reduceNeg, by_nil, by10, by32, Int.reduceEq, not_true_eq_false, not_false_eq_true, false_implies, env2_ty, env2_str, env2_cmp, env2_key, env2_fn, env2_hfn, env2_ro, env2_tm]
  have hx1 := raw_ok hx
  have hcv : PC env2 17 [⟨EventT, ((3, [], (ptsE (k, l, p, n, m)).take 1, [], 0, 0) : Ev)⟩] .bool true := by
    have hv : validE (madeE (k, l, p, n, m)) = true := made_v hx1
    have hc : PC env2 17 [⟨EventT, madeE (k, l, p, n, m)⟩] .bool (validE (madeE (k, l, p, n, m))) := up2 (c_Valid _)
    rw [hv] at hc
    have e : madeE (k, l, p, n, m) = (3, [], (ptsE (k, l, p, n, m)).take 1, [], 0, 0) := by simp [madeE, hq]
    rw [e] at hc; exact hc
  have hpl := ptsE_ok (x := (k, l, p, n, m)) hx1.2.1
  have hvn := valid_nums (show validE (madeE (k, l, p, n, m)) = true from made_v hx1)
  have hKb : 1 ≤ kindE (k, l, p, n, m) ∧ kindE (k, l, p, n, m) ≤ 12 := hvn.1
  refine ⟨_, up2 c_sanity, ?_⟩
  simp only [go_sem, Nat.reduceBEq, ↓reduceIte, ↓reduceDIte, Nat.reduceAdd, Nat.reduceSub, Nat.reduceMul, Nat.reduceLeDiff, ← Bool.decide_and, ← Bool.decide_or, ← decide_not, Int.reduceLT, Int.reduceLE, Int.reduceToNat, Int.reduceNeg, by_nil, by10, by32, Int.reduceEq, not_true_eq_false, not_false_eq_true, false_implies, env2_ty, env2_str, env2_cmp, env2_key, env2_fn, env2_hfn, env2_ro, env2_tm]
  refine ⟨fun g1 => ⟨fun g2 => ⟨fun _ => trivial, fun g3 => ?_⟩, fun _ => trivial⟩, fun _ => trivial⟩
  refine ⟨_, _, upH (h_Made3 (k, l, p, n, m) ⟨hx1.1, hx1.2.1.1, hx1.2.2⟩ hq), ?_⟩
  simp only [go_sem, Nat.reduceBEq, ↓reduceIte, ↓reduceDIte, Nat.reduceAdd, Nat.reduceSub, Nat.reduceMul, Nat.reduceLeDiff, ← Bool.decide_and, ← Bool.decide_or, ← decide_not, Int.reduceLT, Int.reduceLE, Int.reduceToNat, Int.reduceNeg, by_nil, by10, by32, Int.reduceEq, not_true_eq_false, not_false_eq_true, false_implies, env2_ty, env2_str, env2_cmp, env2_key, env2_fn, env2_hfn, env2_ro, env2_tm]
  refine fun _ => ⟨_, _, upH (h_Made3 (k, l, p, n, m) ⟨hx1.1, hx1.2.1.1, hx1.2.2⟩ hq), ?_⟩
  simp only [go_sem, Nat.reduceBEq, ↓reduceIte, ↓reduceDIte, Nat.reduceAdd, Nat.reduceSub, Nat.reduceMul, Nat.reduceLeDiff, ← Bool.decide_and, ← Bool.decide_or, ← decide_not, Int.reduceLT, Int.reduceLE, Int.reduceToNat, Int.reduceNeg, by_nil, by10, by32, Int.reduceEq, not_true_eq_false, not_false_eq_true, false_implies, env2_ty, env2_str, env2_cmp, env2_key, env2_fn, env2_hfn, env2_ro, env2_tm]
  intro _
  have hw1 : -128 ≤ w1 ∧ w1 ≤ 127 := hx.2.2.1.1
  have hw2 : -128 ≤ w2 ∧ w2 ≤ 127 := hx.2.2.1.2
  have hwr := u8_wrap w1
  clear hx
  repeat' (first | (with_reducible intro _) | (with_reducible apply And.intro) | (with_reducible refine ⟨_, hcv, ?_⟩; try simp only [go_sem, Nat.reduceBEq, ↓reduceIte, ↓reduceDIte, Nat.reduceAdd, Nat.reduceSub, Nat.reduceMul, Nat.reduceLeDiff, ← Bool.decide_and, ← Bool.decide_or, ← decide_not, Int.reduceLT, Int.reduceLE, Int.reduceToNat, Int.reduceNeg, by_nil, by10, by32, Int.reduceEq, not_true_eq_false, not_false_eq_true, false_implies, env2_ty, env2_str, env2_cmp, env2_key, env2_fn, env2_hfn, env2_ro, env2_tm]) | (with_reducible refine ⟨_, up2 (c_Valid _), ?_⟩; try simp only [go_sem, Nat.reduceBEq, ↓reduceIte, ↓reduceDIte, Nat.reduceAdd, Nat.reduceSub, Nat.reduceMul, Nat.reduceLeDiff, ← Bool.decide_and, ← Bool.decide_or, ← decide_not, Int.reduceLT, Int.reduceLE, Int.reduceToNat, Int.reduceNeg, by_nil, by10, by32, Int.reduceEq, not_true_eq_false, not_false_eq_true, false_implies, env2_ty, env2_str, env2_cmp, env2_key, env2_fn, env2_hfn, env2_ro, env2_tm]) | (with_reducible refine ⟨_, up2 (c_ValidR _), ?_⟩; try simp only [go_sem, Nat.reduceBEq, ↓reduceIte, ↓reduceDIte, Nat.reduceAdd, Nat.reduceSub, Nat.reduceMul, Nat.reduceLeDiff, ← Bool.decide_and, ← Bool.decide_or, ← decide_not, Int.reduceLT, Int.reduceLE, Int.reduceToNat, Int.reduceNeg, by_nil, by10, by32, Int.reduceEq, not_true_eq_false, not_false_eq_true, false_implies, env2_ty, env2_str, env2_cmp, env2_key, env2_fn, env2_hfn, env2_ro, env2_tm]) | fail)
  all_goals first
    | omega
    | (refine ⟨_, up2 (c_Valid _), _, up2 (c_ValidR _), ?_⟩; rw [show ∀ b : Bool, (b == b) = true from fun b => by cases b <;> rfl]; simp only [go_sem, Nat.reduceBEq, ↓reduceIte, ↓reduceDIte, Nat.reduceAdd, Nat.reduceSub, Nat.reduceMul, Nat.reduceLeDiff, ← Bool.decide_and, ← Bool.decide_or, ← decide_not, Int.reduceLT, Int.reduceLE, Int.reduceToNat, Int.reduceNeg, by_nil, by10, by32, Int.reduceEq, not_true_eq_false, not_false_eq_true, false_implies, env2_ty, env2_str, env2_cmp, env2_key, env2_fn, env2_hfn, env2_ro, env2_tm])
    | skip
theorem c_Valid_4 (k : Int) (l : List Int) (p : List (Int × Int)) (n m : Int) (y1 : Int) (y2 : Str) (y3 : List (Int × Int)) (y4 : Str) (y5 y6 : Int) (w1 w2 : Int) (hq : kindE (k, l, p, n, m) = 4) : PC env2 4 [⟨RawT, (k, l, p, n, m)⟩, ⟨EventT, (y1, y2, y3, y4, y5, y6)⟩, ⟨.st (.pair (.int .i8) (.int .i8)), (w1, w2)⟩] .bool true := by
  refine PC.of_PW (m := 2000) env2_ok fn_4 rfl rfl rfl rfl (by kernel_rfl) ?_; intro hx; simp only [Tryd.f4]; simp only [go_sem, Nat.reduceBEq, ↓reduceIte, ↓reduceDIte, Nat.reduceAdd, Nat.reduceSub, Nat.reduceMul, Nat.reduceLeDiff, ← Bool.decide_and, ← Bool.decide_or, ← decide_not, Int.reduceLT, Int.reduceLE, Int.reduceToNat, Int.reduceNeg, by_nil, by10, by32, Int.reduceEq, not_true_eq_false, not_false_eq_true, false_implies, env2_ty, env2_str, env2_cmp, env2_key, env2_fn, env2_hfn, env2_ro, env2_tm]
  have hx1 := raw_ok hx
  have hcv : PC env2 17 [⟨EventT, ((4, [], ptsE (k, l, p, n, m), [], 0, 0) : Ev)⟩] .bool true := by
    have hv : validE (madeE (k, l, p, n, m)) = true := made_v hx1
    have hc : PC env2 17 [⟨EventT, madeE (k, l, p, n, m)⟩] .bool (validE (madeE (k, l, p, n, m))) := up2 (c_Valid _)
    rw [hv] at hc
    have e : madeE (k, l, p, n, m) = (4, [], ptsE (k, l, p, n, m), [], 0, 0) := by simp [madeE, hq]
    rw [e] at hc; exact hc
  have hpl := ptsE_ok (x := (k, l, p, n, m)) hx1.2.1
  have hvn := valid_nums (show validE (madeE (k, l, p, n, m)) = true from made_v hx1)
  have hKb : 1 ≤ kindE (k, l, p, n, m) ∧ kindE (k, l, p, n, m) ≤ 12 := hvn.1
  refine ⟨_, up2 c_sanity, ?_⟩
  simp only [go_sem, Nat.reduceBEq, ↓reduceIte, ↓reduceDIte, Nat.reduceAdd, Nat.reduceSub, Nat.reduceMul, Nat.reduceLeDiff, ← Bool.decide_and, ← Bool.decide_or, ← decide_not, Int.reduceLT, Int.reduceLE, Int.reduceToNat, Int.reduceNeg, by_nil, by10, by32, Int.reduceEq, not_true_eq_false, not_false_eq_true, false_implies, env2_ty, env2_str, env2_cmp, env2_key, env2_fn, env2_hfn, env2_ro, env2_tm]
  refine ⟨fun g1 => ⟨fun g2 => ⟨fun _ => trivial, fun g3 => ?_⟩, fun _ => trivial⟩, fun _ => trivial⟩
  refine ⟨_, _, upH (h_Made4 (k, l, p, n, m) ⟨hx1.1, hx1.2.1.1, hx1.2.2⟩ hq), ?_⟩
  simp only [go_sem, Nat.reduceBEq, ↓reduceIte, ↓reduceDIte, Nat.reduceAdd, Nat.reduceSub, Nat.reduceMul, Nat.reduceLeDiff, ← Bool.decide_and, ← Bool.decide_or, ← decide_not, Int.reduceLT, Int.reduceLE, Int.reduceToNat, Int.reduceNeg, by_nil, by10, by32, Int.reduceEq, not_true_eq_false, not_false_eq_true, false_implies, env2_ty, env2_str, env2_cmp, env2_key, env2_fn, env2_hfn, env2_ro, env2_tm]
  refine fun _ => ⟨_, _, upH (h_Made4 (k, l, p, n, m) ⟨hx1.1, hx1.2.1.1, hx1.2.2⟩ hq), ?_⟩
  simp only [go_sem, Nat.reduceBEq, ↓reduceIte, ↓reduceDIte, Nat.reduceAdd, Nat.reduceSub, Nat.reduceMul, Nat.reduceLeDiff, ← Bool.decide_and, ← Bool.decide_or, ← decide_not, Int.reduceLT, Int.reduceLE, Int.reduceToNat, Int.reduceNeg, by_nil, by10, by32, Int.reduceEq, not_true_eq_false, not_false_eq_true, false_implies, env2_ty, env2_str, env2_cmp, env2_key, env2_fn, env2_hfn, env2_ro, env2_tm]
  intro _
  have hw1 : -128 ≤ w1 ∧ w1 ≤ 127 := hx.2.2.1.1
  have hw2 : -128 ≤ w2 ∧ w2 ≤ 127 := hx.2.2.1.2
  have hwr := u8_wrap w1
  clear hx
  repeat' (first | (with_reducible intro _) | (with_reducible apply And.intro) | (with_reducible refine ⟨_, hcv, ?_⟩; try simp only [go_sem, Nat.reduceBEq, ↓reduceIte, ↓reduceDIte, Nat.reduceAdd, Nat.reduceSub, Nat.reduceMul, Nat.reduceLeDiff, ← Bool.decide_and, ← Bool.decide_or, ← decide_not, Int.reduceLT, Int.reduceLE, Int.reduceToNat, Int.reduceNeg, by_nil, by10, by32, Int.reduceEq, not_true_eq_false, not_false_eq_true, false_implies, env2_ty, env2_str, env2_cmp, env2_key, env2_fn, env2_hfn, env2_ro, env2_tm]) | (with_reducible refine ⟨_, up2 (c_Valid _), ?_⟩; try simp only [go_sem, Nat.reduceBEq, ↓reduceIte, ↓reduceDIte, Nat.reduceAdd, Nat.reduceSub, Nat.reduceMul, Nat.reduceLeDiff, ← Bool.decide_and, ← Bool.decide_or, ← decide_not, Int.reduceLT, Int.reduceLE, Int.reduceToNat, Int.reduceNeg, by_nil, by10, by32, Int.reduceEq, not_true_eq_false, not_false_eq_true, false_implies, env2_ty, env2_str, env2_cmp, env2_key, env2_fn, env2_hfn, env2_ro, env2_tm]) | (with_reducible refine ⟨_, up2 (c_ValidR _), ?_⟩; try simp only [go_sem, Nat.reduceBEq, ↓reduceIte, ↓reduceDIte, Nat.reduceAdd, Nat.reduceSub, Nat.reduceMul, Nat.reduceLeDiff, ← Bool.decide_and, ← Bool.decide_or, ← decide_not, Int.reduceLT, Int.reduceLE, Int.reduceToNat, Int.reduceNeg, by_nil, by10, by32, Int.reduceEq, not_true_eq_false, not_false_eq_true, false_implies, env2_ty, env2_str, env2_cmp, env2_key, env2_fn, env2_hfn, env2_ro, env2_tm]) | fail)
  all_goals first
    | omega
    | (refine ⟨_, up2 (c_Valid _), _, up2 (c_ValidR _), ?_⟩; rw [show ∀ b : Bool, (b == b) = true from fun b => by cases b <;> rfl]; simp only [go_sem, Nat.reduceBEq, ↓reduceIte, ↓reduceDIte, Nat.reduceAdd, Nat.reduceSub, Nat.reduceMul, Nat.reduceLeDiff, ← Bool.decide_and, ← Bool.decide_or, ← decide_not, Int.reduceLT, Int.reduceLE, Int.reduceToNat, Int.reduceNeg, by_nil, by10, by32, Int.reduceEq, not_true_eq_false, not_false_eq_true, false_implies, env2_ty, env2_str, env2_cmp, env2_key, env2_fn, env2_hfn, env2_ro, env2_tm])
    | skip
theorem c_Valid_O (k : Int) (l : List Int) (p : List (Int × Int)) (n m : Int) (y1 : Int) (y2 : Str) (y3 : List (Int × Int)) (y4 : Str) (y5 y6 : Int) (w1 w2 : Int) (hq : ¬ kindE (k, l, p, n, m) = 3 ∧ ¬ kindE (k, l, p, n, m) = 4) : PC env2 4 [⟨RawT, (k, l, p, n, m)⟩, ⟨EventT, (y1, y2, y3, y4, y5, y6)⟩, ⟨.st (.pair (.int .i8) (.int .i8)), (w1, w2)⟩] .bool true := by
  refine PC.of_PW (m := 2000) env2_ok fn_4 rfl rfl rfl rfl (by kernel_rfl) ?_; intro hx; simp only [Tryd.f4]; simp only [go_sem, Nat.reduceBEq, ↓reduceIte, ↓reduceDIte, Nat.reduceAdd, Nat.reduceSub, Nat.reduceMul, Nat.reduceLeDiff, ← Bool.decide_and, ← Bool.decide_or, ← decide_not, Int.reduceLT, Int.reduceLE, Int.reduceToNat, Int.reduceNeg, by_nil, by10, by32, Int.reduceEq, not_true_eq_false, not_false_eq_true, false_implies, env2_ty, env2_str, env2_cmp, env2_key, env2_fn, env2_hfn, env2_ro, env2_tm]
  have hx1 := raw_ok hx
  have hcv : PC env2 17 [⟨EventT, ((kindE (k, l, p, n, m), (madeE (k, l, p, n, m)).2.1, [], (madeE (k, l, p, n, m)).2.2.2.1, (madeE (k, l, p, n, m)).2.2.2.2.1, (madeE (k, l, p, n, m)).2.2.2.2.2) : Ev)⟩] .bool true := by
    have hv : validE (madeE (k, l, p, n, m)) = true := made_v hx1
    have hc : PC env2 17 [⟨EventT, madeE (k, l, p, n, m)⟩] .bool (validE (madeE (k, l, p, n, m))) := up2 (c_Valid _)
    rw [hv] at hc
    have e : madeE (k, l, p, n, m) = (kindE (k, l, p, n, m), (madeE (k, l, p, n, m)).2.1, [], (madeE (k, l, p, n, m)).2.2.2.1, (madeE (k, l, p, n, m)).2.2.2.2.1, (madeE (k, l, p, n, m)).2.2.2.2.2) := by simp [madeE, hq.1, hq.2]
    rw [e] at hc; exact hc
  have hpl := ptsE_ok (x := (k, l, p, n, m)) hx1.2.1
  have hvn := valid_nums (show validE (madeE (k, l, p, n, m)) = true from made_v hx1)
  have hKb : 1 ≤ kindE (k, l, p, n, m) ∧ kindE (k, l, p, n, m) ≤ 12 := hvn.1
  refine ⟨_, up2 c_sanity, ?_⟩
  simp only [go_sem, Nat.reduceBEq, ↓reduceIte, ↓reduceDIte, Nat.reduceAdd, Nat.reduceSub, Nat.reduceMul, Nat.reduceLeDiff, ← Bool.decide_and, ← Bool.decide_or, ← decide_not, Int.reduceLT, Int.reduceLE, Int.reduceToNat, Int.reduceNeg, by_nil, by10, by32, Int.reduceEq, not_true_eq_false, not_false_eq_true, false_implies, env2_ty, env2_str, env2_cmp, env2_key, env2_fn, env2_hfn, env2_ro, env2_tm]
  refine ⟨fun g1 => ⟨fun g2 => ⟨fun _ => trivial, fun g3 => ?_⟩, fun _ => trivial⟩, fun _ => trivial⟩
  refine ⟨_, _, upH (h_MadeO (k, l, p, n, m) ⟨hx1.1, hx1.2.1.1, hx1.2.2⟩ hq), ?_⟩
  simp only [go_sem, Nat.reduceBEq, ↓reduceIte, ↓reduceDIte, Nat.reduceAdd, Nat.reduceSub, Nat.reduceMul, Nat.reduceLeDiff, ← Bool.decide_and, ← Bool.decide_or, ← decide_not, Int.reduceLT, Int.reduceLE, Int.reduceToNat, Int.reduceNeg, by_nil, by10, by32, Int.reduceEq, not_true_eq_false, not_false_eq_true, false_implies, env2_ty, env2_str, env2_cmp, env2_key, env2_fn, env2_hfn, env2_ro, env2_tm]
  refine fun _ => ⟨_, _, upH (h_MadeO (k, l, p, n, m) ⟨hx1.1, hx1.2.1.1, hx1.2.2⟩ hq), ?_⟩
  simp only [go_sem, Nat.reduceBEq, ↓reduceIte, ↓reduceDIte, Nat.reduceAdd, Nat.reduceSub, Nat.reduceMul, Nat.reduceLeDiff, ← Bool.decide_and, ← Bool.decide_or, ← decide_not, Int.reduceLT, Int.reduceLE, Int.reduceToNat, Int.reduceNeg, by_nil, by10, by32, Int.reduceEq, not_true_eq_false, not_false_eq_true, false_implies, env2_ty, env2_str, env2_cmp, env2_key, env2_fn, env2_hfn, env2_ro, env2_tm]
  intro _
  have hw1 : -128 ≤ w1 ∧ w1 ≤ 127 := hx.2.2.1.1
  have hw2 : -128 ≤ w2 ∧ w2 ≤ 127 := hx.2.2.1.2
  have hwr := u8_wrap w1
  clear hx
  repeat' (first | (with_reducible intro _) | (with_reducible apply And.intro) | (with_reducible refine ⟨_, hcv, ?_⟩; try simp only [go_sem, Nat.reduceBEq, ↓reduceIte, ↓reduceDIte, Nat.reduceAdd, Nat.reduceSub, Nat.reduceMul, Nat.reduceLeDiff, ← Bool.decide_and, ← Bool.decide_or, ← decide_not, Int.reduceLT, Int.reduceLE, Int.reduceToNat, Int.reduceNeg, by_nil, by10, by32, Int.reduceEq, not_true_eq_false, not_false_eq_true, false_implies, env2_ty, env2_str, env2_cmp, env2_key, env2_fn, env2_hfn, env2_ro, env2_tm]) | (with_reducible refine ⟨_, up2 (c_Valid _), ?_⟩; try simp only [go_sem, Nat.reduceBEq, ↓reduceIte, ↓reduceDIte, Nat.reduceAdd, Nat.reduceSub, Nat.reduceMul, Nat.reduceLeDiff, ← Bool.decide_and, ← Bool.decide_or, ← decide_not, Int.reduceLT, Int.reduceLE, Int.reduceToNat, Int.reduceNeg, by_nil, by10, by32, Int.reduceEq, not_true_eq_false, not_false_eq_true, false_implies, env2_ty, env2_str, env2_cmp, env2_key, env2_fn, env2_hfn, env2_ro, env2_tm]) | (with_reducible refine ⟨_, up2 (c_ValidR _), ?_⟩; try simp only [go_sem, Nat.reduceBEq, ↓reduceIte, ↓reduceDIte, Nat.reduceAdd, Nat.reduceSub, Nat.reduceMul, Nat.reduceLeDiff, ← Bool.decide_and, ← Bool.decide_or, ← decide_not, Int.reduceLT, Int.reduceLE, Int.reduceToNat, Int.reduceNeg, by_nil, by10, by32, Int.reduceEq, not_true_eq_false, not_false_eq_true, false_implies, env2_ty, env2_str, env2_cmp, env2_key, env2_fn, env2_hfn, env2_ro, env2_tm]) | fail)
  all_goals first
    | omega
    | (refine ⟨_, up2 (c_Valid _), _, up2 (c_ValidR _), ?_⟩; rw [show ∀ b : Bool, (b == b) = true from fun b => by cases b <;> rfl]; simp only [go_sem, Nat.reduceBEq, ↓reduceIte, ↓reduceDIte, Nat.reduceAdd, Nat.reduceSub, Nat.reduceMul, Nat.reduceLeDiff, ← Bool.decide_and, ← Bool.decide_or, ← decide_not, Int.reduceLT, Int.reduceLE, Int.reduceToNat, Int.reduceNeg, by_nil, by10, by32, Int.reduceEq, not_true_eq_false, not_false_eq_true, false_implies, env2_ty, env2_str, env2_cmp, env2_key, env2_fn, env2_hfn, env2_ro, env2_tm])
    | skip
theorem c_ValidLaw (x : Raw) (y : Ev) (w : Int × Int) : PC env 4 [⟨RawT, x⟩, ⟨EventT, y⟩, ⟨.st (.pair (.int .i8) (.int .i8)), w⟩] .bool true := by
  obtain ⟨k, l, p, n, m⟩ := x
  obtain ⟨y1, y2, y3, y4, y5, y6⟩ := y
  obtain ⟨w1, w2⟩ := w
  by_cases h3 : kindE (k, l, p, n, m) = 3
  · exact c_Valid_3 k l p n m y1 y2 y3 y4 y5 y6 w1 w2 h3
  by_cases h4 : kindE (k, l, p, n, m) = 4
  · exact c_Valid_4 k l p n m y1 y2 y3 y4 y5 y6 w1 w2 h4
  · exact c_Valid_O k l p n m y1 y2 y3 y4 y5 y6 w1 w2 ⟨h3, h4⟩
end Go.Proofs.YtopelldocfbhkaaDoor
namespace Go.Proofs.YtopelldocfbhkaaDoor
open Go.ChangeShapes Go.WideShapes Go.ChangeAt Go.RowKit
theorem valid_all (xs : List (Sigma Ty.den)) (h : xs.map (·.1) = [RawT, EventT, .st (.pair (.int .i8) (.int .i8))]) : PC env 4 xs .bool true := by
  match xs, h with
  | [⟨_, y0⟩, ⟨_, y1⟩, ⟨_, y2⟩], h =>
    injection h with h1 h
    injection h with h2 h
    injection h with h3 h
    dsimp only at h1 h2 h3
    subst h1 h2 h3
    exact c_ValidLaw y0 y1 y2
set_option maxRecDepth 100000 in
theorem valid_lifted (os : Os) (started : os.Started) (H : Type) (enc : TypeId × Value → H) :
    ReturnsInHanded {} Tryd.checked os 4 .any (Rows.eventValidRow.pre enc Tryd.prog Tryd.f4 (OpenSpec.ofChange Rows.eventValidSpec)) (Rows.eventValidSpec.post enc Tryd.prog Tryd.f4 false true false false) := by
  rw [pre_laid (c := Rows.eventValidRow) (s := Rows.eventValidSpec) rfl]
  refine lift_laid (C := Tryd.checked) (X := fun w _ => laidMet Tryd.prog laidL w) laid_heap own_none started (by kernel_rfl) fn_4
    (ChangeSpec.witness_at (enc := enc) (C := Tryd.checked) (X := fun w _ => laidMet Tryd.prog laidL w) false (laidWorld os) #[.agg #[.int .u8 0, .slice none 0 0, .slice none 0 0, .int .u8 0, .int .u8 0], .agg #[.int .i64 0, .string ⟨#[]⟩, .slice none 0 0, .string ⟨#[]⟩, .int .i64 0, .int .i64 0], .agg #[.int .i8 0, .int .i8 0]] 8 (by kernel_rfl) (by kernel_rfl) (by kernel_rfl) (by kernel_rfl) (by kernel_rfl) (by kernel_rfl) (laid_met os _)) ?_
  intro W base args ds gs before hval hW hx hsh
  refine law_calls (E := env) (b0 := base) (Ts := [RawT, EventT, .st (.pair (.int .i8) (.int .i8))]) (tb := 4) env_ok laid_out (of_decide_eq_true (by kernel_rfl)) rfl rfl rfl (by kernel_rfl) rfl ?_ valid_all (tabs_of hsh hx) hval hW
  intro ds hds
  match ds, hds with
  | [d0, d1, d2], _ => rfl
theorem valid_holds : Rows.EventValidSaid :=
  OpenClaim.holds_of_wide 4 Tryd.f4 rfl rfl rfl rfl rfl rfl rfl ⟨rfl, rfl, rfl, rfl, rfl⟩ rfl rfl rfl rfl rfl (by kernel_rfl) fn_4 (by kernel_rfl)
    (of_decide_eq_true (by kernel_rfl)) (by unfold Func.isWrapper; first | (rw [if_pos (by decide +kernel)]; kernel_rfl) | (rw [if_neg (by decide +kernel)]; exact ⟨rfl, rfl⟩))
    (fun os started H enc _ => valid_lifted os started H enc)
theorem valid_card : Rows.EventValidCardSaid :=
  Claim7.holds_tied_plain_at .later [] [.data, .data, .data, .data, .pinned] true (true, "5dc4ae48ce4c2a9348dcc132f8ec6b161086df3f9f12457d6c6e77583ebed4cd") false
    valid_holds (fun _ h => by cases h) (by kernel_rfl) (fun _ h => by cases h) eventValid_row_tie rfl ⟨rfl, rfl⟩ (by kernel_rfl) rfl
    (fun f fn hf hfn => by
      obtain rfl : f = 4 := Option.some.inj ((show Tryd.prog.funcNamed "syllabary/syllabarylaw01.EventValid" = some 4 by kernel_rfl).symm.trans hf) |>.symm
      obtain rfl : fn = Tryd.f4 := (Option.some.inj (fn_4.symm.trans hfn)).symm
      exact ⟨by kernel_rfl, fun j t ht => by
        have hall : (Tryd.f4.params.toList.all fun u => !Tryd.prog.wantsStandIn u) = true := by kernel_rfl
        have hm : t ∈ Tryd.f4.params.toList := Array.mem_toList_iff.2 (Array.mem_of_getElem? ht)
        exact (show Tryd.prog.wantsStandIn t = false by simpa using List.all_eq_true.1 hall t hm)⟩)
    (by kernel_rfl)
end Go.Proofs.YtopelldocfbhkaaDoor
