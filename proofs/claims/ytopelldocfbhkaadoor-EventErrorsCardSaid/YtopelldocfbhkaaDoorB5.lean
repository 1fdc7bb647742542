/- Laws of events: inverts, parses. Nothing here is trusted; no condition. -/
import Derived.Test.YtopelldocfbhkaaDoorB4
set_option linter.unusedSimpArgs false
set_option linter.unusedVariables false
--SET+ by_nil, by10, by32, Int.reduceEq, not_true_eq_false, not_false_eq_true, false_implies
namespace Go.Proofs.YtopelldocfbhkaaDoor
set_option maxHeartbeats 4000000
set_option maxRecDepth 100000
open Go.Lib
theorem raw_ok {x : Raw} {r : List (Sigma Ty.den)} (h : oks (⟨RawT, x⟩ :: r)) : 0 ≤ x.1 ∧ (0 ≤ x.2.2.2.1 ∧ x.2.2.2.1 ≤ 255) ∧ 0 ≤ x.2.2.2.2 := by
  obtain ⟨⟨h1, h2, h3, h4, h5⟩, _⟩ := h
  exact ⟨(u8_of h1).1, u8_of h4, (u8_of h5).1⟩
theorem line_inj {a b : Ev} (ha : validE a = true) (hb : validE b = true) (h : lineS a = lineS b) : a = b := by
  have h1 := parse_line ha
  have h2 := parse_line hb
  rw [h] at h1
  rw [h1] at h2
  injection h2
theorem c_PrintV {e : Ev} (h : validE e = true) : PC env 16 [⟨EventT, e⟩] .str (lineS e) := by
  have hn := valid_nums h
  have hl := line_len h
  exact c_Print e hn.1 (by omega) (by omega)
theorem c_MadeV {x : Raw} (h : 0 ≤ x.1 ∧ (0 ≤ x.2.2.2.1 ∧ x.2.2.2.1 ≤ 255) ∧ 0 ≤ x.2.2.2.2) : PC env 12 [⟨RawT, x⟩, ⟨.int .i64, 26⟩] EventT (madeE x) := c_Made x ⟨h.1, h.2.1.1, h.2.2⟩
theorem made_v {x : Raw} (h : 0 ≤ x.1 ∧ (0 ≤ x.2.2.2.1 ∧ x.2.2.2.1 ≤ 255) ∧ 0 ≤ x.2.2.2.2) : validE (madeE x) = true := made_ok h.1 h.2.1 h.2.2
theorem made_ex {k : Int} {l : List Int} {p : List (Int × Int)} {n m : Int} (h : 0 ≤ k ∧ (0 ≤ n ∧ n ≤ 255) ∧ 0 ≤ m) : ∃ a1 a2 a3 a4 a5 a6, PC env 12 [⟨RawT, (k, l, p, n, m)⟩, ⟨.int .i64, 26⟩] EventT (a1, a2, a3, a4, a5, a6) ∧ validE (a1, a2, a3, a4, a5, a6) = true := by
  have hc : PC env 12 [⟨RawT, (k, l, p, n, m)⟩, ⟨.int .i64, 26⟩] EventT (madeE (k, l, p, n, m)) := c_MadeV h
  have hv : validE (madeE (k, l, p, n, m)) = true := made_v h
  generalize madeE (k, l, p, n, m) = e at hc hv
  obtain ⟨a1, a2, a3, a4, a5, a6⟩ := e
  exact ⟨a1, a2, a3, a4, a5, a6, hc, hv⟩
theorem c_Inverts (x y : Raw) : PC env 5 [⟨RawT, x⟩, ⟨RawT, y⟩] .bool true := by
  obtain ⟨k, l, p, n, m⟩ := x
  obtain ⟨k', l', p', n', m'⟩ := y
  refine PC.of_PW (m := 2000) env_ok fn_5 rfl rfl rfl rfl (by kernel_rfl) ?_; intro hx; simp only [Tryd.f5]; simp only [go_sem, Nat.reduceBEq, ↓reduceIte, ↓reduceDIte, Nat.reduceAdd, Nat.reduceSub, Nat.reduceMul, Nat.reduceLeDiff, ← Bool.decide_and, ← Bool.decide_or, ← decide_not, Int.reduceLT, Int.reduceLE, Int.reduceToNat, Int.reduceNeg, by_nil, by10, by32, Int.reduceEq, not_true_eq_false, not_false_eq_true, false_implies]
  obtain ⟨a1, a2, a3, a4, a5, a6, ca, va⟩ := made_ex (l := l) (p := p) (raw_ok hx)
  obtain ⟨b1, b2, b3, b4, b5, b6, cb, vb⟩ := made_ex (l := l') (p := p') (raw_ok hx.2)
  have la := line_len va
  refine ⟨_, c_sanity, _, ca, fun _ => ⟨_, cb, fun _ => ⟨_, c_PrintV va, fun _ => ⟨_, c_Parse (lineS (a1, a2, a3, a4, a5, a6)) (by omega), fun _ => ?_⟩⟩⟩⟩
  rw [parse_line va]
  simp only [go_sem, Nat.reduceBEq, ↓reduceIte, ↓reduceDIte, Nat.reduceAdd, Nat.reduceSub, Nat.reduceMul, Nat.reduceLeDiff, ← Bool.decide_and, ← Bool.decide_or, ← decide_not, Int.reduceLT, Int.reduceLE, Int.reduceToNat, Int.reduceNeg, by_nil, by10, by32, Int.reduceEq, not_true_eq_false, not_false_eq_true, false_implies]
  refine ⟨_, c_Same _ _, ?_⟩
  rw [eqP_t rfl]
  simp only [go_sem, Nat.reduceBEq, ↓reduceIte, ↓reduceDIte, Nat.reduceAdd, Nat.reduceSub, Nat.reduceMul, Nat.reduceLeDiff, ← Bool.decide_and, ← Bool.decide_or, ← decide_not, Int.reduceLT, Int.reduceLE, Int.reduceToNat, Int.reduceNeg, by_nil, by10, by32, Int.reduceEq, not_true_eq_false, not_false_eq_true, false_implies]
  refine ⟨_, c_PrintV vb, fun _ => ⟨_, c_Same _ _, ?_⟩⟩
  by_cases h : ((a1, a2, a3, a4, a5, a6) : Ev) = (b1, b2, b3, b4, b5, b6)
  · rw [eqP_t h, h]; simp
  · have hne : ¬ lineS (b1, b2, b3, b4, b5, b6) = lineS (a1, a2, a3, a4, a5, a6) := fun e => h (line_inj va vb e.symm)
    rw [eqP_f h, decide_eq_false hne]; rfl
theorem c_Parses (x : Raw) (s : Str) (c : Int) : PC env 6 [⟨RawT, x⟩, ⟨.str, s⟩, ⟨.int .u8, c⟩] .bool true := by
  obtain ⟨k, l, p, n, m⟩ := x
  refine PC.of_PW (m := 2000) env_ok fn_6 rfl rfl rfl rfl (by kernel_rfl) ?_; intro hx; simp only [Tryd.f6]; simp only [go_sem, Nat.reduceBEq, ↓reduceIte, ↓reduceDIte, Nat.reduceAdd, Nat.reduceSub, Nat.reduceMul, Nat.reduceLeDiff, ← Bool.decide_and, ← Bool.decide_or, ← decide_not, Int.reduceLT, Int.reduceLE, Int.reduceToNat, Int.reduceNeg, by_nil, by10, by32, Int.reduceEq, not_true_eq_false, not_false_eq_true, false_implies]
  obtain ⟨a1, a2, a3, a4, a5, a6, ca, va⟩ := made_ex (l := l) (p := p) (raw_ok hx)
  have la := line_len va
  refine ⟨_, c_sanity, ?_⟩
  simp only [go_sem, Nat.reduceBEq, ↓reduceIte, ↓reduceDIte, Nat.reduceAdd, Nat.reduceSub, Nat.reduceMul, Nat.reduceLeDiff, ← Bool.decide_and, ← Bool.decide_or, ← decide_not, Int.reduceLT, Int.reduceLE, Int.reduceToNat, Int.reduceNeg, by_nil, by10, by32, Int.reduceEq, not_true_eq_false, not_false_eq_true, false_implies]
  refine ⟨fun h => ?_, fun h => ?_⟩
  · trivial
  · refine ⟨_, ca, fun _ => ⟨_, c_PrintV va, fun _ => ?_⟩⟩
    refine Walks.loopA (X := Nat) (fun (i : Nat) => [(9, .iv (.int .i64) (i : Int))]) (fun (i : Nat) => []) (fun (i : Nat) => i ≤ 2) (fun (i : Nat) => 2 - i) 0 ?_; intro b1 b2 hb1 hb2; simp (config := {maxSteps := 4000000}) only [go_sem, Nat.reduceBEq, ↓reduceIte, ↓reduceDIte, Nat.reduceAdd, Nat.reduceSub, Nat.reduceMul, Nat.reduceLeDiff, ← Bool.decide_and, ← Bool.decide_or, ← decide_not, Int.reduceLT, Int.reduceLE, Int.reduceToNat, Int.reduceNeg, by_nil, by10, by32, Int.reduceEq, not_true_eq_false, not_false_eq_true, false_implies] at hb1 hb2; subst hb1; subst hb2; refine ⟨(by refine ⟨?_, ?_, rfl, rfl⟩ <;> repeat' (first | exact trivial | (refine And.intro (Or.inl rfl) ?_) | (refine And.intro (Or.inr (Or.inl rfl)) ?_) | (refine And.intro (Or.inr (Or.inr (Or.inr ⟨rfl, rfl⟩))) ?_) | (refine And.intro (Or.inr (Or.inr (Or.inl ⟨rfl, rfl, trivial⟩))) ?_) | exact ⟨(by show (_ : Nat) < 1000000000; omega), rfl, rfl⟩ | rfl | (refine And.intro (Or.inl ?_) ?_) | (refine And.intro ?_ ?_))), ?_, ?_⟩
    · exact Nat.zero_le _
    intro i hi back
    refine PW_sound env_ok ⟨_, fn_6, rfl⟩ 2000 _ _ (by kernel_rfl) ?_; simp only [go_sem, Nat.reduceBEq, ↓reduceIte, ↓reduceDIte, Nat.reduceAdd, Nat.reduceSub, Nat.reduceMul, Nat.reduceLeDiff, ← Bool.decide_and, ← Bool.decide_or, ← decide_not, Int.reduceLT, Int.reduceLE, Int.reduceToNat, Int.reduceNeg, by_nil, by10, by32, Int.reduceEq, not_true_eq_false, not_false_eq_true, false_implies]
    refine ⟨fun h1 => ⟨⟨Int.natCast_nonneg _, by omega⟩, ?_⟩, fun h1 => trivial⟩
    obtain ⟨x, hxi⟩ : ∃ x, [s, lineS (a1, a2, a3, a4, a5, a6)][i]? = some x := get_of_lt (by simp only [List.length_cons, List.length_nil]; omega)
    have hxl : x.length ≤ 525 := by
      have := List.mem_of_getElem? hxi
      simp only [List.mem_cons, List.not_mem_nil, or_false] at this
      rcases this with rfl | rfl
      · omega
      · exact la
    refine ⟨x, hxi, _, c_Parse x (by omega), fun _ => ?_⟩
    rcases parse_or x with ⟨⟨e1, e2, e3, e4, e5, e6⟩, he⟩ | he
    · obtain ⟨hv, hle⟩ := parse_yes he
      rw [he]
      simp only [go_sem, Nat.reduceBEq, ↓reduceIte, ↓reduceDIte, Nat.reduceAdd, Nat.reduceSub, Nat.reduceMul, Nat.reduceLeDiff, ← Bool.decide_and, ← Bool.decide_or, ← decide_not, Int.reduceLT, Int.reduceLE, Int.reduceToNat, Int.reduceNeg, by_nil, by10, by32, Int.reduceEq, not_true_eq_false, not_false_eq_true, false_implies]
      refine ⟨_, c_ValidR _, ?_⟩
      rw [hv]
      simp only [go_sem, Nat.reduceBEq, ↓reduceIte, ↓reduceDIte, Nat.reduceAdd, Nat.reduceSub, Nat.reduceMul, Nat.reduceLeDiff, ← Bool.decide_and, ← Bool.decide_or, ← decide_not, Int.reduceLT, Int.reduceLE, Int.reduceToNat, Int.reduceNeg, by_nil, by10, by32, Int.reduceEq, not_true_eq_false, not_false_eq_true, false_implies]
      refine ⟨_, c_PrintV hv, fun _ => ?_⟩
      rw [hle]
      have hcx : ∀ (y : Str) (f1 f2 f3 f4 f5 f6), x ≠ y → parseS y = ((f1, f2, f3, f4, f5, f6), 0) → eqP ((e1, e2, e3, e4, e5, e6) : Ev) (f1, f2, f3, f4, f5, f6) = false := fun y f1 f2 f3 f4 f5 f6 hxy hy => eqP_f fun e => by
        rw [e] at hle
        exact hxy (hle.symm.trans (parse_yes hy).2)
      refine ⟨⟨Int.natCast_nonneg _, by omega⟩, x, hxi, fun h2 => absurd rfl h2, fun _ => ⟨⟨Int.natCast_nonneg _, by omega⟩, x, hxi, by omega, _, c_Parse (x ++ [UInt8.ofNat c.toNat]) (by simp only [List.length_append, List.length_cons, List.length_nil]; omega), fun _ => ⟨⟨Int.natCast_nonneg _, by omega⟩, x, hxi, by omega, _, c_Parse (UInt8.ofNat c.toNat :: x) (by simp only [List.length_cons]; omega), fun _ => ?_⟩⟩⟩
      have hn1 : x ≠ x ++ [UInt8.ofNat c.toNat] := fun e => by have := congrArg List.length e; simp at this
      have hn2 : x ≠ UInt8.ofNat c.toNat :: x := fun e => by have := congrArg List.length e; simp at this
      rcases parse_or (x ++ [UInt8.ofNat c.toNat]) with ⟨⟨f1, f2, f3, f4, f5, f6⟩, hf⟩ | hf <;> rcases parse_or (UInt8.ofNat c.toNat :: x) with ⟨⟨g1, g2, g3, g4, g5, g6⟩, hg⟩ | hg
      · rw [hf, hg]
        simp only [go_sem, Nat.reduceBEq, ↓reduceIte, ↓reduceDIte, Nat.reduceAdd, Nat.reduceSub, Nat.reduceMul, Nat.reduceLeDiff, ← Bool.decide_and, ← Bool.decide_or, ← decide_not, Int.reduceLT, Int.reduceLE, Int.reduceToNat, Int.reduceNeg, by_nil, by10, by32, Int.reduceEq, not_true_eq_false, not_false_eq_true, false_implies]
        refine ⟨_, c_Same _ _, ?_⟩
        rw [hcx _ _ _ _ _ _ _ hn1 hf]
        simp only [go_sem, Nat.reduceBEq, ↓reduceIte, ↓reduceDIte, Nat.reduceAdd, Nat.reduceSub, Nat.reduceMul, Nat.reduceLeDiff, ← Bool.decide_and, ← Bool.decide_or, ← decide_not, Int.reduceLT, Int.reduceLE, Int.reduceToNat, Int.reduceNeg, by_nil, by10, by32, Int.reduceEq, not_true_eq_false, not_false_eq_true, false_implies]
        refine ⟨_, c_Same _ _, ?_⟩
        rw [hcx _ _ _ _ _ _ _ hn2 hg]
        simp only [go_sem, Nat.reduceBEq, ↓reduceIte, ↓reduceDIte, Nat.reduceAdd, Nat.reduceSub, Nat.reduceMul, Nat.reduceLeDiff, ← Bool.decide_and, ← Bool.decide_or, ← decide_not, Int.reduceLT, Int.reduceLE, Int.reduceToNat, Int.reduceNeg, by_nil, by10, by32, Int.reduceEq, not_true_eq_false, not_false_eq_true, false_implies]
        exact ⟨i64_ok (by omega) (by omega), back _ (i + 1) (by refine ⟨?_, ?_, rfl, rfl⟩ <;> repeat' (first | exact trivial | (refine And.intro (Or.inl rfl) ?_) | (refine And.intro (Or.inr (Or.inl rfl)) ?_) | (refine And.intro (Or.inr (Or.inr (Or.inr ⟨rfl, rfl⟩))) ?_) | (refine And.intro (Or.inr (Or.inr (Or.inl ⟨rfl, rfl, trivial⟩))) ?_) | exact ⟨(by show (_ : Nat) < 1000000000; omega), rfl, rfl⟩ | rfl | (refine And.intro (Or.inl ?_) ?_) | (refine And.intro ?_ ?_))) (by omega) (by omega)⟩
      · rw [hf, hg]
        simp only [go_sem, Nat.reduceBEq, ↓reduceIte, ↓reduceDIte, Nat.reduceAdd, Nat.reduceSub, Nat.reduceMul, Nat.reduceLeDiff, ← Bool.decide_and, ← Bool.decide_or, ← decide_not, Int.reduceLT, Int.reduceLE, Int.reduceToNat, Int.reduceNeg, by_nil, by10, by32, Int.reduceEq, not_true_eq_false, not_false_eq_true, false_implies]
        refine ⟨_, c_Same _ _, ?_⟩
        rw [hcx _ _ _ _ _ _ _ hn1 hf]
        simp only [go_sem, Nat.reduceBEq, ↓reduceIte, ↓reduceDIte, Nat.reduceAdd, Nat.reduceSub, Nat.reduceMul, Nat.reduceLeDiff, ← Bool.decide_and, ← Bool.decide_or, ← decide_not, Int.reduceLT, Int.reduceLE, Int.reduceToNat, Int.reduceNeg, by_nil, by10, by32, Int.reduceEq, not_true_eq_false, not_false_eq_true, false_implies]
        exact ⟨i64_ok (by omega) (by omega), back _ (i + 1) (by refine ⟨?_, ?_, rfl, rfl⟩ <;> repeat' (first | exact trivial | (refine And.intro (Or.inl rfl) ?_) | (refine And.intro (Or.inr (Or.inl rfl)) ?_) | (refine And.intro (Or.inr (Or.inr (Or.inr ⟨rfl, rfl⟩))) ?_) | (refine And.intro (Or.inr (Or.inr (Or.inl ⟨rfl, rfl, trivial⟩))) ?_) | exact ⟨(by show (_ : Nat) < 1000000000; omega), rfl, rfl⟩ | rfl | (refine And.intro (Or.inl ?_) ?_) | (refine And.intro ?_ ?_))) (by omega) (by omega)⟩
      · rw [hf, hg]
        simp only [go_sem, Nat.reduceBEq, ↓reduceIte, ↓reduceDIte, Nat.reduceAdd, Nat.reduceSub, Nat.reduceMul, Nat.reduceLeDiff, ← Bool.decide_and, ← Bool.decide_or, ← decide_not, Int.reduceLT, Int.reduceLE, Int.reduceToNat, Int.reduceNeg, by_nil, by10, by32, Int.reduceEq, not_true_eq_false, not_false_eq_true, false_implies]
        refine ⟨_, c_Same _ _, ?_⟩
        rw [hcx _ _ _ _ _ _ _ hn2 hg]
        simp only [go_sem, Nat.reduceBEq, ↓reduceIte, ↓reduceDIte, Nat.reduceAdd, Nat.reduceSub, Nat.reduceMul, Nat.reduceLeDiff, ← Bool.decide_and, ← Bool.decide_or, ← decide_not, Int.reduceLT, Int.reduceLE, Int.reduceToNat, Int.reduceNeg, by_nil, by10, by32, Int.reduceEq, not_true_eq_false, not_false_eq_true, false_implies]
        exact ⟨i64_ok (by omega) (by omega), back _ (i + 1) (by refine ⟨?_, ?_, rfl, rfl⟩ <;> repeat' (first | exact trivial | (refine And.intro (Or.inl rfl) ?_) | (refine And.intro (Or.inr (Or.inl rfl)) ?_) | (refine And.intro (Or.inr (Or.inr (Or.inr ⟨rfl, rfl⟩))) ?_) | (refine And.intro (Or.inr (Or.inr (Or.inl ⟨rfl, rfl, trivial⟩))) ?_) | exact ⟨(by show (_ : Nat) < 1000000000; omega), rfl, rfl⟩ | rfl | (refine And.intro (Or.inl ?_) ?_) | (refine And.intro ?_ ?_))) (by omega) (by omega)⟩
      · rw [hf, hg]
        simp only [go_sem, Nat.reduceBEq, ↓reduceIte, ↓reduceDIte, Nat.reduceAdd, Nat.reduceSub, Nat.reduceMul, Nat.reduceLeDiff, ← Bool.decide_and, ← Bool.decide_or, ← decide_not, Int.reduceLT, Int.reduceLE, Int.reduceToNat, Int.reduceNeg, by_nil, by10, by32, Int.reduceEq, not_true_eq_false, not_false_eq_true, false_implies]
        exact ⟨i64_ok (by omega) (by omega), back _ (i + 1) (by refine ⟨?_, ?_, rfl, rfl⟩ <;> repeat' (first | exact trivial | (refine And.intro (Or.inl rfl) ?_) | (refine And.intro (Or.inr (Or.inl rfl)) ?_) | (refine And.intro (Or.inr (Or.inr (Or.inr ⟨rfl, rfl⟩))) ?_) | (refine And.intro (Or.inr (Or.inr (Or.inl ⟨rfl, rfl, trivial⟩))) ?_) | exact ⟨(by show (_ : Nat) < 1000000000; omega), rfl, rfl⟩ | rfl | (refine And.intro (Or.inl ?_) ?_) | (refine And.intro ?_ ?_))) (by omega) (by omega)⟩
    · rw [he]
      unfold ev0
      simp only [go_sem, Nat.reduceBEq, ↓reduceIte, ↓reduceDIte, Nat.reduceAdd, Nat.reduceSub, Nat.reduceMul, Nat.reduceLeDiff, ← Bool.decide_and, ← Bool.decide_or, ← decide_not, Int.reduceLT, Int.reduceLE, Int.reduceToNat, Int.reduceNeg, by_nil, by10, by32, Int.reduceEq, not_true_eq_false, not_false_eq_true, false_implies]
      refine ⟨_, c_Same _ _, ?_⟩
      rw [eqP_t rfl]
      simp only [go_sem, Nat.reduceBEq, ↓reduceIte, ↓reduceDIte, Nat.reduceAdd, Nat.reduceSub, Nat.reduceMul, Nat.reduceLeDiff, ← Bool.decide_and, ← Bool.decide_or, ← decide_not, Int.reduceLT, Int.reduceLE, Int.reduceToNat, Int.reduceNeg, by_nil, by10, by32, Int.reduceEq, not_true_eq_false, not_false_eq_true, false_implies]
      exact ⟨i64_ok (by omega) (by omega), back _ (i + 1) (by refine ⟨?_, ?_, rfl, rfl⟩ <;> repeat' (first | exact trivial | (refine And.intro (Or.inl rfl) ?_) | (refine And.intro (Or.inr (Or.inl rfl)) ?_) | (refine And.intro (Or.inr (Or.inr (Or.inr ⟨rfl, rfl⟩))) ?_) | (refine And.intro (Or.inr (Or.inr (Or.inl ⟨rfl, rfl, trivial⟩))) ?_) | exact ⟨(by show (_ : Nat) < 1000000000; omega), rfl, rfl⟩ | rfl | (refine And.intro (Or.inl ?_) ?_) | (refine And.intro ?_ ?_))) (by omega) (by omega)⟩
theorem c_Matches (x : Raw) (s : Str) (w1 w2 : Int) : PC env 3 [⟨RawT, x⟩, ⟨.str, s⟩, ⟨.st (.pair (.int .u8) (.int .u8)), (w1, w2)⟩] .bool true := by
  obtain ⟨k, l, p, n, m⟩ := x
  refine PC.of_PW (m := 2000) env_ok fn_3 rfl rfl rfl rfl (by kernel_rfl) ?_; intro hx; simp only [Tryd.f3]; simp only [go_sem, Nat.reduceBEq, ↓reduceIte, ↓reduceDIte, Nat.reduceAdd, Nat.reduceSub, Nat.reduceMul, Nat.reduceLeDiff, ← Bool.decide_and, ← Bool.decide_or, ← decide_not, Int.reduceLT, Int.reduceLE, Int.reduceToNat, Int.reduceNeg, by_nil, by10, by32, Int.reduceEq, not_true_eq_false, not_false_eq_true, false_implies]
  obtain ⟨a1, a2, a3, a4, a5, a6, ca, va⟩ := made_ex (l := l) (p := p) (raw_ok hx)
  have la := line_len va
  have hw1 := u8_of hx.2.2.1.1
  refine ⟨_, c_sanity, ?_⟩
  simp only [go_sem, Nat.reduceBEq, ↓reduceIte, ↓reduceDIte, Nat.reduceAdd, Nat.reduceSub, Nat.reduceMul, Nat.reduceLeDiff, ← Bool.decide_and, ← Bool.decide_or, ← decide_not, Int.reduceLT, Int.reduceLE, Int.reduceToNat, Int.reduceNeg, by_nil, by10, by32, Int.reduceEq, not_true_eq_false, not_false_eq_true, false_implies]
  refine ⟨fun _ => trivial, fun h => ⟨_, ca, fun _ => ⟨_, c_PrintR _ va, fun _ => ?_⟩⟩⟩
  generalize hT : lineS (a1, a2, a3, a4, a5, a6) = T at la ⊢
  have hT0 : T ≠ [] := fun e => by
    have := spl_line va
    rw [hT, e] at this
    have h2 : nameK a1 = [] := by injection this with this _; exact this.symm
    have h3 := (valid_cases va).1
    dsimp only at h3
    rcases kinds h3 with h | h | h | h | h | h | h | h | h | h | h | h <;> rw [h] at h2 <;> cases h2
  have hTl : 0 < T.length := by cases T with | nil => exact absurd rfl hT0 | cons => simp
  obtain ⟨i, hm, hlt⟩ : ∃ i : Nat, Int.tmod w1 (T.length : Nat) = (i : Int) ∧ i < T.length := by
    refine ⟨w1.toNat % T.length, ?_, Nat.mod_lt _ hTl⟩
    have e : w1 = ((w1.toNat : Nat) : Int) := (Int.toNat_of_nonneg hw1.1).symm
    generalize w1.toNat = w at e
    subst e; rfl
  rw [hm]
  have e1 : ((i : Nat) : Int).toNat = i := Int.toNat_natCast i
  have e2 : (((i : Nat) : Int) + 1).toNat = i + 1 := by omega
  rw [e1, e2]
  dsimp only [Ty.den]
  refine ⟨by omega, ⟨by omega, by omega⟩, by rw [List.length_take]; omega, i64_ok (by omega) (by omega), ⟨by omega, by omega⟩, by simp only [List.length_append, List.length_take, List.length_drop, List.length_cons, List.length_nil]; omega, ⟨by omega, by omega⟩, by omega, ?_⟩
  have hU : UInt8.ofNat w2.toNat ∉ ([] : Str) := by simp
  have hall : ∀ x, x ∈ [T, T.take i ++ [UInt8.ofNat w2.toNat] ++ T.drop (i + 1), T.take i, s, T ++ s] → x.length < 1000000 := fun x hx => by
    simp only [List.mem_cons, List.not_mem_nil, or_false] at hx
    rcases hx with rfl | rfl | rfl | rfl | rfl <;> (try simp only [List.length_append, List.length_take, List.length_drop, List.length_cons, List.length_nil]) <;> omega
  refine Walks.loopA (X := Nat) (fun (j : Nat) => [(11, .iv (.int .i64) (j : Int))]) (fun (j : Nat) => []) (fun (j : Nat) => j ≤ 5) (fun (j : Nat) => 5 - j) 0 ?_; intro b1 b2 hb1 hb2; simp (config := {maxSteps := 4000000}) only [go_sem, Nat.reduceBEq, ↓reduceIte, ↓reduceDIte, Nat.reduceAdd, Nat.reduceSub, Nat.reduceMul, Nat.reduceLeDiff, ← Bool.decide_and, ← Bool.decide_or, ← decide_not, Int.reduceLT, Int.reduceLE, Int.reduceToNat, Int.reduceNeg, by_nil, by10, by32, Int.reduceEq, not_true_eq_false, not_false_eq_true, false_implies] at hb1 hb2; subst hb1; subst hb2; refine ⟨(by refine ⟨?_, ?_, rfl, rfl⟩ <;> repeat' (first | exact trivial | (refine And.intro (Or.inl rfl) ?_) | (refine And.intro (Or.inr (Or.inl rfl)) ?_) | (refine And.intro (Or.inr (Or.inr (Or.inr ⟨rfl, rfl⟩))) ?_) | (refine And.intro (Or.inr (Or.inr (Or.inl ⟨rfl, rfl, trivial⟩))) ?_) | exact ⟨(by show (_ : Nat) < 1000000000; omega), rfl, rfl⟩ | rfl | (refine And.intro (Or.inl ?_) ?_) | (refine And.intro ?_ ?_))), ?_, ?_⟩
  · exact Nat.zero_le _
  intro j hj back
  refine PW_sound env_ok ⟨_, fn_3, rfl⟩ 2000 _ _ (by kernel_rfl) ?_; simp only [go_sem, Nat.reduceBEq, ↓reduceIte, ↓reduceDIte, Nat.reduceAdd, Nat.reduceSub, Nat.reduceMul, Nat.reduceLeDiff, ← Bool.decide_and, ← Bool.decide_or, ← decide_not, Int.reduceLT, Int.reduceLE, Int.reduceToNat, Int.reduceNeg, by_nil, by10, by32, Int.reduceEq, not_true_eq_false, not_false_eq_true, false_implies]
  refine ⟨fun h1 => ⟨⟨Int.natCast_nonneg _, by omega⟩, ?_⟩, fun h1 => ?_⟩
  · obtain ⟨x, hxi⟩ : ∃ x, [T, T.take i ++ [UInt8.ofNat w2.toNat] ++ T.drop (i + 1), T.take i, s, T ++ s][j]? = some x := get_of_lt (by simp only [List.length_cons, List.length_nil]; omega)
    have hxl := hall x (List.mem_of_getElem? hxi)
    refine ⟨x, hxi, _, c_Parse x (by omega), fun _ => ⟨⟨Int.natCast_nonneg _, by omega⟩, x, hxi, _, c_ParseR x hxl, fun _ => ⟨_, c_Same _ _, ?_⟩⟩⟩
    rw [eqP_t rfl]
    simp only [go_sem, Nat.reduceBEq, ↓reduceIte, ↓reduceDIte, Nat.reduceAdd, Nat.reduceSub, Nat.reduceMul, Nat.reduceLeDiff, ← Bool.decide_and, ← Bool.decide_or, ← decide_not, Int.reduceLT, Int.reduceLE, Int.reduceToNat, Int.reduceNeg, by_nil, by10, by32, Int.reduceEq, not_true_eq_false, not_false_eq_true, false_implies]
    exact ⟨i64_ok (by omega) (by omega), back _ (j + 1) (by refine ⟨?_, ?_, rfl, rfl⟩ <;> repeat' (first | exact trivial | (refine And.intro (Or.inl rfl) ?_) | (refine And.intro (Or.inr (Or.inl rfl)) ?_) | (refine And.intro (Or.inr (Or.inr (Or.inr ⟨rfl, rfl⟩))) ?_) | (refine And.intro (Or.inr (Or.inr (Or.inl ⟨rfl, rfl, trivial⟩))) ?_) | exact ⟨(by show (_ : Nat) < 1000000000; omega), rfl, rfl⟩ | rfl | (refine And.intro (Or.inl ?_) ?_) | (refine And.intro ?_ ?_))) (by omega) (by omega)⟩
  · refine ⟨_, ca, fun _ => ⟨_, c_PrintV va, fun _ => hT⟩⟩
end Go.Proofs.YtopelldocfbhkaaDoor
