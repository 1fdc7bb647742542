/- The law EventErrors holds for every input. No condition. -/
import Derived.Test.YtopelldocfbhkaaDoorB5
import Derived.Test.YtopelldocfbhkaaDoorCards
import Derived.Test.YtopelldocfbhkaaDoorTie
import Derived.SevenTiedAt
set_option linter.unusedSimpArgs false
set_option linter.unusedVariables false
--SET+ by_nil, by10, by32, Int.reduceEq, not_true_eq_false, not_false_eq_true, false_implies
namespace Go.Proofs.YtopelldocfbhkaaDoor
set_option maxHeartbeats 4000000
set_option maxRecDepth 100000
open Go.Lib
/-- Lines, each with its end. -/
def ends (l : List Str) : Str := l.flatMap fun x => x ++ [10]
theorem ends_app (a b : List Str) : ends (a ++ b) = ends a ++ ends b := List.flatMap_append ..
theorem ends_cons (x : Str) (l : List Str) : ends (x :: l) = x ++ 10 :: ends l := by
  show (x ++ [10]) ++ ends l = _
  rw [List.append_assoc]; rfl
theorem spl_ends (r : Str) : ∀ {l : List Str}, (∀ x, x ∈ l → (10 : UInt8) ∉ x) → spl 10 (ends l ++ r) = l ++ spl 10 r
  | [], _ => rfl
  | x :: l, h => by
    rw [ends_cons, List.append_assoc, List.cons_append, spl_cons 10 _ (h x (by simp)), spl_ends r (fun y hy => h y (by simp [hy]))]; rfl
theorem ends_len {m : Nat} : ∀ {l : List Str}, (∀ x, x ∈ l → x.length ≤ m) → (ends l).length ≤ (m + 1) * l.length
  | [], _ => Nat.zero_le _
  | x :: l, h => by
    have h1 := h x (by simp)
    have h2 := ends_len (l := l) (m := m) fun y hy => h y (by simp [hy])
    rw [ends_cons]
    simp only [List.length_append, List.length_cons, Nat.mul_add, Nat.mul_one]
    omega
/-- Lines that are all right. -/
theorem script_ok (tail : List Str) (ht : tail ≠ []) : ∀ (ls : List Str) (acc : List Ev), (∀ x, x ∈ ls → (parseS x).2 = 0) → scriptL acc (ls ++ tail) = scriptL (acc ++ ls.map fun x => (parseS x).1) tail
  | [], acc, _ => by simp
  | x :: ls, acc, h => by
    rw [List.cons_append, scriptL_cons _ _ _ (by simp [ht]), if_pos (h x (by simp)), script_ok tail ht ls _ (fun y hy => h y (by simp [hy]))]
    simp
theorem script_nil (acc : List Ev) : scriptL acc [[]] = (acc, ((acc.length : Nat) : Int), 0) := rfl
theorem script_bad (acc : List Ev) (x : Str) (r : List Str) (hr : r ≠ []) (h : ¬ (parseS x).2 = 0) : scriptL acc (x :: r) = ([], ((acc.length : Nat) : Int), 3) := by
  rw [scriptL_cons _ _ _ hr, if_neg h]
/-- Where a script goes wrong. -/
theorem script_wrong : ∀ (ls : List Str) (acc : List Ev), ¬ (scriptL acc ls).2.2 = 0 → ∃ l1 x l2, ls = l1 ++ x :: l2 ∧ (∀ y, y ∈ l1 → (parseS y).2 = 0) ∧ scriptL acc ls = ([], ((acc.length + l1.length : Nat) : Int), 3) ∧ (l2 = [] ∨ ¬ (parseS x).2 = 0)
  | [], acc, h => absurd rfl h
  | [x], acc, h => by
    have hx : ¬ x = [] := fun e => by subst e; exact h rfl
    refine ⟨[], x, [], rfl, fun y hy => by simp at hy, ?_, .inl rfl⟩
    show (if x = [] then _ else _) = _
    rw [if_neg hx]; rfl
  | x :: y :: r, acc, h => by
    by_cases hx : (parseS x).2 = 0
    · rw [scriptL_cons _ _ _ (by simp), if_pos hx] at h ⊢
      obtain ⟨l1, z, l2, e, h1, h2, h3⟩ := script_wrong (y :: r) _ h
      refine ⟨x :: l1, z, l2, by rw [e]; rfl, fun w hw => ?_, ?_, h3⟩
      · rcases List.mem_cons.1 hw with rfl | hw
        · exact hx
        · exact h1 w hw
      · rw [h2]
        simp only [List.length_append, List.length_cons, List.length_nil]
        congr 2; omega
    · refine ⟨[], x, y :: r, rfl, fun w hw => by simp at hw, ?_, .inr hx⟩
      rw [script_bad _ _ _ (by simp) hx]; rfl
theorem join_mem (c d : UInt8) : ∀ {l : List Str}, d ∈ joinC c l → d = c ∨ ∃ x, x ∈ l ∧ d ∈ x
  | [], h => by simp [joinC] at h
  | [x], h => .inr ⟨x, by simp, h⟩
  | x :: y :: r, h => by
    simp only [joinC, List.mem_append, List.mem_cons] at h
    rcases h with h | h | h
    · exact .inr ⟨x, by simp, h⟩
    · exact .inl h
    · rcases join_mem c d h with h | ⟨z, hz, h⟩
      · exact .inl h
      · exact .inr ⟨z, by simp only [List.mem_cons] at hz ⊢; exact .inr hz, h⟩
theorem nameK_no10 (k : Int) : (10 : UInt8) ∉ nameK k := by
  by_cases h : 1 ≤ k ∧ k ≤ 12
  · rcases kinds h with rfl | rfl | rfl | rfl | rfl | rfl | rfl | rfl | rfl | rfl | rfl | rfl <;> decide
  · have : nameK k = [] := by
      unfold nameK
      rw [if_neg (by omega), if_neg (by omega), if_neg (by omega), if_neg (by omega), if_neg (by omega), if_neg (by omega), if_neg (by omega), if_neg (by omega), if_neg (by omega), if_neg (by omega), if_neg (by omega), if_neg (by omega)]
    rw [this]; decide
theorem no10_itoa {n : Int} (h : 0 ≤ n) : (10 : UInt8) ∉ itoa n := by
  rw [itoa_dec h]
  exact all_no_c (p := dig) rfl (dig_dec _)
theorem wr_no10 {e : Ev} (h : validE e = true) {x : Str} (hx : x ∈ wr e) : (10 : UInt8) ∉ x := by
  obtain ⟨hk, hc⟩ := valid_cases h
  obtain ⟨k, keys, p, t, n, l⟩ := e
  rcases hc with ⟨hk, h1, h2, h3⟩ | ⟨hk, h1, h2, h3, h4⟩ | ⟨hk, h1, h2, h3, h4, h5⟩ | ⟨hk, h1, h2, h3, h4, h5⟩ | ⟨hk, h1, h2, h3, h4, h5⟩ | ⟨hk, h1⟩ <;> dsimp only at *
  · rw [wr, if_pos hk] at hx
    simp only [List.mem_singleton] at hx
    subst hx
    exact all_no_c (p := low) rfl h1
  · rw [wr, if_neg (by dsimp only; omega), if_pos hk] at hx
    unfold ptsS at hx
    rw [List.mem_flatMap] at hx
    obtain ⟨q, hq, hx⟩ := hx
    have := coo_nn h2 hq
    simp only [List.mem_cons, List.not_mem_nil, or_false] at hx
    rcases hx with rfl | rfl
    · exact no10_itoa this.1.1
    · exact no10_itoa this.2.1
  · subst hk
    have hx : x ∈ [t] := hx
    simp only [List.mem_singleton] at hx
    subst hx
    exact all_no_c (p := low) rfl h3
  · subst hk
    have hx : x ∈ [itoa n, itoa l] := hx
    simp only [List.mem_cons, List.not_mem_nil, or_false] at hx
    rcases hx with rfl | rfl
    · exact no10_itoa h4.1
    · exact no10_itoa (by omega)
  · subst hk
    have hx : x ∈ [itoa n] := hx
    simp only [List.mem_singleton] at hx
    subst hx
    exact no10_itoa h4.1
  · have : wr (k, keys, p, t, n, l) = [] := by rcases hk with rfl | rfl | rfl | rfl | rfl <;> rfl
    rw [this] at hx; cases hx
theorem line_no10 {e : Ev} (h : validE e = true) : (10 : UInt8) ∉ lineS e := fun hm => by
  rcases join_mem 32 10 hm with h1 | ⟨x, hx, h1⟩
  · exact absurd h1 (by decide)
  · rcases List.mem_cons.1 hx with rfl | hx
    · exact nameK_no10 _ h1
    · exact wr_no10 h hx h1
/-- A script of valid events. -/
theorem script_evs (es : List Ev) (h : ∀ e, e ∈ es → validE e = true) : scriptS (ends (es.map lineS)) = (es, ((es.length : Nat) : Int), 0) := by
  have h10 : ∀ x, x ∈ es.map lineS → (10 : UInt8) ∉ x := fun x hx => by
    obtain ⟨e, he, rfl⟩ := List.mem_map.1 hx
    exact line_no10 (h e he)
  have hp : ∀ x, x ∈ es.map lineS → (parseS x).2 = 0 := fun x hx => by
    obtain ⟨e, he, rfl⟩ := List.mem_map.1 hx
    rw [parse_line (h e he)]
  have h1 := spl_ends [] h10
  rw [List.append_nil] at h1
  unfold scriptS
  rw [h1]
  show scriptL [] (es.map lineS ++ [[]]) = _
  rw [script_ok _ (by simp) _ _ hp, script_nil, List.nil_append, List.map_map]
  have : es.map ((fun x => (parseS x).1) ∘ lineS) = es := by
    conv => rhs; rw [← List.map_id es]
    refine List.map_congr_left fun e he => ?_
    show (parseS (lineS e)).1 = _
    rw [parse_line (h e he)]; rfl
  rw [this]
def evsL (l : List Raw) (n : Nat) : List Ev := (l.take n).map madeE
def okRaw (x : Raw) : Prop := 0 ≤ x.1 ∧ (0 ≤ x.2.2.2.1 ∧ x.2.2.2.1 ≤ 255) ∧ 0 ≤ x.2.2.2.2
theorem evsL_ok {l : List Raw} (h : ∀ x, x ∈ l → okRaw x) (n : Nat) : ∀ e, e ∈ evsL l n → validE e = true := fun e he => by
  obtain ⟨x, hx, rfl⟩ := List.mem_map.1 he
  exact made_v (h x (List.mem_of_mem_take hx))
theorem evsL_len (l : List Raw) (n : Nat) : (evsL l n).length ≤ n := by unfold evsL; rw [List.length_map, List.length_take]; omega
theorem scr_len {es : List Ev} (h : ∀ e, e ∈ es → validE e = true) : (ends (es.map lineS)).length ≤ 526 * es.length := by
  have := ends_len (m := 525) (l := es.map lineS) fun x hx => by
    obtain ⟨e, he, rfl⟩ := List.mem_map.1 hx
    exact line_len (h e he)
  rw [List.length_map] at this
  exact this
theorem c_lines (l : List Raw) (n : Nat) (hn : n ≤ 8) (hr : ∀ x, x ∈ l → okRaw x) : PC env 19 [⟨.sl RawT, l⟩, ⟨.int .i64, (n : Int)⟩] (.tup .str (.sl EventT)) (ends ((evsL l n).map lineS), evsL l n) := by
  refine PC.of_PW (m := 2000) env_ok fn_19 rfl rfl rfl rfl (by kernel_rfl) ?_; intro hx; simp only [Tryd.f19]; simp only [go_sem, Nat.reduceBEq, ↓reduceIte, ↓reduceDIte, Nat.reduceAdd, Nat.reduceSub, Nat.reduceMul, Nat.reduceLeDiff, ← Bool.decide_and, ← Bool.decide_or, ← decide_not, Int.reduceLT, Int.reduceLE, Int.reduceToNat, Int.reduceNeg, by_nil, by10, by32, Int.reduceEq, not_true_eq_false, not_false_eq_true, false_implies]
  refine Walks.loopA (X := Nat × Str × List Ev) (fun (z : Nat × Str × List Ev) => [(8, .iv (.int .i64) (z.1 : Int)), (6, .iv .str z.2.1), (7, .lfull 10), (10, .any)]) (fun (z : Nat × Str × List Ev) => [(10, .arr EventT z.2.2)]) (fun (z : Nat × Str × List Ev) => z.1 ≤ l.length ∧ z.1 ≤ n ∧ z.2.1 = ends ((evsL l z.1).map lineS) ∧ z.2.2 = evsL l z.1) (fun (z : Nat × Str × List Ev) => n - z.1) (0, [], []) ?_; intro b1 b2 hb1 hb2; simp (config := {maxSteps := 4000000}) only [go_sem, Nat.reduceBEq, ↓reduceIte, ↓reduceDIte, Nat.reduceAdd, Nat.reduceSub, Nat.reduceMul, Nat.reduceLeDiff, ← Bool.decide_and, ← Bool.decide_or, ← decide_not, Int.reduceLT, Int.reduceLE, Int.reduceToNat, Int.reduceNeg, by_nil, by10, by32, Int.reduceEq, not_true_eq_false, not_false_eq_true, false_implies] at hb1 hb2; subst hb1; subst hb2; refine ⟨(by refine ⟨?_, ?_, rfl, rfl⟩ <;> repeat' (first | exact trivial | (refine And.intro (Or.inl rfl) ?_) | (refine And.intro (Or.inr (Or.inl rfl)) ?_) | (refine And.intro (Or.inr (Or.inr (Or.inr ⟨rfl, rfl⟩))) ?_) | (refine And.intro (Or.inr (Or.inr (Or.inl ⟨rfl, rfl, trivial⟩))) ?_) | exact ⟨(by show (_ : Nat) < 1000000000; omega), rfl, rfl⟩ | rfl | (refine And.intro (Or.inl ?_) ?_) | (refine And.intro ?_ ?_))), ?_, ?_⟩
  · exact ⟨Nat.zero_le _, Nat.zero_le _, rfl, rfl⟩
  intro ⟨i, s, a⟩ ⟨h1, h2, h3, h4⟩ back
  dsimp only at h1 h2 h3 h4
  have hl := scr_len (evsL_ok hr i)
  have hel := evsL_len l i
  have hend : ¬ (i < l.length ∧ i < n) → evsL l i = evsL l n := fun h => by
    unfold evsL
    by_cases e : i = n
    · rw [e]
    · have e1 : l.take i = l := List.take_of_length_le (by omega)
      have e2 : l.take n = l := List.take_of_length_le (by omega)
      rw [e1, e2]
  refine PW_sound env_ok ⟨_, fn_19, rfl⟩ 2000 _ _ (by kernel_rfl) ?_; simp only [go_sem, Nat.reduceBEq, ↓reduceIte, ↓reduceDIte, Nat.reduceAdd, Nat.reduceSub, Nat.reduceMul, Nat.reduceLeDiff, ← Bool.decide_and, ← Bool.decide_or, ← decide_not, Int.reduceLT, Int.reduceLE, Int.reduceToNat, Int.reduceNeg, by_nil, by10, by32, Int.reduceEq, not_true_eq_false, not_false_eq_true, false_implies]
  refine ⟨fun g1 => ⟨fun g2 => ?_, fun g2 => ?_⟩, fun g1 => ?_⟩
  · obtain ⟨x, hx⟩ := get_of_lt (xs := l) (i := i) (by omega)
    have hok := hr x (List.mem_of_getElem? hx)
    have hv := made_v hok
    have hll := line_len hv
    have hc := c_MadeV hok
    have hs1 : evsL l (i + 1) = evsL l i ++ [madeE x] := by unfold evsL; rw [take_snoc hx, List.map_append]; rfl
    have hs2 : ends ((evsL l (i + 1)).map lineS) = ends ((evsL l i).map lineS) ++ (lineS (madeE x) ++ [10]) := by
      rw [hs1, List.map_append, ends_app]
      congr 1
      show (lineS (madeE x) ++ [10]) ++ [] = _
      rw [List.append_nil]
    generalize madeE x = e at hc hv hll hs1 hs2
    obtain ⟨a1, a2, a3, a4, a5, a6⟩ := e
    have hsl : s.length ≤ 5000 := by rw [h3]; omega
    have hal : a.length ≤ 8 := by rw [h4]; omega
    refine ⟨Int.natCast_nonneg _, x, hx, _, hc, fun _ => ⟨_, c_PrintR _ hv, fun _ => ?_⟩⟩
    (repeat' (with_reducible apply And.intro)) <;> try first | omega | (simp only [List.length_append, List.length_cons, List.length_nil]; omega)
    refine back _ (i + 1, s ++ (lineS (a1, a2, a3, a4, a5, a6) ++ [10]), a ++ [(a1, a2, a3, a4, a5, a6)]) ?_ ⟨by dsimp only; omega, by dsimp only; omega, ?_, ?_⟩ (by dsimp only; omega)
    · exact (by refine ⟨?_, ?_, rfl, rfl⟩ <;> repeat' (first | exact trivial | (refine And.intro (Or.inl rfl) ?_) | (refine And.intro (Or.inr (Or.inl rfl)) ?_) | (refine And.intro (Or.inr (Or.inr (Or.inr ⟨rfl, rfl⟩))) ?_) | (refine And.intro (Or.inr (Or.inr (Or.inl ⟨rfl, rfl, trivial⟩))) ?_) | exact ⟨(by show (_ : Nat) < 1000000000; omega), rfl, rfl⟩ | rfl | (refine And.intro (Or.inl ?_) ?_) | (refine And.intro ?_ ?_)))
    · dsimp only
      rw [hs2, h3]
    · dsimp only
      rw [hs1, h4]
  · rw [← hend (by omega), h3, h4]
  · rw [← hend (by omega), h3, h4]
theorem c_Scripts (l m : List Raw) : PC env 7 [⟨.sl RawT, l⟩, ⟨.sl RawT, m⟩] .bool true := by
  refine PC.of_PW (m := 2000) env_ok fn_7 rfl rfl rfl rfl (by kernel_rfl) ?_; intro hx; simp only [Tryd.f7]; simp only [go_sem, Nat.reduceBEq, ↓reduceIte, ↓reduceDIte, Nat.reduceAdd, Nat.reduceSub, Nat.reduceMul, Nat.reduceLeDiff, ← Bool.decide_and, ← Bool.decide_or, ← decide_not, Int.reduceLT, Int.reduceLE, Int.reduceToNat, Int.reduceNeg, by_nil, by10, by32, Int.reduceEq, not_true_eq_false, not_false_eq_true, false_implies]
  have hl : ∀ x, x ∈ l → okRaw x := fun x hx' => by
    obtain ⟨h1, h2, h3, h4, h5⟩ := hx.1.2 x hx'
    exact ⟨(u8_of h1).1, u8_of h4, (u8_of h5).1⟩
  have hm : ∀ x, x ∈ m → okRaw x := fun x hx' => by
    obtain ⟨h1, h2, h3, h4, h5⟩ := hx.2.1.2 x hx'
    exact ⟨(u8_of h1).1, u8_of h4, (u8_of h5).1⟩
  have vl := evsL_ok hl 8
  have vm := evsL_ok hm 8
  have ll := scr_len vl
  have lm := scr_len vm
  have el := evsL_len l 8
  have em := evsL_len m 8
  have hA := script_evs _ vl
  have hB := script_evs (evsL l 8 ++ evsL m 8) (fun e he => by
    rcases List.mem_append.1 he with h | h
    · exact vl e h
    · exact vm e h)
  rw [List.map_append, ends_app] at hB
  refine ⟨_, c_sanity, _, c_lines l 8 (by decide) hl, fun _ => ⟨_, c_lines m 8 (by decide) hm, fun _ => ?_⟩⟩
  dsimp only
  refine ⟨_, c_Script _ (by omega), fun _ => ⟨by omega, _, c_Script _ (by simp only [List.length_append]; omega), fun _ => ⟨by omega, by omega, ?_⟩⟩⟩
  rw [hA, hB]
  simp only [go_sem, Nat.reduceBEq, ↓reduceIte, ↓reduceDIte, Nat.reduceAdd, Nat.reduceSub, Nat.reduceMul, Nat.reduceLeDiff, ← Bool.decide_and, ← Bool.decide_or, ← decide_not, Int.reduceLT, Int.reduceLE, Int.reduceToNat, Int.reduceNeg, by_nil, by10, by32, Int.reduceEq, not_true_eq_false, not_false_eq_true, false_implies]
  refine ⟨_, c_SameAll _ _, ?_⟩
  rw [eqP_t rfl]
  simp only [go_sem, Nat.reduceBEq, ↓reduceIte, ↓reduceDIte, Nat.reduceAdd, Nat.reduceSub, Nat.reduceMul, Nat.reduceLeDiff, ← Bool.decide_and, ← Bool.decide_or, ← decide_not, Int.reduceLT, Int.reduceLE, Int.reduceToNat, Int.reduceNeg, by_nil, by10, by32, Int.reduceEq, not_true_eq_false, not_false_eq_true, false_implies]
  refine ⟨_, c_SameAll _ _, ?_⟩
  rw [eqP_t rfl]
  simp only [go_sem, Nat.reduceBEq, ↓reduceIte, ↓reduceDIte, Nat.reduceAdd, Nat.reduceSub, Nat.reduceMul, Nat.reduceLeDiff, ← Bool.decide_and, ← Bool.decide_or, ← decide_not, Int.reduceLT, Int.reduceLE, Int.reduceToNat, Int.reduceNeg, by_nil, by10, by32, Int.reduceEq, not_true_eq_false, not_false_eq_true, false_implies]
end Go.Proofs.YtopelldocfbhkaaDoor
--SET+ by_nil, by10, by32, Int.reduceEq, not_true_eq_false, not_false_eq_true, false_implies
namespace Go.Proofs.YtopelldocfbhkaaDoor
set_option maxHeartbeats 4000000
set_option maxRecDepth 100000
open Go.Lib
theorem join_ends (x : Str) (l2 : List Str) : ∀ (l1 : List Str), joinC 10 (l1 ++ x :: l2) = ends l1 ++ joinC 10 (x :: l2)
  | [] => rfl
  | y :: l1 => by
    rw [List.cons_append, joinC_cons 10 y (by simp), join_ends x l2 l1, ends_cons, List.append_assoc]; rfl
theorem c_Errors (l : List Raw) (s : Str) (w1 w2 : Int) : PC env 8 [⟨.sl RawT, l⟩, ⟨.str, s⟩, ⟨.st (.pair (.int .u8) (.int .u8)), (w1, w2)⟩] .bool true := by
  refine PC.of_PW (m := 2000) env_ok fn_8 rfl rfl rfl rfl (by kernel_rfl) ?_; intro hx; simp only [Tryd.f8]; simp only [go_sem, Nat.reduceBEq, ↓reduceIte, ↓reduceDIte, Nat.reduceAdd, Nat.reduceSub, Nat.reduceMul, Nat.reduceLeDiff, ← Bool.decide_and, ← Bool.decide_or, ← decide_not, Int.reduceLT, Int.reduceLE, Int.reduceToNat, Int.reduceNeg, by_nil, by10, by32, Int.reduceEq, not_true_eq_false, not_false_eq_true, false_implies]
  have hl : ∀ x, x ∈ l → okRaw x := fun x hx' => by
    obtain ⟨h1, h2, h3, h4, h5⟩ := hx.1.2 x hx'
    exact ⟨(u8_of h1).1, u8_of h4, (u8_of h5).1⟩
  have hw1 := u8_of hx.2.2.1.1
  have hw2 := u8_of hx.2.2.1.2
  have vl := evsL_ok hl 6
  have ll := scr_len vl
  have el := evsL_len l 6
  refine ⟨_, c_sanity, ?_⟩
  simp only [go_sem, Nat.reduceBEq, ↓reduceIte, ↓reduceDIte, Nat.reduceAdd, Nat.reduceSub, Nat.reduceMul, Nat.reduceLeDiff, ← Bool.decide_and, ← Bool.decide_or, ← decide_not, Int.reduceLT, Int.reduceLE, Int.reduceToNat, Int.reduceNeg, by_nil, by10, by32, Int.reduceEq, not_true_eq_false, not_false_eq_true, false_implies]
  refine ⟨fun _ => trivial, fun hs => ⟨_, c_lines l 6 (by decide) hl, fun _ => ?_⟩⟩
  dsimp only
  generalize ends ((evsL l 6).map lineS) = T at ll ⊢
  have hTl : T.length ≤ 3156 := by omega
  obtain ⟨i, hi, hiT⟩ : ∃ i : Nat, Int.tmod w1 (((T.length : Nat) : Int) + 1) = (i : Int) ∧ i ≤ T.length := by
    refine ⟨w1.toNat % (T.length + 1), ?_, by have := Nat.mod_lt w1.toNat (show 0 < T.length + 1 by omega); omega⟩
    have e : w1 = ((w1.toNat : Nat) : Int) := (Int.toNat_of_nonneg hw1.1).symm
    generalize w1.toNat = w at e
    subst e; rfl
  obtain ⟨j, hj, hjT⟩ : ∃ j : Nat, min ((i : Int) + Int.tmod w2 8) ((T.length : Nat) : Int) = (j : Int) ∧ j ≤ T.length := by
    have e : Int.tmod w2 8 = w2 % 8 := Int.tmod_eq_emod_of_nonneg hw2.1
    rw [e]
    have : 0 ≤ w2 % 8 := by omega
    generalize w2 % 8 = q at this
    refine ⟨(min ((i : Int) + q) ((T.length : Nat) : Int)).toNat, by omega, by omega⟩
  have hq8 : 0 ≤ Int.tmod w2 8 ∧ Int.tmod w2 8 ≤ 7 := by
    have e : Int.tmod w2 8 = w2 % 8 := Int.tmod_eq_emod_of_nonneg hw2.1
    omega
  rw [hi, hj, Int.toNat_natCast, Int.toNat_natCast]
  have htx : (T.take i ++ s ++ T.drop j).length ≤ 7000 := by simp only [List.length_append, List.length_take, List.length_drop]; dsimp only [Ty.den] at *; omega
  have h1 : (T.take i ++ s).length ≤ 7000 := by simp only [List.length_append] at htx ⊢; omega
  (repeat' (with_reducible apply And.intro)) <;> try first | (dsimp only [Ty.den] at *; omega) | (simp only [List.length_append] at htx ⊢; dsimp only [Ty.den] at *; omega)
  generalize T.take i ++ s ++ T.drop j = tx at htx ⊢
  refine ⟨_, c_Script tx (by omega), fun _ => ⟨_, c_ScriptR tx (by omega), fun _ => ⟨_, c_SameAll _ _, ?_⟩⟩⟩
  rw [eqP_t rfl]
  simp only [go_sem, Nat.reduceBEq, ↓reduceIte, ↓reduceDIte, Nat.reduceAdd, Nat.reduceSub, Nat.reduceMul, Nat.reduceLeDiff, ← Bool.decide_and, ← Bool.decide_or, ← decide_not, Int.reduceLT, Int.reduceLE, Int.reduceToNat, Int.reduceNeg, by_nil, by10, by32, Int.reduceEq, not_true_eq_false, not_false_eq_true, false_implies]
  have hsp : ∀ x, x ∈ spl 10 tx → (10 : UInt8) ∉ x := fun x hx => spl_mem 10 hx
  have hpl := spl_len 10 tx
  by_cases he : (scriptS tx).2.2 = 0
  · simp only [go_sem, Nat.reduceBEq, ↓reduceIte, ↓reduceDIte, Nat.reduceAdd, Nat.reduceSub, Nat.reduceMul, Nat.reduceLeDiff, ← Bool.decide_and, ← Bool.decide_or, ← decide_not, Int.reduceLT, Int.reduceLE, Int.reduceToNat, Int.reduceNeg, by_nil, by10, by32, Int.reduceEq, not_true_eq_false, not_false_eq_true, false_implies, he]
  · obtain ⟨l1, x, l2, e1, e2, e3, e4⟩ := script_wrong (spl 10 tx) [] he
    have e3 : scriptS tx = ([], ((l1.length : Nat) : Int), 3) := by rw [show scriptS tx = scriptL [] (spl 10 tx) from rfl, e3]; simp
    rw [e3]
    simp only [go_sem, Nat.reduceBEq, ↓reduceIte, ↓reduceDIte, Nat.reduceAdd, Nat.reduceSub, Nat.reduceMul, Nat.reduceLeDiff, ← Bool.decide_and, ← Bool.decide_or, ← decide_not, Int.reduceLT, Int.reduceLE, Int.reduceToNat, Int.reduceNeg, by_nil, by10, by32, Int.reduceEq, not_true_eq_false, not_false_eq_true, false_implies]
    refine ⟨_, c_SplitR tx 10 (by omega), fun _ => ?_⟩
    rw [e1]
    have h10 : ∀ y, y ∈ l1 → (10 : UInt8) ∉ y := fun y hy => hsp y (by rw [e1]; simp [hy])
    have hxl : x.length ≤ 7000 := by
      have : x.length ≤ tx.length := spl_part 10 (by rw [e1]; simp)
      omega
    have hl1 : l1.length ≤ 7001 := by
      have := congrArg List.length e1
      simp only [List.length_append, List.length_cons] at this; omega
    have hend1 : (ends l1).length ≤ 7000 := by
      have := joinC_spl 10 tx
      rw [e1, join_ends] at this
      have := congrArg List.length this
      simp only [List.length_append] at this; omega
    refine Walks.loopA (X := Nat × Str) (fun (z : Nat × Str) => [(21, .iv (.int .i64) (z.1 : Int)), (20, .iv .str z.2)]) (fun (z : Nat × Str) => []) (fun (z : Nat × Str) => z.1 ≤ l1.length ∧ z.2 = ends (l1.take z.1)) (fun (z : Nat × Str) => l1.length - z.1) (0, []) ?_; intro b1 b2 hb1 hb2; simp (config := {maxSteps := 4000000}) only [go_sem, Nat.reduceBEq, ↓reduceIte, ↓reduceDIte, Nat.reduceAdd, Nat.reduceSub, Nat.reduceMul, Nat.reduceLeDiff, ← Bool.decide_and, ← Bool.decide_or, ← decide_not, Int.reduceLT, Int.reduceLE, Int.reduceToNat, Int.reduceNeg, by_nil, by10, by32, Int.reduceEq, not_true_eq_false, not_false_eq_true, false_implies] at hb1 hb2; subst hb1; subst hb2; refine ⟨(by refine ⟨?_, ?_, rfl, rfl⟩ <;> repeat' (first | exact trivial | (refine And.intro (Or.inl rfl) ?_) | (refine And.intro (Or.inr (Or.inl rfl)) ?_) | (refine And.intro (Or.inr (Or.inr (Or.inr ⟨rfl, rfl⟩))) ?_) | (refine And.intro (Or.inr (Or.inr (Or.inl ⟨rfl, rfl, trivial⟩))) ?_) | exact ⟨(by show (_ : Nat) < 1000000000; omega), rfl, rfl⟩ | rfl | (refine And.intro (Or.inl ?_) ?_) | (refine And.intro ?_ ?_))), ?_, ?_⟩
    · exact ⟨Nat.zero_le _, rfl⟩
    intro ⟨r, b⟩ ⟨hr, hb⟩ back
    dsimp only at hr hb
    have hbl : b.length ≤ 7000 := by
      rw [hb]
      have : (ends (l1.take r)).length + (ends (l1.drop r)).length = (ends l1).length := by rw [← List.length_append, ← ends_app, List.take_append_drop]
      omega
    refine PW_sound env_ok ⟨_, fn_8, rfl⟩ 2000 _ _ (by kernel_rfl) ?_; simp only [go_sem, Nat.reduceBEq, ↓reduceIte, ↓reduceDIte, Nat.reduceAdd, Nat.reduceSub, Nat.reduceMul, Nat.reduceLeDiff, ← Bool.decide_and, ← Bool.decide_or, ← decide_not, Int.reduceLT, Int.reduceLE, Int.reduceToNat, Int.reduceNeg, by_nil, by10, by32, Int.reduceEq, not_true_eq_false, not_false_eq_true, false_implies]
    refine ⟨fun g1 => ?_, fun g1 => ?_⟩
    · obtain ⟨y, hy⟩ := get_of_lt (xs := l1) (i := r) (by omega)
      have hyl : y.length ≤ 7000 := by
        have : y.length ≤ tx.length := spl_part 10 (by rw [e1]; exact List.mem_append_left _ (List.mem_of_getElem? hy))
        omega
      refine ⟨Int.natCast_nonneg _, y, by rw [List.getElem?_append_left (by omega)]; exact hy, by omega, by simp only [List.length_append, List.length_cons, List.length_nil]; omega, i64_ok (by omega) (by omega), back _ (r + 1, b ++ (y ++ [10])) ?_ ⟨by dsimp only; omega, ?_⟩ (by dsimp only; omega)⟩
      · exact (by refine ⟨?_, ?_, rfl, rfl⟩ <;> repeat' (first | exact trivial | (refine And.intro (Or.inl rfl) ?_) | (refine And.intro (Or.inr (Or.inl rfl)) ?_) | (refine And.intro (Or.inr (Or.inr (Or.inr ⟨rfl, rfl⟩))) ?_) | (refine And.intro (Or.inr (Or.inr (Or.inl ⟨rfl, rfl, trivial⟩))) ?_) | exact ⟨(by show (_ : Nat) < 1000000000; omega), rfl, rfl⟩ | rfl | (refine And.intro (Or.inl ?_) ?_) | (refine And.intro ?_ ?_)))
      · dsimp only
        rw [take_snoc hy, ends_app, hb]
        congr 1
        show _ = (y ++ [10]) ++ []
        rw [List.append_nil]
    · have hb : b = ends l1 := by rw [hb, List.take_of_length_le (by omega)]
      clear back
      have q1 : scriptS b = (l1.map fun x => (parseS x).1, ((l1.length : Nat) : Int), 0) := by
        have h1 := spl_ends [] h10
        rw [List.append_nil] at h1
        rw [hb]
        unfold scriptS
        rw [h1]
        show scriptL [] (l1 ++ [[]]) = _
        rw [script_ok _ (by simp) _ _ e2, script_nil]
        simp
      have q2 : ¬ (parseS x).2 = 0 → scriptS (b ++ x ++ [10] ++ [101, 114, 97, 115, 101, 10]) = ([], ((l1.length : Nat) : Int), 3) := fun h => by
        have hx10 : (10 : UInt8) ∉ x := hsp x (by rw [e1]; simp)
        have h1 := spl_ends (x ++ 10 :: [101, 114, 97, 115, 101, 10]) h10
        rw [spl_cons 10 _ hx10] at h1
        have e : b ++ x ++ [10] ++ [101, 114, 97, 115, 101, 10] = ends l1 ++ (x ++ 10 :: [101, 114, 97, 115, 101, 10]) := by rw [hb]; simp
        rw [e]
        unfold scriptS
        rw [h1, script_ok _ (by simp) _ _ e2, script_bad _ _ _ (spl_ne 10 _) h]
        simp
      have hat : (l1 ++ x :: l2)[l1.length]? = some x := by simp
      have hlen : (l1 ++ x :: l2).length = l1.length + 1 + l2.length := by simp only [List.length_append, List.length_cons]; omega
      refine ⟨_, c_Script b (by omega), fun _ => ⟨Int.natCast_nonneg _, x, hat, by omega, by simp only [List.length_append, List.length_cons, List.length_nil]; omega, by show (b ++ x ++ [10]).length + 6 ≤ _; simp only [List.length_append, List.length_cons, List.length_nil]; omega, _, c_Script (b ++ x ++ [10] ++ [101, 114, 97, 115, 101, 10]) (by simp only [List.length_append, List.length_cons, List.length_nil]; omega), fun _ => ⟨Int.natCast_nonneg _, x, hat, _, c_Parse x (by omega), fun _ => ?_⟩⟩⟩
      rw [q1]
      have e4' : ¬ (l1.length : Int) = ((l1 ++ x :: l2).length : Nat) - 1 → ¬ (parseS x).2 = 0 := fun h => by
        rcases e4 with e4 | e4
        · exact absurd (by rw [hlen, e4]; simp) h
        · exact e4
      have hl0 : (((l1.map fun x => (parseS x).1).length : Nat) : Int) = (l1.length : Nat) := by rw [List.length_map]
      have hP : ¬ (parseS x).2 = 0 → ((scriptS (b ++ x ++ [10] ++ [101, 114, 97, 115, 101, 10])).2.2 = 3 → (scriptS (b ++ x ++ [10] ++ [101, 114, 97, 115, 101, 10])).2.1 = ((l1.length : Nat) : Int)) ∧ (¬ (scriptS (b ++ x ++ [10] ++ [101, 114, 97, 115, 101, 10])).2.2 = 3 → false = true) := fun h2 => by
        rw [q2 h2]
        exact ⟨fun _ => rfl, fun h => absurd rfl h⟩
      have hlen2 : (l1 ++ x :: l2).length ≤ 7001 := by rw [← e1]; omega
      exact ⟨i64_ok (by omega) (by omega), fun _ => ⟨fun _ => ⟨fun _ => ⟨fun h1 => ⟨fun h2 => ⟨fun _ => hP h2, fun h => absurd h h2⟩, fun h => absurd h (e4' h1)⟩, fun h1 => ⟨fun h2 => hP h2, fun _ => trivial⟩⟩, fun h => absurd hl0 h⟩, fun h => absurd rfl h⟩, fun h => absurd rfl h⟩
end Go.Proofs.YtopelldocfbhkaaDoor
namespace Go.Proofs.YtopelldocfbhkaaDoor
open Go.ChangeShapes Go.WideShapes Go.ChangeAt Go.RowKit
theorem errors_all (xs : List (Sigma Ty.den)) (h : xs.map (·.1) = [.sl RawT, .str, .st (.pair (.int .u8) (.int .u8))]) : PC env 8 xs .bool true := by
  match xs, h with
  | [⟨_, y0⟩, ⟨_, y1⟩, ⟨_, y2⟩], h =>
    injection h with h1 h
    injection h with h2 h
    injection h with h3 h
    dsimp only at h1 h2 h3
    subst h1 h2 h3
    exact c_Errors y0 y1 y2.1 y2.2
set_option maxRecDepth 100000 in
theorem errors_lifted (os : Os) (started : os.Started) (H : Type) (enc : TypeId × Value → H) :
    ReturnsInHanded {} Tryd.checked os 8 .any (Rows.eventErrorsRow.pre enc Tryd.prog Tryd.f8 (OpenSpec.ofChange Rows.eventErrorsSpec)) (Rows.eventErrorsSpec.post enc Tryd.prog Tryd.f8 false true false false) := by
  rw [pre_laid (c := Rows.eventErrorsRow) (s := Rows.eventErrorsSpec) rfl]
  refine lift_laid (C := Tryd.checked) (X := fun w _ => laidMet Tryd.prog laidL w) laid_heap own_none started (by kernel_rfl) fn_8
    (ChangeSpec.witness_at (enc := enc) (C := Tryd.checked) (X := fun w _ => laidMet Tryd.prog laidL w) false (laidWorld os) #[.slice none 0 0, .string ⟨#[]⟩, .agg #[.int .u8 0, .int .u8 0]] 8 (by kernel_rfl) (by kernel_rfl) (by kernel_rfl) (by kernel_rfl) (by kernel_rfl) (by kernel_rfl) (laid_met os _)) ?_
  intro W base args ds gs before hval hW hx hsh
  refine law_calls (E := env) (b0 := base) (Ts := [.sl RawT, .str, .st (.pair (.int .u8) (.int .u8))]) (tb := 4) env_ok laid_out (of_decide_eq_true (by kernel_rfl)) rfl rfl rfl (by kernel_rfl) rfl ?_ errors_all (tabs_of hsh hx) hval hW
  intro ds hds
  match ds, hds with
  | [d0, d1, d2], _ => rfl
theorem errors_holds : Rows.EventErrorsSaid :=
  OpenClaim.holds_of_wide 8 Tryd.f8 rfl rfl rfl rfl rfl rfl rfl ⟨rfl, rfl, rfl, rfl, rfl⟩ rfl rfl rfl rfl rfl (by kernel_rfl) fn_8 (by kernel_rfl)
    (of_decide_eq_true (by kernel_rfl)) (by unfold Func.isWrapper; first | (rw [if_pos (by decide +kernel)]; kernel_rfl) | (rw [if_neg (by decide +kernel)]; exact ⟨rfl, rfl⟩))
    (fun os started H enc _ => errors_lifted os started H enc)
theorem errors_card : Rows.EventErrorsCardSaid :=
  Claim7.holds_tied_plain_at .later [] [.data, .data, .data, .data, .pinned] true (true, "5dc4ae48ce4c2a9348dcc132f8ec6b161086df3f9f12457d6c6e77583ebed4cd") false
    errors_holds (fun _ h => by cases h) (by kernel_rfl) (fun _ h => by cases h) eventErrors_row_tie rfl ⟨rfl, rfl⟩ (by kernel_rfl) rfl
    (fun f fn hf hfn => by
      obtain rfl : f = 8 := Option.some.inj ((show Tryd.prog.funcNamed "syllabary/syllabarylaw01.EventErrors" = some 8 by kernel_rfl).symm.trans hf) |>.symm
      obtain rfl : fn = Tryd.f8 := (Option.some.inj (fn_8.symm.trans hfn)).symm
      exact ⟨by kernel_rfl, fun j t ht => by
        have hall : (Tryd.f8.params.toList.all fun u => !Tryd.prog.wantsStandIn u) = true := by kernel_rfl
        have hm : t ∈ Tryd.f8.params.toList := Array.mem_toList_iff.2 (Array.mem_of_getElem? ht)
        exact (show Tryd.prog.wantsStandIn t = false by simpa using List.all_eq_true.1 hall t hm)⟩)
    (by kernel_rfl)
end Go.Proofs.YtopelldocfbhkaaDoor
