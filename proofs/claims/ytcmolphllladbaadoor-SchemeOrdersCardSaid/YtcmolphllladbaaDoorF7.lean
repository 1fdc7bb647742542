/- The law SchemeOrders holds for every input. No condition. -/
import Derived.Test.YtcmolphllladbaaDoorB6
import Derived.Test.YtcmolphllladbaaDoorCards
import Derived.Test.YtcmolphllladbaaDoorTie
import Derived.SevenTiedAt
set_option linter.unusedSimpArgs false
set_option linter.unusedVariables false
--SET+ by32, by10, litP, appendC, Int.reduceEq, not_true_eq_false, not_false_eq_true, false_implies, St.ren, permF
namespace Go.Proofs.YtcmolphllladbaaDoor
open Go.Lib
set_option maxHeartbeats 4000000
set_option maxRecDepth 100000
/-- The list, turned. -/
def turnL (k : Int) (l : List Rl) : List Rl := (List.range l.length).map fun (i : Nat) => (l[(Int.tmod ((i : Int) + k) (l.length : Int)).toNat]?).getD (0, 0, [], [], 0)
theorem turn_len (k : Int) (l : List Rl) : (turnL k l).length = l.length := by simp [turnL]
theorem turn_get {k : Int} {l : List Rl} {i : Nat} (hk : 0 ≤ k) (hi : i < l.length) : ∃ j, j < l.length ∧ (j : Int) = Int.tmod ((i : Int) + k) (l.length : Int) ∧ (turnL k l)[i]? = l[j]? := by
  have h0 : 0 ≤ (i : Int) + k := by omega
  have e : Int.tmod ((i : Int) + k) (l.length : Int) = ((i : Int) + k) % (l.length : Int) := Int.tmod_eq_emod_of_nonneg h0
  have h1 := Int.emod_nonneg ((i : Int) + k) (b := (l.length : Int)) (by omega)
  have h2 := Int.emod_lt_of_pos ((i : Int) + k) (b := (l.length : Int)) (by omega)
  obtain ⟨j, hj⟩ := Int.eq_ofNat_of_zero_le h1
  refine ⟨j, by omega, by rw [e, hj], ?_⟩
  obtain ⟨r, hr⟩ : ∃ r, l[j]? = some r := get_of_lt (by omega)
  unfold turnL
  rw [List.getElem?_map, List.getElem?_range hi, Option.map_some, e, hj]
  simp only [Int.toNat_natCast, Int.ofNat_eq_natCast, hr, Option.getD_some]
theorem turn_rot {k : Int} {l : List Rl} (hk : 0 ≤ k) (hl : 0 < l.length) : turnL k l = l.drop (k % (l.length : Int)).toNat ++ l.take (k % (l.length : Int)).toNat := by
  have h1 := Int.emod_nonneg k (b := (l.length : Int)) (by omega)
  have h2 := Int.emod_lt_of_pos k (b := (l.length : Int)) (by omega)
  apply List.ext_getElem?
  intro i
  by_cases hi : i < l.length
  · obtain ⟨j, hj, hje, hg⟩ := turn_get hk hi
    rw [hg]
    have e : Int.tmod ((i : Int) + k) (l.length : Int) = ((i : Int) + k) % (l.length : Int) := Int.tmod_eq_emod_of_nonneg (by omega)
    have e2 : ((i : Int) + k) % (l.length : Int) = ((i : Int) + k % (l.length : Int)) % (l.length : Int) := by rw [Int.add_emod, Int.add_emod (i : Int) (k % _), Int.emod_emod]
    rw [e, e2] at hje
    generalize hm : k % (l.length : Int) = m at h1 h2 hje ⊢
    obtain ⟨q, rfl⟩ := Int.eq_ofNat_of_zero_le h1
    simp only [Int.ofNat_eq_natCast, Int.toNat_natCast]
    by_cases hiq : i + q < l.length
    · rw [Int.emod_eq_of_lt (by omega) (by omega)] at hje
      rw [List.getElem?_append_left (by rw [List.length_drop]; omega), List.getElem?_drop]
      congr 1; omega
    · have : ((i : Int) + q) % (l.length : Int) = (i : Int) + q - l.length := by
        rw [← Int.sub_emod_right, Int.emod_eq_of_lt (by omega) (by omega)]
      rw [this] at hje
      rw [List.getElem?_append_right (by rw [List.length_drop]; omega), List.length_drop, List.getElem?_take_of_lt (by omega)]
      congr 1; omega
  · rw [List.getElem?_eq_none (by rw [turn_len]; omega), List.getElem?_eq_none (by rw [List.length_append, List.length_drop, List.length_take]; omega)]
theorem turn_perm {k : Int} {l : List Rl} (hk : 0 ≤ k) (hl : 0 < l.length) : (turnL k l).Perm l := by
  rw [turn_rot hk hl]
  exact (List.perm_append_comm).trans (by rw [List.take_append_drop])
theorem ok_perm {n a : Int} {l m : List Rl} (h : OkS (n, a, l)) (hp : m.Perm l) : OkS (n, a, m) :=
  ⟨h.n1, h.n8, h.a1, h.a2, by have := h.len; have e := hp.length_eq; dsimp only at this ⊢; omega, fun r hr => h.right r (hp.mem_iff.1 hr), hp.nodup_iff.2 h.nodup⟩
theorem valid_iff (s : Sch) : (checkE s).2 = 0 ↔ OkS s := ⟨check_ok, fun h => by rw [ok_check h]⟩
theorem valid_perm {n a : Int} {l m : List Rl} (hp : m.Perm l) : decide ((checkE (n, a, m)).2 = 0) = decide ((checkE (n, a, l)).2 = 0) :=
  decide_eq_decide.2 ⟨fun h => (valid_iff _).2 (ok_perm ((valid_iff _).1 h) hp.symm), fun h => (valid_iff _).2 (ok_perm ((valid_iff _).1 h) hp)⟩
theorem c_Orders (x : RawS) (r : Rl) (k : Int) : PC env 8 [⟨RawT, x⟩, ⟨RuleT, r⟩, ⟨.int .u8, k⟩] .bool true := by
  have hs := (made2_ok x)
  have k1 := c_Made2 x
  generalize made2E x = t at hs k1
  refine PC.of_PW (m := 2000) env_ok fn_8 rfl rfl rfl rfl (by kernel_rfl) ?_; intro hx; simp only [Tryd.f8]; simp only [go_sem, Nat.reduceBEq, ↓reduceIte, ↓reduceDIte, Nat.reduceAdd, Nat.reduceSub, Nat.reduceMul, Nat.reduceLeDiff, ← Bool.decide_and, ← Bool.decide_or, ← decide_not, Int.reduceLT, Int.reduceLE, Int.reduceToNat, Int.reduceNeg, by32, by10, litP, appendC, Int.reduceEq, not_true_eq_false, not_false_eq_true, false_implies, St.ren, permF]
  obtain ⟨hs, hn2, hl2, hl9⟩ := hs
  have hk := u8_of hx.2.2.1
  dsimp only at hk
  have hne : t.2.2 ≠ [] := fun e => by rw [e] at hl2; simp at hl2
  obtain ⟨l, hl⟩ : ∃ l, l = t.2.2 ++ [r] := ⟨_, rfl⟩
  have hlen : l.length = t.2.2.length + 1 := by rw [hl]; simp
  apply Walks.shareX (X := Unit) (fun _ => ⟨[(11, .iv (.int .i64) (0 : Int)), (10, .iv (.int .i64) ((t.2.2 ++ [r]).length : Int)), (9, .ref 9 0), (8, .ref 8 0), (7, .iv .bool true), (2, .iv (.int .u8) k)], [(9, .box [.iv (.int .i64) t.1, .iv (.int .u8) t.2.1, .nilsl]), (8, .box [.iv (.int .i64) t.1, .iv (.int .u8) t.2.1, .lfull 32]), (32, .arr RuleT (t.2.2 ++ [r]))]⟩) (fun _ => True)
  · intro key
    refine ⟨_, c_sanity, _, k1, fun _ => ⟨fun h1 => ⟨fun h2 => rfl, fun h2 => ?_⟩, fun h1 => rfl⟩⟩
    repeat' (first | (with_reducible apply And.intro) | fail)
    all_goals first
      | exact hne
      | omega
      | exact key _ () trivial (by refine ⟨?_, ?_, rfl, rfl⟩ <;> repeat' (first | exact trivial | exact Or.inl rfl | exact Or.inr rfl | (refine And.intro (Or.inl rfl) ?_) | (refine And.intro (Or.inr (Or.inl rfl)) ?_) | (refine And.intro (Or.inr (Or.inr (Or.inr ⟨rfl, rfl⟩))) ?_) | (refine And.intro (Or.inr (Or.inr (Or.inl ⟨rfl, rfl, trivial⟩))) ?_) | exact ⟨(by show (_ : Nat) < 1000000000; omega), rfl, rfl⟩ | rfl | (refine And.intro (Or.inl ?_) ?_) | (refine And.intro ?_ ?_)))
  intro _ _
  rw [← hl]
  refine Walks.sealw [32] ?_
  simp only [go_sem, Nat.reduceBEq, ↓reduceIte, ↓reduceDIte, Nat.reduceAdd, Nat.reduceSub, Nat.reduceMul, Nat.reduceLeDiff, ← Bool.decide_and, ← Bool.decide_or, ← decide_not, Int.reduceLT, Int.reduceLE, Int.reduceToNat, Int.reduceNeg, by32, by10, litP, appendC, Int.reduceEq, not_true_eq_false, not_false_eq_true, false_implies, St.ren, permF]
  refine Walks.loopA (X := Nat × List Rl) (fun (z : Nat × List Rl) => [(11, .iv (.int .i64) (z.1 : Int))]) (fun (z : Nat × List Rl) => (9, .box [.iv (.int .i64) t.1, .iv (.int .u8) t.2.1, rP z.2]) :: rB z.2) (fun (z : Nat × List Rl) => z.1 ≤ l.length ∧ z.2 = (turnL k l).take z.1) (fun (z : Nat × List Rl) => l.length - z.1) (0, []) ?_; intro b1 b2 hb1 hb2; simp (config := {maxSteps := 4000000}) only [go_sem, Nat.reduceBEq, ↓reduceIte, ↓reduceDIte, Nat.reduceAdd, Nat.reduceSub, Nat.reduceMul, Nat.reduceLeDiff, ← Bool.decide_and, ← Bool.decide_or, ← decide_not, Int.reduceLT, Int.reduceLE, Int.reduceToNat, Int.reduceNeg, by32, by10, litP, appendC, Int.reduceEq, not_true_eq_false, not_false_eq_true, false_implies, St.ren, permF] at hb1 hb2; subst hb1; subst hb2; refine ⟨(by refine ⟨?_, ?_, rfl, rfl⟩ <;> repeat' (first | exact trivial | exact Or.inl rfl | exact Or.inr rfl | (refine And.intro (Or.inl rfl) ?_) | (refine And.intro (Or.inr (Or.inl rfl)) ?_) | (refine And.intro (Or.inr (Or.inr (Or.inr ⟨rfl, rfl⟩))) ?_) | (refine And.intro (Or.inr (Or.inr (Or.inl ⟨rfl, rfl, trivial⟩))) ?_) | exact ⟨(by show (_ : Nat) < 1000000000; omega), rfl, rfl⟩ | rfl | (refine And.intro (Or.inl ?_) ?_) | (refine And.intro ?_ ?_))), ?_, ?_⟩
  · exact ⟨Nat.zero_le _, rfl⟩
  intro ⟨i, acc⟩ ⟨hi, hacc⟩ back
  dsimp only at hi hacc
  have hal : acc.length = i := by rw [hacc, List.length_take, turn_len]; omega
  have hst : i < l.length → ∃ j u, j < l.length ∧ (j : Int) = Int.tmod ((i : Int) + k) (l.length : Int) ∧ l[j]? = some u ∧ (turnL k l).take (i + 1) = acc ++ [u] := fun h => by
    obtain ⟨j, hj, hje, hg⟩ := turn_get hk.1 h
    obtain ⟨u, hu⟩ : ∃ u, l[j]? = some u := get_of_lt hj
    refine ⟨j, u, hj, hje, hu, ?_⟩
    rw [hu] at hg
    rw [hacc, List.take_add_one, hg]; rfl
  cases acc with
  | nil =>
    dsimp only [rP, rB]
    refine PW_sound env_ok ⟨_, fn_8, rfl⟩ 2000 _ _ (by kernel_rfl) ?_; simp only [go_sem, Nat.reduceBEq, ↓reduceIte, ↓reduceDIte, Nat.reduceAdd, Nat.reduceSub, Nat.reduceMul, Nat.reduceLeDiff, ← Bool.decide_and, ← Bool.decide_or, ← decide_not, Int.reduceLT, Int.reduceLE, Int.reduceToNat, Int.reduceNeg, by32, by10, litP, appendC, Int.reduceEq, not_true_eq_false, not_false_eq_true, false_implies, St.ren, permF]
    refine ⟨fun g => ?_, fun g => absurd (by simp at hal; omega) g⟩
    obtain ⟨j, u, hj, hje, hu, hst⟩ := hst (by omega)
    rw [← hje]
    refine ⟨⟨by omega, by omega⟩, by show (0:Int) < _; omega, by omega, u, hu, i64_ok (by omega) (by omega), ?_⟩
    refine Walks.ren [(63, 1000), (1000, 63)] rfl ?_
    simp only [go_sem, Nat.reduceBEq, ↓reduceIte, ↓reduceDIte, Nat.reduceAdd, Nat.reduceSub, Nat.reduceMul, Nat.reduceLeDiff, ← Bool.decide_and, ← Bool.decide_or, ← decide_not, Int.reduceLT, Int.reduceLE, Int.reduceToNat, Int.reduceNeg, by32, by10, litP, appendC, Int.reduceEq, not_true_eq_false, not_false_eq_true, false_implies, St.ren, permF]
    exact back _ (i + 1, [u]) (by refine ⟨?_, ?_, rfl, rfl⟩ <;> repeat' (first | exact trivial | exact Or.inl rfl | exact Or.inr rfl | (refine And.intro (Or.inl rfl) ?_) | (refine And.intro (Or.inr (Or.inl rfl)) ?_) | (refine And.intro (Or.inr (Or.inr (Or.inr ⟨rfl, rfl⟩))) ?_) | (refine And.intro (Or.inr (Or.inr (Or.inl ⟨rfl, rfl, trivial⟩))) ?_) | exact ⟨(by show (_ : Nat) < 1000000000; omega), rfl, rfl⟩ | rfl | (refine And.intro (Or.inl ?_) ?_) | (refine And.intro ?_ ?_))) ⟨by dsimp only; omega, by dsimp only; rw [hst]; rfl⟩ (by dsimp only; omega)
  | cons y acc =>
    dsimp only [rP, rB]
    refine PW_sound env_ok ⟨_, fn_8, rfl⟩ 2000 _ _ (by kernel_rfl) ?_; simp only [go_sem, Nat.reduceBEq, ↓reduceIte, ↓reduceDIte, Nat.reduceAdd, Nat.reduceSub, Nat.reduceMul, Nat.reduceLeDiff, ← Bool.decide_and, ← Bool.decide_or, ← decide_not, Int.reduceLT, Int.reduceLE, Int.reduceToNat, Int.reduceNeg, by32, by10, litP, appendC, Int.reduceEq, not_true_eq_false, not_false_eq_true, false_implies, St.ren, permF]
    refine ⟨fun g => ?_, fun g => ?_⟩
    · obtain ⟨j, u, hj, hje, hu, hst⟩ := hst (by omega)
      rw [← hje]
      refine ⟨⟨by omega, by omega⟩, by show (0:Int) < _; omega, by omega, u, hu, by simp at hal; omega, i64_ok (by omega) (by omega), ?_⟩
      exact back _ (i + 1, y :: (acc ++ [u])) (by refine ⟨?_, ?_, rfl, rfl⟩ <;> repeat' (first | exact trivial | exact Or.inl rfl | exact Or.inr rfl | (refine And.intro (Or.inl rfl) ?_) | (refine And.intro (Or.inr (Or.inl rfl)) ?_) | (refine And.intro (Or.inr (Or.inr (Or.inr ⟨rfl, rfl⟩))) ?_) | (refine And.intro (Or.inr (Or.inr (Or.inl ⟨rfl, rfl, trivial⟩))) ?_) | exact ⟨(by show (_ : Nat) < 1000000000; omega), rfl, rfl⟩ | rfl | (refine And.intro (Or.inl ?_) ?_) | (refine And.intro ?_ ?_))) ⟨by dsimp only; omega, by dsimp only; rw [hst]; rfl⟩ (by dsimp only; omega)
    · have hall : y :: acc = turnL k l := by rw [hacc]; exact List.take_of_length_le (by rw [turn_len]; omega)
      rw [hall]
      have hp := turn_perm hk.1 (l := l) (by omega)
      have v1 := c_Valid (t.1, t.2.1, l)
      have v2 := c_Valid (t.1, t.2.1, turnL k l)
      rw [valid_perm hp] at v2
      refine ⟨_, v1, _, v2, PB_cast (b' := false) (by simp) ?_⟩
      simp only [go_sem, Nat.reduceBEq, ↓reduceIte, ↓reduceDIte, Nat.reduceAdd, Nat.reduceSub, Nat.reduceMul, Nat.reduceLeDiff, ← Bool.decide_and, ← Bool.decide_or, ← decide_not, Int.reduceLT, Int.reduceLE, Int.reduceToNat, Int.reduceNeg, by32, by10, litP, appendC, Int.reduceEq, not_true_eq_false, not_false_eq_true, false_implies, St.ren, permF]
      have pr : ∀ m : List Rl, (printE (t.1, t.2.1, m)).length ≤ 1000000000 := fun m => by
        by_cases h : (checkE (t.1, t.2.1, m)).2 = 0
        · have := print_len (check_ok h); omega
        · unfold printE; rw [if_neg h]; decide
      by_cases hv : (checkE (t.1, t.2.1, l)).2 = 0
      · have hok := check_ok hv
        have hok2 := ok_perm hok hp
        have p1 : printE (t.1, t.2.1, l) = textE (t.1, t.2.1, l) := by unfold printE; rw [if_pos hv]
        have p2 : printE (t.1, t.2.1, turnL k l) = textE (t.1, t.2.1, turnL k l) := by unfold printE; rw [if_pos ((valid_iff _).2 hok2)]
        have s1 := c_SplitR (printE (t.1, t.2.1, l)) 10 (pr l)
        have s2 := c_SplitR (printE (t.1, t.2.1, turnL k l)) 10 (pr _)
        rw [p1, text_lines hok] at s1
        rw [p2, text_lines hok2] at s2
        have q1 := c_Print (t.1, t.2.1, l)
        have q2 := c_Print (t.1, t.2.1, turnL k l)
        rw [p1] at q1
        rw [p2] at q2
        have la : (headL (t.1, t.2.1, l) :: (l.map ruleL ++ [[]])).length = l.length + 2 := by simp
        have lb : (headL (t.1, t.2.1, turnL k l) :: ((turnL k l).map ruleL ++ [[]])).length = l.length + 2 := by simp [turn_len]
        have h0a : (headL (t.1, t.2.1, l) :: (l.map ruleL ++ [[]]))[0]? = some (headL (t.1, t.2.1, l)) := rfl
        have h0b : (headL (t.1, t.2.1, turnL k l) :: ((turnL k l).map ruleL ++ [[]]))[0]? = some (headL (t.1, t.2.1, l)) := rfl
        have hab : ∀ i, i < l.length → ∃ j u, j < l.length ∧ (j : Int) = Int.tmod ((i : Int) + k) (l.length : Int) ∧ (headL (t.1, t.2.1, l) :: (l.map ruleL ++ [[]]))[j + 1]? = some u ∧ (headL (t.1, t.2.1, turnL k l) :: ((turnL k l).map ruleL ++ [[]]))[i + 1]? = some u := fun i hi => by
          obtain ⟨j, hj, hje, hg⟩ := turn_get hk.1 hi
          obtain ⟨u, hu⟩ : ∃ u, l[j]? = some u := get_of_lt hj
          refine ⟨j, ruleL u, hj, hje, ?_, ?_⟩
          · rw [List.getElem?_cons_succ, List.getElem?_append_left (by rw [List.length_map]; exact hj), List.getElem?_map, hu]; rfl
          · rw [List.getElem?_cons_succ, List.getElem?_append_left (by rw [List.length_map, turn_len]; exact hi), List.getElem?_map, hg, hu]; rfl
        generalize headL (t.1, t.2.1, l) :: (l.map ruleL ++ [[]]) = A at *
        generalize headL (t.1, t.2.1, turnL k l) :: ((turnL k l).map ruleL ++ [[]]) = B at *
        refine ⟨_, q1, fun _ => ⟨_, s1, fun _ => ⟨_, q2, fun _ => ⟨_, s2, fun _ => ⟨_, v1, PB_cast (b' := false) (by simp [hv]) ?_⟩⟩⟩⟩⟩
        simp only [go_sem, Nat.reduceBEq, ↓reduceIte, ↓reduceDIte, Nat.reduceAdd, Nat.reduceSub, Nat.reduceMul, Nat.reduceLeDiff, ← Bool.decide_and, ← Bool.decide_or, ← decide_not, Int.reduceLT, Int.reduceLE, Int.reduceToNat, Int.reduceNeg, by32, by10, litP, appendC, Int.reduceEq, not_true_eq_false, not_false_eq_true, false_implies, St.ren, permF]
        refine ⟨i64_ok (by omega) (by omega), fun _ => ⟨i64_ok (by omega) (by omega), fun _ => ⟨_, h0a, _, h0b, fun h => absurd rfl h, fun _ => ?_⟩, fun h => absurd (by omega) h⟩, fun h => absurd (by omega) h⟩
        refine Walks.loopA (X := Nat) (fun (z : Nat) => [(14, .iv (.int .i64) (z : Int)), (105, .any), (104, .any)]) (fun (z : Nat) => []) (fun (z : Nat) => z ≤ l.length) (fun (z : Nat) => l.length - z) 0 ?_; intro b1 b2 hb1 hb2; simp (config := {maxSteps := 4000000}) only [go_sem, Nat.reduceBEq, ↓reduceIte, ↓reduceDIte, Nat.reduceAdd, Nat.reduceSub, Nat.reduceMul, Nat.reduceLeDiff, ← Bool.decide_and, ← Bool.decide_or, ← decide_not, Int.reduceLT, Int.reduceLE, Int.reduceToNat, Int.reduceNeg, by32, by10, litP, appendC, Int.reduceEq, not_true_eq_false, not_false_eq_true, false_implies, St.ren, permF] at hb1 hb2; subst hb1; subst hb2; refine ⟨(by refine ⟨?_, ?_, rfl, rfl⟩ <;> repeat' (first | exact trivial | exact Or.inl rfl | exact Or.inr rfl | (refine And.intro (Or.inl rfl) ?_) | (refine And.intro (Or.inr (Or.inl rfl)) ?_) | (refine And.intro (Or.inr (Or.inr (Or.inr ⟨rfl, rfl⟩))) ?_) | (refine And.intro (Or.inr (Or.inr (Or.inl ⟨rfl, rfl, trivial⟩))) ?_) | exact ⟨(by show (_ : Nat) < 1000000000; omega), rfl, rfl⟩ | rfl | (refine And.intro (Or.inl ?_) ?_) | (refine And.intro ?_ ?_))), ?_, ?_⟩
        · exact Nat.zero_le _
        clear hst hacc hi hal
        intro i hi back
        refine PW_sound env_ok ⟨_, fn_8, rfl⟩ 2000 _ _ (by kernel_rfl) ?_; simp only [go_sem, Nat.reduceBEq, ↓reduceIte, ↓reduceDIte, Nat.reduceAdd, Nat.reduceSub, Nat.reduceMul, Nat.reduceLeDiff, ← Bool.decide_and, ← Bool.decide_or, ← decide_not, Int.reduceLT, Int.reduceLE, Int.reduceToNat, Int.reduceNeg, by32, by10, litP, appendC, Int.reduceEq, not_true_eq_false, not_false_eq_true, false_implies, St.ren, permF]
        refine ⟨fun g => ?_, fun _ => trivial⟩
        obtain ⟨j, u, hj, hje, hu, hv⟩ := hab i (by omega)
        rw [← hje]
        exact ⟨i64_ok (by omega) (by omega), by omega, u, hv, i64_ok (by omega) (by omega), by show (0:Int) < _; omega, i64_ok (by omega) (by omega), by omega, u, hu, fun h => absurd rfl h, fun _ => ⟨i64_ok (by omega) (by omega), back _ (i + 1) (by refine ⟨?_, ?_, rfl, rfl⟩ <;> repeat' (first | exact trivial | exact Or.inl rfl | exact Or.inr rfl | (refine And.intro (Or.inl rfl) ?_) | (refine And.intro (Or.inr (Or.inl rfl)) ?_) | (refine And.intro (Or.inr (Or.inr (Or.inr ⟨rfl, rfl⟩))) ?_) | (refine And.intro (Or.inr (Or.inr (Or.inl ⟨rfl, rfl, trivial⟩))) ?_) | exact ⟨(by show (_ : Nat) < 1000000000; omega), rfl, rfl⟩ | rfl | (refine And.intro (Or.inl ?_) ?_) | (refine And.intro ?_ ?_))) (by omega) (by omega)⟩⟩
      · have p1 : printE (t.1, t.2.1, l) = [] := by unfold printE; rw [if_neg hv]
        have s1 := c_SplitR [] 10 (by decide)
        have s2 := c_SplitR (printE (t.1, t.2.1, turnL k l)) 10 (pr _)
        have q1 := c_Print (t.1, t.2.1, l)
        rw [p1] at q1
        refine ⟨_, q1, fun _ => ⟨_, s1, fun _ => ⟨_, c_Print (t.1, t.2.1, turnL k l), fun _ => ⟨_, s2, fun _ => ⟨_, v1, PB_cast (b' := true) (by simp [hv]) ?_⟩⟩⟩⟩⟩
        simp only [go_sem, Nat.reduceBEq, ↓reduceIte, ↓reduceDIte, Nat.reduceAdd, Nat.reduceSub, Nat.reduceMul, Nat.reduceLeDiff, ← Bool.decide_and, ← Bool.decide_or, ← decide_not, Int.reduceLT, Int.reduceLE, Int.reduceToNat, Int.reduceNeg, by32, by10, litP, appendC, Int.reduceEq, not_true_eq_false, not_false_eq_true, false_implies, St.ren, permF]
        exact ⟨fun _ => trivial, fun h => absurd rfl h⟩
end Go.Proofs.YtcmolphllladbaaDoor
namespace Go.Proofs.YtcmolphllladbaaDoor
open Go.ChangeShapes Go.WideShapes Go.ChangeAt Go.RowKit
theorem orders_all (xs : List (Sigma Ty.den)) (h : xs.map (·.1) = [RawT, RuleT, .int .u8]) : PC env 8 xs .bool true := by
  match xs, h with
  | [⟨_, y0⟩, ⟨_, y1⟩, ⟨_, y2⟩], h =>
    injection h with h1 h
    injection h with h2 h
    injection h with h3 h
    dsimp only at h1 h2 h3
    subst h1 h2 h3
    exact c_Orders y0 y1 y2
set_option maxRecDepth 100000 in
theorem orders_lifted (os : Os) (started : os.Started) (H : Type) (enc : TypeId × Value → H) :
    ReturnsInHanded {} Tryd.checked os 8 .any (Rows.schemeOrdersRow.pre enc Tryd.prog Tryd.f8 (OpenSpec.ofChange Rows.schemeOrdersSpec)) (Rows.schemeOrdersSpec.post enc Tryd.prog Tryd.f8 false true false false) := by
  rw [pre_laid (c := Rows.schemeOrdersRow) (s := Rows.schemeOrdersSpec) rfl]
  refine lift_laid (C := Tryd.checked) (X := fun w _ => laidMet Tryd.prog laidL w) laid_heap own_none started (by kernel_rfl) fn_8
    (ChangeSpec.witness_at (enc := enc) (C := Tryd.checked) (X := fun w _ => laidMet Tryd.prog laidL w) false (laidWorld os) #[.agg #[.int .u8 0, .int .u8 0, .slice none 0 0], .agg #[.int .i64 0, .int .i64 0, .string ⟨#[]⟩, .string ⟨#[]⟩, .int .i64 0], .int .u8 0] 8 (by kernel_rfl) (by kernel_rfl) (by kernel_rfl) (by kernel_rfl) (by kernel_rfl) (by kernel_rfl) (laid_met os _)) ?_
  intro W base args ds gs before hval hW hx hsh
  refine law_calls (E := env) (b0 := base) (Ts := [RawT, RuleT, .int .u8]) (tb := 4) env_ok laid_out (of_decide_eq_true (by kernel_rfl)) rfl rfl rfl (by kernel_rfl) rfl ?_ orders_all (tabs_of hsh hx) hval hW
  intro ds hds
  match ds, hds with
  | [d0, d1, d2], _ => rfl
theorem orders_holds : Rows.SchemeOrdersSaid :=
  OpenClaim.holds_of_wide 8 Tryd.f8 rfl rfl rfl rfl rfl rfl rfl ⟨rfl, rfl, rfl, rfl, rfl⟩ rfl rfl rfl rfl rfl (by kernel_rfl) fn_8 (by kernel_rfl)
    (of_decide_eq_true (by kernel_rfl)) (by unfold Func.isWrapper; first | (rw [if_pos (by decide +kernel)]; kernel_rfl) | (rw [if_neg (by decide +kernel)]; exact ⟨rfl, rfl⟩))
    (fun os started H enc _ => orders_lifted os started H enc)
theorem orders_card : Rows.SchemeOrdersCardSaid :=
  Claim7.holds_tied_plain_at .later [] [.data, .data, .data, .data, .pinned] true (true, "34baf661d054b563b50d6273a2529c45ae94fe38806658fc0c33bd088ca5fb84") false
    orders_holds (fun _ h => by cases h) (by kernel_rfl) (fun _ h => by cases h) schemeOrders_row_tie rfl ⟨rfl, rfl⟩ (by kernel_rfl) rfl
    (fun f fn hf hfn => by
      obtain rfl : f = 8 := Option.some.inj ((show Tryd.prog.funcNamed "syllabary/syllabarylaw02.SchemeOrders" = some 8 by kernel_rfl).symm.trans hf) |>.symm
      obtain rfl : fn = Tryd.f8 := (Option.some.inj (fn_8.symm.trans hfn)).symm
      exact ⟨by kernel_rfl, fun j t ht => by
        have hall : (Tryd.f8.params.toList.all fun u => !Tryd.prog.wantsStandIn u) = true := by kernel_rfl
        have hm : t ∈ Tryd.f8.params.toList := Array.mem_toList_iff.2 (Array.mem_of_getElem? ht)
        exact (show Tryd.prog.wantsStandIn t = false by simpa using List.all_eq_true.1 hall t hm)⟩)
    (by kernel_rfl)
end Go.Proofs.YtcmolphllladbaaDoor
