/- Contracts: the reference's records and orders. Nothing here is trusted; no condition. -/
import Derived.Test.YtnncphnpajkojaaB1
set_option linter.unusedSimpArgs false
set_option linter.unusedVariables false
namespace Go.Proofs.Ytnncphnpajkojaa
set_option maxHeartbeats 4000000
set_option maxRecDepth 100000

theorem c_findFO (o : Ord') (p : Int × Int) : PC env 84 [⟨OrderT, o⟩, ⟨PlaceT, p⟩, ⟨.ptr .fnv, (38 : Nat)⟩] (.int .i64) (cmpP (plO o) p) := by
  refine PC.of_PW (m := 2000) env_ok fn_84 rfl rfl rfl rfl (by kernel_rfl) ?_; intro hx; simp only [Try.f84]; simp only [go_sem, Nat.reduceBEq, ↓reduceIte, ↓reduceDIte, Nat.reduceAdd, Nat.reduceSub, Nat.reduceMul, Nat.reduceLeDiff, ← Bool.decide_and, ← Bool.decide_or, ← decide_not, Int.reduceLT, Int.reduceLE, Int.reduceToNat, Int.reduceNeg]
  exact ⟨_, c_ofO o, fun _ => ⟨_, c_comp _ _, fun _ => rfl⟩⟩
theorem c_bsO (l : List Ord') (p : Int × Int) (hl : l.length ≤ 1000000) : PC env 83 [⟨.sl OrderT, l⟩, ⟨PlaceT, p⟩, ⟨.clo 84 (.ptr .fnv), (38 : Nat)⟩] (.tup (.int .i64) .bool) (((bsI plO l p : Nat) : Int), hitAt plO l p (bsI plO l p)) := by
  refine PC.of_PW (m := 2000) env_ok fn_83 rfl rfl rfl rfl (by kernel_rfl) ?_; intro hx; simp only [Try.f83]; simp only [go_sem, Nat.reduceBEq, ↓reduceIte, ↓reduceDIte, Nat.reduceAdd, Nat.reduceSub, Nat.reduceMul, Nat.reduceLeDiff, ← Bool.decide_and, ← Bool.decide_or, ← decide_not, Int.reduceLT, Int.reduceLE, Int.reduceToNat, Int.reduceNeg]
  refine Walks.loopW (X := Nat × Nat) (fun z => ⟨[(9, .iv (.int .i64) (z.1 : Int)), (10, .iv (.int .i64) (z.2 : Int)), (8, .iv (.int .i64) (l.length : Int)), (0, .iv (.sl OrderT) l), (2, .fn 84 [.eptr .fnv (38 : Nat) 0]), (4, .ref 4 0)], [(4, .box [.iv (.int .i64) p.1, .iv (.int .i64) p.2])]⟩)
    (fun z => z.1 ≤ z.2 ∧ z.2 ≤ l.length ∧ bsF (ltAt plO l p) z.1 z.2 = bsI plO l p) (fun z => z.2 - z.1) (0, l.length) (by refine ⟨?_, ?_, rfl, rfl⟩ <;> repeat' (first | exact trivial | (refine And.intro (Or.inl rfl) ?_) | (refine And.intro (Or.inr (Or.inl rfl)) ?_) | (refine And.intro (Or.inr (Or.inr (Or.inr ⟨rfl, rfl⟩))) ?_) | rfl | (refine And.intro (Or.inl ?_) ?_) | (refine And.intro ?_ ?_))) ⟨Nat.zero_le _, Nat.le_refl _, rfl⟩ ?_
  intro ⟨i, j⟩ ⟨hij, hj, hb⟩ back
  dsimp only at hij hj hb
  refine PW_sound env_ok ⟨_, fn_83, rfl⟩ 2000 _ _ (by kernel_rfl) ?_; simp only [go_sem, Nat.reduceBEq, ↓reduceIte, ↓reduceDIte, Nat.reduceAdd, Nat.reduceSub, Nat.reduceMul, Nat.reduceLeDiff, ← Bool.decide_and, ← Bool.decide_or, ← decide_not, Int.reduceLT, Int.reduceLE, Int.reduceToNat, Int.reduceNeg]
  have hw := half_wrap (i := i) (j := j) (by omega)
  have hu : IntKind.u64.wrap ((i : Int) + j) = (i : Int) + j := wrap_in _ ⟨by simp only [min_u64]; omega, by simp only [max_u64]; omega⟩
  refine ⟨fun h => ?_, fun h => ?_⟩
  · obtain ⟨x, hxi⟩ : ∃ x, l[(i + j) / 2]? = some x := get_of_lt (by omega)
    rw [hw, hu, Int.toNat_natCast]
    unfold bsF at hb
    rw [if_pos (by omega)] at hb
    have hlt : ltAt plO l p ((i + j) / 2) = decide (cmpP (plO x) p < 0) := by unfold ltAt; rw [hxi]
    refine ⟨i64_ok (by omega) (by omega), by omega, x, hxi, _, c_findFO x p, fun _ => ⟨fun c => ⟨i64_ok (by omega) (by omega), ?_⟩, fun c => ?_⟩⟩
    · rw [hlt, decide_eq_true c, if_pos rfl] at hb
      exact back _ ((i + j) / 2 + 1, j) (by refine ⟨?_, ?_, rfl, rfl⟩ <;> repeat' (first | exact trivial | (refine And.intro (Or.inl rfl) ?_) | (refine And.intro (Or.inr (Or.inl rfl)) ?_) | (refine And.intro (Or.inr (Or.inr (Or.inr ⟨rfl, rfl⟩))) ?_) | rfl | (refine And.intro (Or.inl ?_) ?_) | (refine And.intro ?_ ?_))) ⟨by dsimp only; omega, hj, hb⟩ (by dsimp only; omega)
    · rw [hlt, decide_eq_false c, if_neg (by decide)] at hb
      exact back _ (i, (i + j) / 2) (by refine ⟨?_, ?_, rfl, rfl⟩ <;> repeat' (first | exact trivial | (refine And.intro (Or.inl rfl) ?_) | (refine And.intro (Or.inr (Or.inl rfl)) ?_) | (refine And.intro (Or.inr (Or.inr (Or.inr ⟨rfl, rfl⟩))) ?_) | rfl | (refine And.intro (Or.inl ?_) ?_) | (refine And.intro ?_ ?_))) ⟨by dsimp only; omega, by dsimp only; omega, hb⟩ (by dsimp only; omega)
  · unfold bsF at hb
    rw [if_neg (by omega)] at hb
    rw [← hb]
    refine ⟨fun c => ?_, fun c => ?_⟩
    · obtain ⟨x, hxi⟩ : ∃ x, l[i]? = some x := get_of_lt (by omega)
      refine ⟨Int.natCast_nonneg i, x, hxi, _, c_findFO x p, fun _ => ?_⟩
      unfold hitAt
      rw [hxi]
    · unfold hitAt
      rw [List.getElem?_eq_none (by omega)]
theorem c_findO (l : List Ord') (p : Int × Int) (hl : l.length ≤ 1000000) : PC env 59 [⟨.sl OrderT, l⟩, ⟨.fnv, (38 : Nat)⟩, ⟨PlaceT, p⟩] (.tup (.int .i64) .bool) (((bsI plO l p : Nat) : Int), hitAt plO l p (bsI plO l p)) := by
  refine PC.of_PW (m := 2000) env_ok fn_59 rfl rfl rfl rfl (by kernel_rfl) ?_; intro hx; simp only [Try.f59]; simp only [go_sem, Nat.reduceBEq, ↓reduceIte, ↓reduceDIte, Nat.reduceAdd, Nat.reduceSub, Nat.reduceMul, Nat.reduceLeDiff, ← Bool.decide_and, ← Bool.decide_or, ← decide_not, Int.reduceLT, Int.reduceLE, Int.reduceToNat, Int.reduceNeg]
  exact ⟨_, c_bsO l p hl, fun _ => rfl⟩
theorem h_GrowO (n : Int) (h0 : 0 < n) (h1 : n ≤ 1000000) : HC env 86 [.nilsl, .iv (.int .i64) n] [] (.lsl 22 7 0 0) [(22, .arr OrderT (List.replicate n.toNat (zeroDen OrderT)))] := by
  refine HC.of_PW (m := 2000) env_ok fn_86 rfl rfl rfl rfl (by kernel_rfl) ?_; intro hx hbl; simp only [Try.f86]; simp only [go_sem, Nat.reduceBEq, ↓reduceIte, ↓reduceDIte, Nat.reduceAdd, Nat.reduceSub, Nat.reduceMul, Nat.reduceLeDiff, ← Bool.decide_and, ← Bool.decide_or, ← decide_not, Int.reduceLT, Int.reduceLE, Int.reduceToNat, Int.reduceNeg]
  refine ⟨fun h => absurd h (by omega), fun _ => ?_⟩
  simp only [Int.sub_self, Int.sub_zero]
  exact ⟨⟨by decide, by decide⟩, ⟨by omega, by omega⟩, fun _ => ⟨⟨h0, Int.le_trans h1 (by decide)⟩, Int.natCast_nonneg _, trivial⟩, fun h => absurd h0 h⟩
theorem c_ConcatO (ls : List (List Ord')) (h0 : 0 < sumLen ls) (h1 : sumLen ls ≤ 1000000) (hn : ls.length ≤ 1000000) : PC env 73 [⟨.sl (.sl OrderT), ls⟩] (.sl OrderT) ls.flatten := by
  refine PC.of_PW (m := 2000) env_ok fn_73 rfl rfl rfl rfl (by kernel_rfl) ?_; intro hx; simp only [Try.f73]; simp only [go_sem, Nat.reduceBEq, ↓reduceIte, ↓reduceDIte, Nat.reduceAdd, Nat.reduceSub, Nat.reduceMul, Nat.reduceLeDiff, ← Bool.decide_and, ← Bool.decide_or, ← decide_not, Int.reduceLT, Int.reduceLE, Int.reduceToNat, Int.reduceNeg]
  refine Walks.loopW (X := Nat) (fun k => ⟨[(11, .iv (.int .i64) (k : Int)), (10, .iv (.int .i64) (ls.length : Int)), (9, .iv (.sl (.sl OrderT)) ls), (0, .iv (.sl (.sl OrderT)) ls), (3, .iv (.int .i64) (sumLen (ls.take k) : Int))], []⟩)
    (fun k => k ≤ ls.length) (fun k => ls.length - k) 0 (by refine ⟨?_, ?_, rfl, rfl⟩ <;> repeat' (first | exact trivial | (refine And.intro (Or.inl rfl) ?_) | (refine And.intro (Or.inr (Or.inl rfl)) ?_) | (refine And.intro (Or.inr (Or.inr (Or.inr ⟨rfl, rfl⟩))) ?_) | rfl | (refine And.intro (Or.inl ?_) ?_) | (refine And.intro ?_ ?_))) (Nat.zero_le _) ?_
  intro k hk back
  refine PW_sound env_ok ⟨_, fn_73, rfl⟩ 2000 _ _ (by kernel_rfl) ?_; simp only [go_sem, Nat.reduceBEq, ↓reduceIte, ↓reduceDIte, Nat.reduceAdd, Nat.reduceSub, Nat.reduceMul, Nat.reduceLeDiff, ← Bool.decide_and, ← Bool.decide_or, ← decide_not, Int.reduceLT, Int.reduceLE, Int.reduceToNat, Int.reduceNeg]
  refine ⟨fun h => ?_, fun h => ?_⟩
  · obtain ⟨x, hxi⟩ : ∃ x, ls[k]? = some x := get_of_lt (by omega)
    have hs := sumLen_snoc hxi
    have ht := sumLen_take ls (k + 1)
    refine ⟨Int.natCast_nonneg k, x, hxi, i64_ok (by omega) (by omega), fun h' => absurd h' (by omega), fun _ => ⟨i64_ok (by omega) (by omega), ?_⟩⟩
    refine back _ (k + 1) ⟨⟨Or.inl rfl, Or.inl rfl, Or.inl rfl, Or.inl rfl, Or.inl ?_, trivial⟩, trivial, rfl, rfl⟩ (by omega) (by omega)
    rw [hs]
    rfl
  · have e : ls.take k = ls := List.take_of_length_le (by omega)
    rw [e]
    refine ⟨_, _, h_GrowO _ (by omega) (by omega), ?_⟩
    simp only [go_sem, Nat.reduceBEq, ↓reduceIte, ↓reduceDIte, Nat.reduceAdd, Nat.reduceSub, Nat.reduceMul, Nat.reduceLeDiff, ← Bool.decide_and, ← Bool.decide_or, ← decide_not, Int.reduceLT, Int.reduceLE, Int.reduceToNat, Int.reduceNeg]
    intro _
    refine Walks.loopW (X := Nat) (fun k => ⟨[(27, .iv (.int .i64) (k : Int)), (26, .iv (.int .i64) (ls.length : Int)), (25, .iv (.sl (.sl OrderT)) ls), (6, match k with | 0 => .lsl 2500022 7 0 0 | _ + 1 => .lfull 2500022)], [(2500022, .arr OrderT (match k with | 0 => List.replicate (sumLen ls) (zeroDen OrderT) | _ + 1 => (ls.take k).flatten))]⟩)
      (fun k => k ≤ ls.length) (fun k => ls.length - k) 0 (by refine ⟨?_, ?_, rfl, rfl⟩ <;> repeat' (first | exact trivial | (refine And.intro (Or.inl rfl) ?_) | (refine And.intro (Or.inr (Or.inl rfl)) ?_) | (refine And.intro (Or.inr (Or.inr (Or.inr ⟨rfl, rfl⟩))) ?_) | rfl | (refine And.intro (Or.inl ?_) ?_) | (refine And.intro ?_ ?_))) (Nat.zero_le _) ?_
    intro k hk back2
    cases k with
    | zero =>
      refine PW_sound env_ok ⟨_, fn_73, rfl⟩ 2000 _ _ (by kernel_rfl) ?_; simp only [go_sem, Nat.reduceBEq, ↓reduceIte, ↓reduceDIte, Nat.reduceAdd, Nat.reduceSub, Nat.reduceMul, Nat.reduceLeDiff, ← Bool.decide_and, ← Bool.decide_or, ← decide_not, Int.reduceLT, Int.reduceLE, Int.reduceToNat, Int.reduceNeg]
      refine ⟨fun h => ?_, fun h => ?_⟩
      · obtain ⟨x, hxi⟩ : ∃ x, ls[0]? = some x := get_of_lt (by omega)
        have hs : sumLen (ls.take 1) = sumLen (ls.take 0) + x.length := sumLen_snoc hxi
        have ht := sumLen_take ls 1
        refine ⟨x, hxi, ⟨by rw [List.length_replicate]; exact h0, by omega⟩, ⟨by decide, by decide⟩, back2 _ 1 ⟨⟨Or.inl rfl, Or.inl rfl, Or.inl rfl, Or.inl rfl, trivial⟩, ⟨?_, trivial⟩, rfl, rfl⟩ (by omega) (by omega)⟩
        refine congrArg (Blk.arr OrderT) ?_
        rw [show (1 : Nat) = 0 + 1 from rfl, take_snoc hxi]
        simp
      · exfalso
        have hl0 : ls = [] := List.length_eq_zero_iff.mp (by omega)
        subst hl0
        exact absurd h0 (by decide)
    | succ k =>
      refine PW_sound env_ok ⟨_, fn_73, rfl⟩ 2000 _ _ (by kernel_rfl) ?_; simp only [go_sem, Nat.reduceBEq, ↓reduceIte, ↓reduceDIte, Nat.reduceAdd, Nat.reduceSub, Nat.reduceMul, Nat.reduceLeDiff, ← Bool.decide_and, ← Bool.decide_or, ← decide_not, Int.reduceLT, Int.reduceLE, Int.reduceToNat, Int.reduceNeg]
      refine ⟨fun h => ?_, fun h => ?_⟩
      · obtain ⟨x, hxi⟩ : ∃ x, ls[k + 1]? = some x := get_of_lt (by omega)
        have hs := sumLen_snoc hxi
        have ht := sumLen_take ls (k + 1 + 1)
        have hf : (ls.take (k + 1)).flatten.length = sumLen (ls.take (k + 1)) := by rw [List.length_flatten]; rfl
        refine ⟨Int.natCast_nonneg _, x, hxi, by omega, i64_ok (by omega) (by omega), back2 _ (k + 1 + 1) ⟨⟨Or.inl rfl, Or.inl rfl, Or.inl rfl, Or.inl rfl, trivial⟩, ⟨?_, trivial⟩, rfl, rfl⟩ (by omega) (by omega)⟩
        refine congrArg (Blk.arr OrderT) ?_
        rw [take_snoc hxi]
        simp
      · have e2 : ls.take (k + 1) = ls := List.take_of_length_le (by omega)
        rw [e2]
theorem c_addO (l : List Ord') (o : Ord') (hl : l.length ≤ 100000) : PC env 37 [⟨.sl OrderT, l⟩, ⟨.fnv, (38 : Nat)⟩, ⟨OrderT, o⟩] (.sl OrderT) (insAt l (bsI plO l (plO o)) o) := by
  refine PC.of_PW (m := 2000) env_ok fn_37 rfl rfl rfl rfl (by kernel_rfl) ?_; intro hx; simp only [Try.f37]; simp only [go_sem, Nat.reduceBEq, ↓reduceIte, ↓reduceDIte, Nat.reduceAdd, Nat.reduceSub, Nat.reduceMul, Nat.reduceLeDiff, ← Bool.decide_and, ← Bool.decide_or, ← decide_not, Int.reduceLT, Int.reduceLE, Int.reduceToNat, Int.reduceNeg]
  have hb := bsI_le plO l (plO o)
  refine ⟨_, c_ofO o, fun _ => ⟨_, c_findO l _ (by omega), fun _ => ?_⟩⟩
  simp only [go_sem, Nat.reduceBEq, ↓reduceIte, ↓reduceDIte, Nat.reduceAdd, Nat.reduceSub, Nat.reduceMul, Nat.reduceLeDiff, ← Bool.decide_and, ← Bool.decide_or, ← decide_not, Int.reduceLT, Int.reduceLE, Int.reduceToNat, Int.reduceNeg]
  have hn : (bsI plO l (o.1, o.2.1) : Int) ≤ (l.length : Int) := by have := bsI_le plO l (o.1, o.2.1); omega
  have hs : sumLen [l.take (bsI plO l (o.1, o.2.1)), [o], l.drop (bsI plO l (o.1, o.2.1))] = l.length + 1 := by
    have := bsI_le plO l (o.1, o.2.1)
    simp [sumLen]
    omega
  refine ⟨⟨Int.natCast_nonneg _, hn⟩, ⟨Int.natCast_nonneg _, hn⟩, _, c_ConcatO _ (by rw [hs]; omega) (by rw [hs]; omega) (by simp), fun _ => ?_⟩
  simp only [insAt, List.flatten_cons, List.flatten_nil, List.append_nil, List.singleton_append]
  rfl
theorem c_ordO (l : List Ord') : PC env 57 [⟨.sl OrderT, l⟩, ⟨.fnv, (38 : Nat)⟩] .bool (sortedB plO l) := by
  refine PC.of_PW (m := 2000) env_ok fn_57 rfl rfl rfl rfl (by kernel_rfl) ?_; intro hx; simp only [Try.f57]; simp only [go_sem, Nat.reduceBEq, ↓reduceIte, ↓reduceDIte, Nat.reduceAdd, Nat.reduceSub, Nat.reduceMul, Nat.reduceLeDiff, ← Bool.decide_and, ← Bool.decide_or, ← decide_not, Int.reduceLT, Int.reduceLE, Int.reduceToNat, Int.reduceNeg]
  have hlen : l.length ≤ 9223372036854775807 := hx.1.1
  refine Walks.loopW (X := Nat) (fun i => ⟨[(5, .iv (.int .i64) (i : Int)), (0, .iv (.sl OrderT) l), (1, .iv .fnv (38 : Nat))], []⟩)
    (fun i => 1 ≤ i ∧ (i ≤ l.length ∨ i = 1) ∧ (List.range (i - 1)).all (okAt plO l) = true) (fun i => l.length - i) 1 (by refine ⟨?_, ?_, rfl, rfl⟩ <;> repeat' (first | exact trivial | (refine And.intro (Or.inl rfl) ?_) | (refine And.intro (Or.inr (Or.inl rfl)) ?_) | (refine And.intro (Or.inr (Or.inr (Or.inr ⟨rfl, rfl⟩))) ?_) | rfl | (refine And.intro (Or.inl ?_) ?_) | (refine And.intro ?_ ?_))) ⟨Nat.le_refl _, .inr rfl, rfl⟩ ?_
  intro i ⟨hi, hi2, hb⟩ back
  refine PW_sound env_ok ⟨_, fn_57, rfl⟩ 2000 _ _ (by kernel_rfl) ?_; simp only [go_sem, Nat.reduceBEq, ↓reduceIte, ↓reduceDIte, Nat.reduceAdd, Nat.reduceSub, Nat.reduceMul, Nat.reduceLeDiff, ← Bool.decide_and, ← Bool.decide_or, ← decide_not, Int.reduceLT, Int.reduceLE, Int.reduceToNat, Int.reduceNeg]
  refine ⟨fun h => ?_, fun h => ?_⟩
  · obtain ⟨y, hy⟩ : ∃ y, l[i]? = some y := get_of_lt (by omega)
    obtain ⟨x, hxi⟩ : ∃ x, l[i - 1]? = some x := get_of_lt (by omega)
    have e1 : ((i : Int) - 1).toNat = i - 1 := by omega
    have hok : okAt plO l (i - 1) = decide (cmpP (plO x) (plO y) < 0) := by
      unfold okAt
      rw [hxi, show i - 1 + 1 = i from by omega, hy]
    rw [e1]
    refine ⟨i64_ok (by omega) (by omega), by omega, x, hxi, _, c_ofO x, fun _ => ⟨Int.natCast_nonneg i, y, hy, _, c_ofO y, fun _ => ⟨_, c_comp _ _, fun _ => ⟨fun c => ?_, fun c => ⟨i64_ok (by omega) (by omega), ?_⟩⟩⟩⟩⟩
    · symm
      unfold sortedB
      rw [List.all_eq_false]
      refine ⟨i - 1, List.mem_range.2 (by omega), ?_⟩
      rw [hok]
      exact fun e => absurd (of_decide_eq_true e) (Int.not_lt.2 c)
    · refine back _ (i + 1) (by refine ⟨?_, ?_, rfl, rfl⟩ <;> repeat' (first | exact trivial | (refine And.intro (Or.inl rfl) ?_) | (refine And.intro (Or.inr (Or.inl rfl)) ?_) | (refine And.intro (Or.inr (Or.inr (Or.inr ⟨rfl, rfl⟩))) ?_) | rfl | (refine And.intro (Or.inl ?_) ?_) | (refine And.intro ?_ ?_))) ⟨by omega, by omega, ?_⟩ (by omega)
      rw [show i + 1 - 1 = (i - 1) + 1 from by omega, List.range_succ, List.all_append, hb]
      simp only [List.all_cons, List.all_nil, Bool.and_true, Bool.true_and]
      rw [hok]
      exact decide_eq_true (Int.not_le.1 c)
  · unfold sortedB
    rcases hi2 with h2 | h2
    · rw [show l.length - 1 = i - 1 from by omega, hb]
    · subst h2
      rw [show l.length - 1 = 0 from by omega]
      rfl
end Go.Proofs.Ytnncphnpajkojaa
namespace Go.Proofs.Ytnncphnpajkojaa
set_option maxHeartbeats 4000000
set_option maxRecDepth 100000

theorem c_findFR (o : Rec) (p : Int × Int) : PC env 104 [⟨RecordT, o⟩, ⟨PlaceT, p⟩, ⟨.ptr .fnv, (52 : Nat)⟩] (.int .i64) (cmpP (plR o) p) := by
  refine PC.of_PW (m := 2000) env_ok fn_104 rfl rfl rfl rfl (by kernel_rfl) ?_; intro hx; simp only [Try.f104]; simp only [go_sem, Nat.reduceBEq, ↓reduceIte, ↓reduceDIte, Nat.reduceAdd, Nat.reduceSub, Nat.reduceMul, Nat.reduceLeDiff, ← Bool.decide_and, ← Bool.decide_or, ← decide_not, Int.reduceLT, Int.reduceLE, Int.reduceToNat, Int.reduceNeg]
  exact ⟨_, c_ofR o, fun _ => ⟨_, c_comp _ _, fun _ => rfl⟩⟩
theorem c_bsR (l : List Rec) (p : Int × Int) (hl : l.length ≤ 1000000) : PC env 103 [⟨.sl RecordT, l⟩, ⟨PlaceT, p⟩, ⟨.clo 104 (.ptr .fnv), (52 : Nat)⟩] (.tup (.int .i64) .bool) (((bsI plR l p : Nat) : Int), hitAt plR l p (bsI plR l p)) := by
  refine PC.of_PW (m := 2000) env_ok fn_103 rfl rfl rfl rfl (by kernel_rfl) ?_; intro hx; simp only [Try.f103]; simp only [go_sem, Nat.reduceBEq, ↓reduceIte, ↓reduceDIte, Nat.reduceAdd, Nat.reduceSub, Nat.reduceMul, Nat.reduceLeDiff, ← Bool.decide_and, ← Bool.decide_or, ← decide_not, Int.reduceLT, Int.reduceLE, Int.reduceToNat, Int.reduceNeg]
  refine Walks.loopW (X := Nat × Nat) (fun z => ⟨[(9, .iv (.int .i64) (z.1 : Int)), (10, .iv (.int .i64) (z.2 : Int)), (8, .iv (.int .i64) (l.length : Int)), (0, .iv (.sl RecordT) l), (2, .fn 104 [.eptr .fnv (52 : Nat) 0]), (4, .ref 4 0)], [(4, .box [.iv (.int .i64) p.1, .iv (.int .i64) p.2])]⟩)
    (fun z => z.1 ≤ z.2 ∧ z.2 ≤ l.length ∧ bsF (ltAt plR l p) z.1 z.2 = bsI plR l p) (fun z => z.2 - z.1) (0, l.length) (by refine ⟨?_, ?_, rfl, rfl⟩ <;> repeat' (first | exact trivial | (refine And.intro (Or.inl rfl) ?_) | (refine And.intro (Or.inr (Or.inl rfl)) ?_) | (refine And.intro (Or.inr (Or.inr (Or.inr ⟨rfl, rfl⟩))) ?_) | rfl | (refine And.intro (Or.inl ?_) ?_) | (refine And.intro ?_ ?_))) ⟨Nat.zero_le _, Nat.le_refl _, rfl⟩ ?_
  intro ⟨i, j⟩ ⟨hij, hj, hb⟩ back
  dsimp only at hij hj hb
  refine PW_sound env_ok ⟨_, fn_103, rfl⟩ 2000 _ _ (by kernel_rfl) ?_; simp only [go_sem, Nat.reduceBEq, ↓reduceIte, ↓reduceDIte, Nat.reduceAdd, Nat.reduceSub, Nat.reduceMul, Nat.reduceLeDiff, ← Bool.decide_and, ← Bool.decide_or, ← decide_not, Int.reduceLT, Int.reduceLE, Int.reduceToNat, Int.reduceNeg]
  have hw := half_wrap (i := i) (j := j) (by omega)
  have hu : IntKind.u64.wrap ((i : Int) + j) = (i : Int) + j := wrap_in _ ⟨by simp only [min_u64]; omega, by simp only [max_u64]; omega⟩
  refine ⟨fun h => ?_, fun h => ?_⟩
  · obtain ⟨x, hxi⟩ : ∃ x, l[(i + j) / 2]? = some x := get_of_lt (by omega)
    rw [hw, hu, Int.toNat_natCast]
    unfold bsF at hb
    rw [if_pos (by omega)] at hb
    have hlt : ltAt plR l p ((i + j) / 2) = decide (cmpP (plR x) p < 0) := by unfold ltAt; rw [hxi]
    refine ⟨i64_ok (by omega) (by omega), by omega, x, hxi, _, c_findFR x p, fun _ => ⟨fun c => ⟨i64_ok (by omega) (by omega), ?_⟩, fun c => ?_⟩⟩
    · rw [hlt, decide_eq_true c, if_pos rfl] at hb
      exact back _ ((i + j) / 2 + 1, j) (by refine ⟨?_, ?_, rfl, rfl⟩ <;> repeat' (first | exact trivial | (refine And.intro (Or.inl rfl) ?_) | (refine And.intro (Or.inr (Or.inl rfl)) ?_) | (refine And.intro (Or.inr (Or.inr (Or.inr ⟨rfl, rfl⟩))) ?_) | rfl | (refine And.intro (Or.inl ?_) ?_) | (refine And.intro ?_ ?_))) ⟨by dsimp only; omega, hj, hb⟩ (by dsimp only; omega)
    · rw [hlt, decide_eq_false c, if_neg (by decide)] at hb
      exact back _ (i, (i + j) / 2) (by refine ⟨?_, ?_, rfl, rfl⟩ <;> repeat' (first | exact trivial | (refine And.intro (Or.inl rfl) ?_) | (refine And.intro (Or.inr (Or.inl rfl)) ?_) | (refine And.intro (Or.inr (Or.inr (Or.inr ⟨rfl, rfl⟩))) ?_) | rfl | (refine And.intro (Or.inl ?_) ?_) | (refine And.intro ?_ ?_))) ⟨by dsimp only; omega, by dsimp only; omega, hb⟩ (by dsimp only; omega)
  · unfold bsF at hb
    rw [if_neg (by omega)] at hb
    rw [← hb]
    refine ⟨fun c => ?_, fun c => ?_⟩
    · obtain ⟨x, hxi⟩ : ∃ x, l[i]? = some x := get_of_lt (by omega)
      refine ⟨Int.natCast_nonneg i, x, hxi, _, c_findFR x p, fun _ => ?_⟩
      unfold hitAt
      rw [hxi]
    · unfold hitAt
      rw [List.getElem?_eq_none (by omega)]
theorem c_findR (l : List Rec) (p : Int × Int) (hl : l.length ≤ 1000000) : PC env 90 [⟨.sl RecordT, l⟩, ⟨.fnv, (52 : Nat)⟩, ⟨PlaceT, p⟩] (.tup (.int .i64) .bool) (((bsI plR l p : Nat) : Int), hitAt plR l p (bsI plR l p)) := by
  refine PC.of_PW (m := 2000) env_ok fn_90 rfl rfl rfl rfl (by kernel_rfl) ?_; intro hx; simp only [Try.f90]; simp only [go_sem, Nat.reduceBEq, ↓reduceIte, ↓reduceDIte, Nat.reduceAdd, Nat.reduceSub, Nat.reduceMul, Nat.reduceLeDiff, ← Bool.decide_and, ← Bool.decide_or, ← decide_not, Int.reduceLT, Int.reduceLE, Int.reduceToNat, Int.reduceNeg]
  exact ⟨_, c_bsR l p hl, fun _ => rfl⟩
theorem h_GrowR (n : Int) (h0 : 0 < n) (h1 : n ≤ 1000000) : HC env 105 [.nilsl, .iv (.int .i64) n] [] (.lsl 22 6 0 0) [(22, .arr RecordT (List.replicate n.toNat (zeroDen RecordT)))] := by
  refine HC.of_PW (m := 2000) env_ok fn_105 rfl rfl rfl rfl (by kernel_rfl) ?_; intro hx hbl; simp only [Try.f105]; simp only [go_sem, Nat.reduceBEq, ↓reduceIte, ↓reduceDIte, Nat.reduceAdd, Nat.reduceSub, Nat.reduceMul, Nat.reduceLeDiff, ← Bool.decide_and, ← Bool.decide_or, ← decide_not, Int.reduceLT, Int.reduceLE, Int.reduceToNat, Int.reduceNeg]
  refine ⟨fun h => absurd h (by omega), fun _ => ?_⟩
  simp only [Int.sub_self, Int.sub_zero]
  exact ⟨⟨by decide, by decide⟩, ⟨by omega, by omega⟩, fun _ => ⟨⟨h0, Int.le_trans h1 (by decide)⟩, Int.natCast_nonneg _, trivial⟩, fun h => absurd h0 h⟩
theorem c_ConcatR (ls : List (List Rec)) (h0 : 0 < sumLen ls) (h1 : sumLen ls ≤ 1000000) (hn : ls.length ≤ 1000000) : PC env 91 [⟨.sl (.sl RecordT), ls⟩] (.sl RecordT) ls.flatten := by
  refine PC.of_PW (m := 2000) env_ok fn_91 rfl rfl rfl rfl (by kernel_rfl) ?_; intro hx; simp only [Try.f91]; simp only [go_sem, Nat.reduceBEq, ↓reduceIte, ↓reduceDIte, Nat.reduceAdd, Nat.reduceSub, Nat.reduceMul, Nat.reduceLeDiff, ← Bool.decide_and, ← Bool.decide_or, ← decide_not, Int.reduceLT, Int.reduceLE, Int.reduceToNat, Int.reduceNeg]
  refine Walks.loopW (X := Nat) (fun k => ⟨[(11, .iv (.int .i64) (k : Int)), (10, .iv (.int .i64) (ls.length : Int)), (9, .iv (.sl (.sl RecordT)) ls), (0, .iv (.sl (.sl RecordT)) ls), (3, .iv (.int .i64) (sumLen (ls.take k) : Int))], []⟩)
    (fun k => k ≤ ls.length) (fun k => ls.length - k) 0 (by refine ⟨?_, ?_, rfl, rfl⟩ <;> repeat' (first | exact trivial | (refine And.intro (Or.inl rfl) ?_) | (refine And.intro (Or.inr (Or.inl rfl)) ?_) | (refine And.intro (Or.inr (Or.inr (Or.inr ⟨rfl, rfl⟩))) ?_) | rfl | (refine And.intro (Or.inl ?_) ?_) | (refine And.intro ?_ ?_))) (Nat.zero_le _) ?_
  intro k hk back
  refine PW_sound env_ok ⟨_, fn_91, rfl⟩ 2000 _ _ (by kernel_rfl) ?_; simp only [go_sem, Nat.reduceBEq, ↓reduceIte, ↓reduceDIte, Nat.reduceAdd, Nat.reduceSub, Nat.reduceMul, Nat.reduceLeDiff, ← Bool.decide_and, ← Bool.decide_or, ← decide_not, Int.reduceLT, Int.reduceLE, Int.reduceToNat, Int.reduceNeg]
  refine ⟨fun h => ?_, fun h => ?_⟩
  · obtain ⟨x, hxi⟩ : ∃ x, ls[k]? = some x := get_of_lt (by omega)
    have hs := sumLen_snoc hxi
    have ht := sumLen_take ls (k + 1)
    refine ⟨Int.natCast_nonneg k, x, hxi, i64_ok (by omega) (by omega), fun h' => absurd h' (by omega), fun _ => ⟨i64_ok (by omega) (by omega), ?_⟩⟩
    refine back _ (k + 1) ⟨⟨Or.inl rfl, Or.inl rfl, Or.inl rfl, Or.inl rfl, Or.inl ?_, trivial⟩, trivial, rfl, rfl⟩ (by omega) (by omega)
    rw [hs]
    rfl
  · have e : ls.take k = ls := List.take_of_length_le (by omega)
    rw [e]
    refine ⟨_, _, h_GrowR _ (by omega) (by omega), ?_⟩
    simp only [go_sem, Nat.reduceBEq, ↓reduceIte, ↓reduceDIte, Nat.reduceAdd, Nat.reduceSub, Nat.reduceMul, Nat.reduceLeDiff, ← Bool.decide_and, ← Bool.decide_or, ← decide_not, Int.reduceLT, Int.reduceLE, Int.reduceToNat, Int.reduceNeg]
    intro _
    refine Walks.loopW (X := Nat) (fun k => ⟨[(27, .iv (.int .i64) (k : Int)), (26, .iv (.int .i64) (ls.length : Int)), (25, .iv (.sl (.sl RecordT)) ls), (6, match k with | 0 => .lsl 2500022 6 0 0 | _ + 1 => .lfull 2500022)], [(2500022, .arr RecordT (match k with | 0 => List.replicate (sumLen ls) (zeroDen RecordT) | _ + 1 => (ls.take k).flatten))]⟩)
      (fun k => k ≤ ls.length) (fun k => ls.length - k) 0 (by refine ⟨?_, ?_, rfl, rfl⟩ <;> repeat' (first | exact trivial | (refine And.intro (Or.inl rfl) ?_) | (refine And.intro (Or.inr (Or.inl rfl)) ?_) | (refine And.intro (Or.inr (Or.inr (Or.inr ⟨rfl, rfl⟩))) ?_) | rfl | (refine And.intro (Or.inl ?_) ?_) | (refine And.intro ?_ ?_))) (Nat.zero_le _) ?_
    intro k hk back2
    cases k with
    | zero =>
      refine PW_sound env_ok ⟨_, fn_91, rfl⟩ 2000 _ _ (by kernel_rfl) ?_; simp only [go_sem, Nat.reduceBEq, ↓reduceIte, ↓reduceDIte, Nat.reduceAdd, Nat.reduceSub, Nat.reduceMul, Nat.reduceLeDiff, ← Bool.decide_and, ← Bool.decide_or, ← decide_not, Int.reduceLT, Int.reduceLE, Int.reduceToNat, Int.reduceNeg]
      refine ⟨fun h => ?_, fun h => ?_⟩
      · obtain ⟨x, hxi⟩ : ∃ x, ls[0]? = some x := get_of_lt (by omega)
        have hs : sumLen (ls.take 1) = sumLen (ls.take 0) + x.length := sumLen_snoc hxi
        have ht := sumLen_take ls 1
        refine ⟨x, hxi, ⟨by rw [List.length_replicate]; exact h0, by omega⟩, ⟨by decide, by decide⟩, back2 _ 1 ⟨⟨Or.inl rfl, Or.inl rfl, Or.inl rfl, Or.inl rfl, trivial⟩, ⟨?_, trivial⟩, rfl, rfl⟩ (by omega) (by omega)⟩
        refine congrArg (Blk.arr RecordT) ?_
        rw [show (1 : Nat) = 0 + 1 from rfl, take_snoc hxi]
        simp
      · exfalso
        have hl0 : ls = [] := List.length_eq_zero_iff.mp (by omega)
        subst hl0
        exact absurd h0 (by decide)
    | succ k =>
      refine PW_sound env_ok ⟨_, fn_91, rfl⟩ 2000 _ _ (by kernel_rfl) ?_; simp only [go_sem, Nat.reduceBEq, ↓reduceIte, ↓reduceDIte, Nat.reduceAdd, Nat.reduceSub, Nat.reduceMul, Nat.reduceLeDiff, ← Bool.decide_and, ← Bool.decide_or, ← decide_not, Int.reduceLT, Int.reduceLE, Int.reduceToNat, Int.reduceNeg]
      refine ⟨fun h => ?_, fun h => ?_⟩
      · obtain ⟨x, hxi⟩ : ∃ x, ls[k + 1]? = some x := get_of_lt (by omega)
        have hs := sumLen_snoc hxi
        have ht := sumLen_take ls (k + 1 + 1)
        have hf : (ls.take (k + 1)).flatten.length = sumLen (ls.take (k + 1)) := by rw [List.length_flatten]; rfl
        refine ⟨Int.natCast_nonneg _, x, hxi, by omega, i64_ok (by omega) (by omega), back2 _ (k + 1 + 1) ⟨⟨Or.inl rfl, Or.inl rfl, Or.inl rfl, Or.inl rfl, trivial⟩, ⟨?_, trivial⟩, rfl, rfl⟩ (by omega) (by omega)⟩
        refine congrArg (Blk.arr RecordT) ?_
        rw [take_snoc hxi]
        simp
      · have e2 : ls.take (k + 1) = ls := List.take_of_length_le (by omega)
        rw [e2]
theorem c_addR (l : List Rec) (o : Rec) (hl : l.length ≤ 100000) : PC env 77 [⟨.sl RecordT, l⟩, ⟨.fnv, (52 : Nat)⟩, ⟨RecordT, o⟩] (.sl RecordT) (insAt l (bsI plR l (plR o)) o) := by
  refine PC.of_PW (m := 2000) env_ok fn_77 rfl rfl rfl rfl (by kernel_rfl) ?_; intro hx; simp only [Try.f77]; simp only [go_sem, Nat.reduceBEq, ↓reduceIte, ↓reduceDIte, Nat.reduceAdd, Nat.reduceSub, Nat.reduceMul, Nat.reduceLeDiff, ← Bool.decide_and, ← Bool.decide_or, ← decide_not, Int.reduceLT, Int.reduceLE, Int.reduceToNat, Int.reduceNeg]
  have hb := bsI_le plR l (plR o)
  refine ⟨_, c_ofR o, fun _ => ⟨_, c_findR l _ (by omega), fun _ => ?_⟩⟩
  simp only [go_sem, Nat.reduceBEq, ↓reduceIte, ↓reduceDIte, Nat.reduceAdd, Nat.reduceSub, Nat.reduceMul, Nat.reduceLeDiff, ← Bool.decide_and, ← Bool.decide_or, ← decide_not, Int.reduceLT, Int.reduceLE, Int.reduceToNat, Int.reduceNeg]
  have hn : (bsI plR l (o.1, o.2.1) : Int) ≤ (l.length : Int) := by have := bsI_le plR l (o.1, o.2.1); omega
  have hs : sumLen [l.take (bsI plR l (o.1, o.2.1)), [o], l.drop (bsI plR l (o.1, o.2.1))] = l.length + 1 := by
    have := bsI_le plR l (o.1, o.2.1)
    simp [sumLen]
    omega
  refine ⟨⟨Int.natCast_nonneg _, hn⟩, ⟨Int.natCast_nonneg _, hn⟩, _, c_ConcatR _ (by rw [hs]; omega) (by rw [hs]; omega) (by simp), fun _ => ?_⟩
  simp only [insAt, List.flatten_cons, List.flatten_nil, List.append_nil, List.singleton_append]
  rfl
theorem c_ordR (l : List Rec) : PC env 58 [⟨.sl RecordT, l⟩, ⟨.fnv, (52 : Nat)⟩] .bool (sortedB plR l) := by
  refine PC.of_PW (m := 2000) env_ok fn_58 rfl rfl rfl rfl (by kernel_rfl) ?_; intro hx; simp only [Try.f58]; simp only [go_sem, Nat.reduceBEq, ↓reduceIte, ↓reduceDIte, Nat.reduceAdd, Nat.reduceSub, Nat.reduceMul, Nat.reduceLeDiff, ← Bool.decide_and, ← Bool.decide_or, ← decide_not, Int.reduceLT, Int.reduceLE, Int.reduceToNat, Int.reduceNeg]
  have hlen : l.length ≤ 9223372036854775807 := hx.1.1
  refine Walks.loopW (X := Nat) (fun i => ⟨[(5, .iv (.int .i64) (i : Int)), (0, .iv (.sl RecordT) l), (1, .iv .fnv (52 : Nat))], []⟩)
    (fun i => 1 ≤ i ∧ (i ≤ l.length ∨ i = 1) ∧ (List.range (i - 1)).all (okAt plR l) = true) (fun i => l.length - i) 1 (by refine ⟨?_, ?_, rfl, rfl⟩ <;> repeat' (first | exact trivial | (refine And.intro (Or.inl rfl) ?_) | (refine And.intro (Or.inr (Or.inl rfl)) ?_) | (refine And.intro (Or.inr (Or.inr (Or.inr ⟨rfl, rfl⟩))) ?_) | rfl | (refine And.intro (Or.inl ?_) ?_) | (refine And.intro ?_ ?_))) ⟨Nat.le_refl _, .inr rfl, rfl⟩ ?_
  intro i ⟨hi, hi2, hb⟩ back
  refine PW_sound env_ok ⟨_, fn_58, rfl⟩ 2000 _ _ (by kernel_rfl) ?_; simp only [go_sem, Nat.reduceBEq, ↓reduceIte, ↓reduceDIte, Nat.reduceAdd, Nat.reduceSub, Nat.reduceMul, Nat.reduceLeDiff, ← Bool.decide_and, ← Bool.decide_or, ← decide_not, Int.reduceLT, Int.reduceLE, Int.reduceToNat, Int.reduceNeg]
  refine ⟨fun h => ?_, fun h => ?_⟩
  · obtain ⟨y, hy⟩ : ∃ y, l[i]? = some y := get_of_lt (by omega)
    obtain ⟨x, hxi⟩ : ∃ x, l[i - 1]? = some x := get_of_lt (by omega)
    have e1 : ((i : Int) - 1).toNat = i - 1 := by omega
    have hok : okAt plR l (i - 1) = decide (cmpP (plR x) (plR y) < 0) := by
      unfold okAt
      rw [hxi, show i - 1 + 1 = i from by omega, hy]
    rw [e1]
    refine ⟨i64_ok (by omega) (by omega), by omega, x, hxi, _, c_ofR x, fun _ => ⟨Int.natCast_nonneg i, y, hy, _, c_ofR y, fun _ => ⟨_, c_comp _ _, fun _ => ⟨fun c => ?_, fun c => ⟨i64_ok (by omega) (by omega), ?_⟩⟩⟩⟩⟩
    · symm
      unfold sortedB
      rw [List.all_eq_false]
      refine ⟨i - 1, List.mem_range.2 (by omega), ?_⟩
      rw [hok]
      exact fun e => absurd (of_decide_eq_true e) (Int.not_lt.2 c)
    · refine back _ (i + 1) (by refine ⟨?_, ?_, rfl, rfl⟩ <;> repeat' (first | exact trivial | (refine And.intro (Or.inl rfl) ?_) | (refine And.intro (Or.inr (Or.inl rfl)) ?_) | (refine And.intro (Or.inr (Or.inr (Or.inr ⟨rfl, rfl⟩))) ?_) | rfl | (refine And.intro (Or.inl ?_) ?_) | (refine And.intro ?_ ?_))) ⟨by omega, by omega, ?_⟩ (by omega)
      rw [show i + 1 - 1 = (i - 1) + 1 from by omega, List.range_succ, List.all_append, hb]
      simp only [List.all_cons, List.all_nil, Bool.and_true, Bool.true_and]
      rw [hok]
      exact decide_eq_true (Int.not_le.1 c)
  · unfold sortedB
    rcases hi2 with h2 | h2
    · rw [show l.length - 1 = i - 1 from by omega, hb]
    · subst h2
      rw [show l.length - 1 = 0 from by omega]
      rfl
end Go.Proofs.Ytnncphnpajkojaa
namespace Go.Proofs.Ytnncphnpajkojaa
set_option maxHeartbeats 4000000
set_option maxRecDepth 100000

def lst (L : L8) : List Int := [L.1, L.2.1, L.2.2.1, L.2.2.2.1, L.2.2.2.2.1, L.2.2.2.2.2.1, L.2.2.2.2.2.2.1, L.2.2.2.2.2.2.2]
def getL (L : L8) (i : Int) : Int := (lst L).getD i.toNat 0
def setL (L : L8) (i y : Int) : L8 := (if i = 0 then y else L.1, if i = 1 then y else L.2.1, if i = 2 then y else L.2.2.1, if i = 3 then y else L.2.2.2.1, if i = 4 then y else L.2.2.2.2.1, if i = 5 then y else L.2.2.2.2.2.1, if i = 6 then y else L.2.2.2.2.2.2.1, if i = 7 then y else L.2.2.2.2.2.2.2)
theorem lst_at (L : L8) {i : Int} (h0 : 0 ≤ i) (h7 : i ≤ 7) : (lst L)[i.toNat]? = some (getL L i) := by
  have h : i = 0 ∨ i = 1 ∨ i = 2 ∨ i = 3 ∨ i = 4 ∨ i = 5 ∨ i = 6 ∨ i = 7 := by omega
  rcases h with rfl | rfl | rfl | rfl | rfl | rfl | rfl | rfl <;> rfl
theorem get_set (L : L8) {i : Int} (y : Int) (h0 : 0 ≤ i) (h7 : i ≤ 7) : getL (setL L i y) i = y := by
  have h : i = 0 ∨ i = 1 ∨ i = 2 ∨ i = 3 ∨ i = 4 ∨ i = 5 ∨ i = 6 ∨ i = 7 := by omega
  rcases h with rfl | rfl | rfl | rfl | rfl | rfl | rfl | rfl <;> rfl
def learnS (u : Usr) (r : Rec) : Usr × Int × Int :=
  if rightR (r.1, 1, r.2.2) = true then
    if 400 ≤ u.1.length ∨ 1000000 ≤ getL u.2.2 r.1 then (u, 0, 2)
    else (if u.2.1.any (fun o => meantB o (r.1, getL u.2.2 r.1 + 1, r.2.2)) then (u.1, u.2.1, setL u.2.2 r.1 (getL u.2.2 r.1 + 1)) else (insAt u.1 (bsI plR u.1 (r.1, getL u.2.2 r.1 + 1)) (r.1, getL u.2.2 r.1 + 1, r.2.2), u.2.1, setL u.2.2 r.1 (getL u.2.2 r.1 + 1)), getL u.2.2 r.1 + 1, 0)
  else (u, 0, 240)
theorem set_at (L : L8) {i : Int} (y : Int) (h0 : 0 ≤ i) (h7 : i ≤ 7) : (lst (setL L i y))[i.toNat]? = some y := by
  rw [lst_at _ h0 h7, get_set L y h0 h7]
theorem getL_ge {L : L8} (h : (Ty.st (.pair (.int .i64) (.pair (.int .i64) (.pair (.int .i64) (.pair (.int .i64) (.pair (.int .i64) (.pair (.int .i64) (.pair (.int .i64) (.int .i64))))))))).ok L) {i : Int} (h0 : 0 ≤ i) (h7 : i ≤ 7) : -9223372036854775808 ≤ getL L i := by
  obtain ⟨e0, e1, e2, e3, e4, e5, e6, e7⟩ := h
  have h : i = 0 ∨ i = 1 ∨ i = 2 ∨ i = 3 ∨ i = 4 ∨ i = 5 ∨ i = 6 ∨ i = 7 := by omega
  rcases h with rfl | rfl | rfl | rfl | rfl | rfl | rfl | rfl
  · exact e0.1
  · exact e1.1
  · exact e2.1
  · exact e3.1
  · exact e4.1
  · exact e5.1
  · exact e6.1
  · exact e7.1
theorem c_Learn (u : Usr) (r : Rec) : PC env 42 [⟨UserT, u⟩, ⟨RecordT, r⟩] (.tup UserT (.tup (.int .i64) (.int .i64))) (learnS u r) := by
  refine PC.of_PW (m := 2000) env_ok fn_42 rfl rfl rfl rfl (by kernel_rfl) ?_; intro hx; simp only [Try.f42]; simp only [go_sem, Nat.reduceBEq, ↓reduceIte, ↓reduceDIte, Nat.reduceAdd, Nat.reduceSub, Nat.reduceMul, Nat.reduceLeDiff, ← Bool.decide_and, ← Bool.decide_or, ← decide_not, Int.reduceLT, Int.reduceLE, Int.reduceToNat, Int.reduceNeg]
  refine ⟨_, c_rightR (r.1, 1, r.2.2), ?_⟩
  unfold learnS
  cases hr : rightR (r.1, 1, r.2.2)
  · simp only [go_sem, Nat.reduceBEq, ↓reduceIte, ↓reduceDIte, Nat.reduceAdd, Nat.reduceSub, Nat.reduceMul, Nat.reduceLeDiff, ← Bool.decide_and, ← Bool.decide_or, ← decide_not, Int.reduceLT, Int.reduceLE, Int.reduceToNat, Int.reduceNeg]
    rfl
  have hr' := hr
  simp only [rightR, Bool.and_eq_true, decide_eq_true_eq] at hr'
  obtain ⟨⟨⟨hd0, hd7⟩, _⟩, _⟩ := hr'
  simp only [go_sem, Nat.reduceBEq, ↓reduceIte, ↓reduceDIte, Nat.reduceAdd, Nat.reduceSub, Nat.reduceMul, Nat.reduceLeDiff, ← Bool.decide_and, ← Bool.decide_or, ← decide_not, Int.reduceLT, Int.reduceLE, Int.reduceToNat, Int.reduceNeg]
  refine ⟨fun h1 => ⟨⟨hd0, by omega⟩, getL u.2.2 r.1, lst_at u.2.2 hd0 hd7, fun h2 => ?_, fun h2 => ?_⟩, fun h1 => ?_⟩
  · rw [if_pos (.inr h2)]
  · rw [if_neg (by omega)]
    have hx1 := hx.1
    have hL : -9223372036854775808 ≤ getL u.2.2 r.1 := getL_ge hx1.2.2 hd0 hd7
    refine ⟨⟨hd0, by omega⟩, getL u.2.2 r.1, lst_at u.2.2 hd0 hd7, i64_ok (by omega) (by omega), ?_⟩
    refine ⟨⟨hd0, by omega⟩, ⟨hd0, by omega⟩, getL u.2.2 r.1 + 1, set_at u.2.2 _ hd0 hd7, _, c_forms, fun _ => ⟨_, c_meant u.2.1 (r.1, getL u.2.2 r.1 + 1, r.2.2), ?_⟩⟩
    cases hm : u.2.1.any (fun o => meantB o (r.1, getL u.2.2 r.1 + 1, r.2.2))
    · simp only [go_sem, Nat.reduceBEq, ↓reduceIte, ↓reduceDIte, Nat.reduceAdd, Nat.reduceSub, Nat.reduceMul, Nat.reduceLeDiff, ← Bool.decide_and, ← Bool.decide_or, ← decide_not, Int.reduceLT, Int.reduceLE, Int.reduceToNat, Int.reduceNeg]
      refine ⟨_, c_addR u.1 _ (by omega), fun _ => ?_⟩
      rfl
    · simp only [go_sem, Nat.reduceBEq, ↓reduceIte, ↓reduceDIte, Nat.reduceAdd, Nat.reduceSub, Nat.reduceMul, Nat.reduceLeDiff, ← Bool.decide_and, ← Bool.decide_or, ← decide_not, Int.reduceLT, Int.reduceLE, Int.reduceToNat, Int.reduceNeg]
      rfl
  · rw [if_pos (.inl (by omega))]
theorem filter_step {α : Type} {xs : List α} {k : Nat} {x : α} {p : α → Bool} (h : xs[k]? = some x) : (xs.take (k + 1)).filter p = (xs.take k).filter p ++ (if p x then [x] else []) := by
  rw [take_snoc h, List.filter_append]
  congr 1
  cases hp : p x <;> simp [hp]
def forgetS (u : Usr) (o : Ord') : Usr × Int :=
  if rightO (o.1, 1, o.2.2) = true then
    if 400 ≤ u.2.1.length ∨ 1000000 ≤ getL u.2.2 o.1 then (u, 2)
    else ((u.1.filter (fun r => !(meantB (o.1, getL u.2.2 o.1 + 1, o.2.2) r)), insAt u.2.1 (bsI plO u.2.1 (o.1, getL u.2.2 o.1 + 1)) (o.1, getL u.2.2 o.1 + 1, o.2.2), setL u.2.2 o.1 (getL u.2.2 o.1 + 1)), 0)
  else (u, 240)
def l8Cells (L : L8) : List PV := [.iv (.int .i64) L.1, .iv (.int .i64) L.2.1, .iv (.int .i64) L.2.2.1, .iv (.int .i64) L.2.2.2.1, .iv (.int .i64) L.2.2.2.2.1, .iv (.int .i64) L.2.2.2.2.2.1, .iv (.int .i64) L.2.2.2.2.2.2.1, .iv (.int .i64) L.2.2.2.2.2.2.2]
theorem c_Forget (u : Usr) (o : Ord') (hu : u.1.length ≤ 1000000) : PC env 11 [⟨UserT, u⟩, ⟨OrderT, o⟩] (.tup UserT (.int .i64)) (forgetS u o) := by
  refine PC.of_PW (m := 2000) env_ok fn_11 rfl rfl rfl rfl (by kernel_rfl) ?_; intro hx; simp only [Try.f11]; simp only [go_sem, Nat.reduceBEq, ↓reduceIte, ↓reduceDIte, Nat.reduceAdd, Nat.reduceSub, Nat.reduceMul, Nat.reduceLeDiff, ← Bool.decide_and, ← Bool.decide_or, ← decide_not, Int.reduceLT, Int.reduceLE, Int.reduceToNat, Int.reduceNeg]
  refine ⟨_, c_forms, fun _ => ⟨_, c_rightO (o.1, 1, o.2.2), ?_⟩⟩
  unfold forgetS
  cases hr : rightO (o.1, 1, o.2.2)
  · simp only [go_sem, Nat.reduceBEq, ↓reduceIte, ↓reduceDIte, Nat.reduceAdd, Nat.reduceSub, Nat.reduceMul, Nat.reduceLeDiff, ← Bool.decide_and, ← Bool.decide_or, ← decide_not, Int.reduceLT, Int.reduceLE, Int.reduceToNat, Int.reduceNeg]
    rfl
  have hr' := hr
  simp only [rightO, Bool.and_eq_true, decide_eq_true_eq] at hr'
  obtain ⟨⟨⟨hd0, hd7⟩, _⟩, _⟩ := hr'
  simp only [go_sem, Nat.reduceBEq, ↓reduceIte, ↓reduceDIte, Nat.reduceAdd, Nat.reduceSub, Nat.reduceMul, Nat.reduceLeDiff, ← Bool.decide_and, ← Bool.decide_or, ← decide_not, Int.reduceLT, Int.reduceLE, Int.reduceToNat, Int.reduceNeg]
  have hx1 := hx.1
  have hL : -9223372036854775808 ≤ getL u.2.2 o.1 := getL_ge hx1.2.2 hd0 hd7
  refine ⟨fun h1 => ⟨⟨hd0, by omega⟩, getL u.2.2 o.1, lst_at u.2.2 hd0 hd7, fun h2 => ?_, fun h2 => ?_⟩, fun h1 => ?_⟩
  · rw [if_pos (.inr h2)]
  · rw [if_neg (by omega)]
    refine ⟨⟨hd0, by omega⟩, getL u.2.2 o.1, lst_at u.2.2 hd0 hd7, i64_ok (by omega) (by omega), ⟨hd0, by omega⟩, ⟨hd0, by omega⟩, getL u.2.2 o.1 + 1, set_at u.2.2 _ hd0 hd7, _, c_addO u.2.1 _ (by omega), fun _ => ?_⟩
    have hlen : u.1.length ≤ 9223372036854775807 := hx1.1.1
    refine Walks.loopW (X := Nat × List Rec) (fun z => match z.2 with
      | [] => ⟨[(7, .nilsl), (52, .iv (.int .i64) (z.1 : Int)), (51, .iv (.int .i64) (u.1.length : Int)), (50, .iv (.sl RecordT) u.1), (6, .iv MpT formsD), (2, .ref 2 0), (3, .ref 3 0), (4, .ref 4 0)], [(2, .box [.iv (.sl RecordT) u.1, .iv (.sl OrderT) (insAt u.2.1 (bsI plO u.2.1 (o.1, getL u.2.2 o.1 + 1)) (o.1, getL u.2.2 o.1 + 1, o.2.2)), .iv (.int .i64) (setL u.2.2 o.1 (getL u.2.2 o.1 + 1)).1, .iv (.int .i64) (setL u.2.2 o.1 (getL u.2.2 o.1 + 1)).2.1, .iv (.int .i64) (setL u.2.2 o.1 (getL u.2.2 o.1 + 1)).2.2.1, .iv (.int .i64) (setL u.2.2 o.1 (getL u.2.2 o.1 + 1)).2.2.2.1, .iv (.int .i64) (setL u.2.2 o.1 (getL u.2.2 o.1 + 1)).2.2.2.2.1, .iv (.int .i64) (setL u.2.2 o.1 (getL u.2.2 o.1 + 1)).2.2.2.2.2.1, .iv (.int .i64) (setL u.2.2 o.1 (getL u.2.2 o.1 + 1)).2.2.2.2.2.2.1, .iv (.int .i64) (setL u.2.2 o.1 (getL u.2.2 o.1 + 1)).2.2.2.2.2.2.2]), (3, .box [.iv (.int .i64) o.1, .iv (.int .i64) (getL u.2.2 o.1 + 1), .iv (.int .i64) o.2.2.1, .iv (.int .i64) o.2.2.2.1, .iv .str o.2.2.2.2.1, .iv (.int .i64) o.2.2.2.2.2.1, .iv (.int .i64) o.2.2.2.2.2.2]), (4, .box [.nilsl, .nilsl, .iv (.int .i64) (0 : Int), .iv (.int .i64) (0 : Int), .iv (.int .i64) (0 : Int), .iv (.int .i64) (0 : Int), .iv (.int .i64) (0 : Int), .iv (.int .i64) (0 : Int), .iv (.int .i64) (0 : Int), .iv (.int .i64) (0 : Int)])]⟩
      | a :: t => ⟨[(7, .lfull 65), (52, .iv (.int .i64) (z.1 : Int)), (51, .iv (.int .i64) (u.1.length : Int)), (50, .iv (.sl RecordT) u.1), (6, .iv MpT formsD), (2, .ref 2 0), (3, .ref 3 0), (4, .ref 4 0)], [(65, .arr RecordT (a :: t)), (2, .box [.iv (.sl RecordT) u.1, .iv (.sl OrderT) (insAt u.2.1 (bsI plO u.2.1 (o.1, getL u.2.2 o.1 + 1)) (o.1, getL u.2.2 o.1 + 1, o.2.2)), .iv (.int .i64) (setL u.2.2 o.1 (getL u.2.2 o.1 + 1)).1, .iv (.int .i64) (setL u.2.2 o.1 (getL u.2.2 o.1 + 1)).2.1, .iv (.int .i64) (setL u.2.2 o.1 (getL u.2.2 o.1 + 1)).2.2.1, .iv (.int .i64) (setL u.2.2 o.1 (getL u.2.2 o.1 + 1)).2.2.2.1, .iv (.int .i64) (setL u.2.2 o.1 (getL u.2.2 o.1 + 1)).2.2.2.2.1, .iv (.int .i64) (setL u.2.2 o.1 (getL u.2.2 o.1 + 1)).2.2.2.2.2.1, .iv (.int .i64) (setL u.2.2 o.1 (getL u.2.2 o.1 + 1)).2.2.2.2.2.2.1, .iv (.int .i64) (setL u.2.2 o.1 (getL u.2.2 o.1 + 1)).2.2.2.2.2.2.2]), (3, .box [.iv (.int .i64) o.1, .iv (.int .i64) (getL u.2.2 o.1 + 1), .iv (.int .i64) o.2.2.1, .iv (.int .i64) o.2.2.2.1, .iv .str o.2.2.2.2.1, .iv (.int .i64) o.2.2.2.2.2.1, .iv (.int .i64) o.2.2.2.2.2.2]), (4, .box [.nilsl, .nilsl, .iv (.int .i64) (0 : Int), .iv (.int .i64) (0 : Int), .iv (.int .i64) (0 : Int), .iv (.int .i64) (0 : Int), .iv (.int .i64) (0 : Int), .iv (.int .i64) (0 : Int), .iv (.int .i64) (0 : Int), .iv (.int .i64) (0 : Int)])]⟩)
      (fun z => z.1 ≤ u.1.length ∧ z.2 = (u.1.take z.1).filter (fun r => !(meantB (o.1, getL u.2.2 o.1 + 1, o.2.2) r))) (fun z => u.1.length - z.1) (0, []) (by refine ⟨?_, ?_, rfl, rfl⟩ <;> repeat' (first | exact trivial | (refine And.intro (Or.inl rfl) ?_) | (refine And.intro (Or.inr (Or.inl rfl)) ?_) | (refine And.intro (Or.inr (Or.inr (Or.inr ⟨rfl, rfl⟩))) ?_) | rfl | (refine And.intro (Or.inl ?_) ?_) | (refine And.intro ?_ ?_))) ⟨Nat.zero_le _, rfl⟩ ?_
    intro ⟨k, fl⟩ ⟨hk, hfl⟩ back
    dsimp only at hk hfl
    cases fl with
    | nil =>
      refine PW_sound env_ok ⟨_, fn_11, rfl⟩ 2000 _ _ (by kernel_rfl) ?_; simp only [go_sem, Nat.reduceBEq, ↓reduceIte, ↓reduceDIte, Nat.reduceAdd, Nat.reduceSub, Nat.reduceMul, Nat.reduceLeDiff, ← Bool.decide_and, ← Bool.decide_or, ← decide_not, Int.reduceLT, Int.reduceLE, Int.reduceToNat, Int.reduceNeg]
      refine ⟨fun h => ?_, fun h => ?_⟩
      · obtain ⟨x, hxi⟩ : ∃ x, u.1[k]? = some x := get_of_lt (by omega)
        refine ⟨Int.natCast_nonneg k, x, hxi, _, c_meant [(o.1, getL u.2.2 o.1 + 1, o.2.2)] x, ?_⟩
        have ha : [(o.1, getL u.2.2 o.1 + 1, o.2.2)].any (fun o' => meantB o' x) = meantB (o.1, getL u.2.2 o.1 + 1, o.2.2) x := by simp
        rw [ha]
        cases hm : meantB (o.1, getL u.2.2 o.1 + 1, o.2.2) x
        · simp only [go_sem, Nat.reduceBEq, ↓reduceIte, ↓reduceDIte, Nat.reduceAdd, Nat.reduceSub, Nat.reduceMul, Nat.reduceLeDiff, ← Bool.decide_and, ← Bool.decide_or, ← decide_not, Int.reduceLT, Int.reduceLE, Int.reduceToNat, Int.reduceNeg]
          exact ⟨i64_ok (by omega) (by omega), back _ (k + 1, [x]) (by refine ⟨?_, ?_, rfl, rfl⟩ <;> repeat' (first | exact trivial | (refine And.intro (Or.inl rfl) ?_) | (refine And.intro (Or.inr (Or.inl rfl)) ?_) | (refine And.intro (Or.inr (Or.inr (Or.inr ⟨rfl, rfl⟩))) ?_) | rfl | (refine And.intro (Or.inl ?_) ?_) | (refine And.intro ?_ ?_))) ⟨by dsimp only; omega, by dsimp only; have hf := filter_step (p := fun r => !(meantB (o.1, getL u.2.2 o.1 + 1, o.2.2) r)) hxi; rw [hf, ← hfl]; simp [hm]⟩ (by dsimp only; omega)⟩
        · simp only [go_sem, Nat.reduceBEq, ↓reduceIte, ↓reduceDIte, Nat.reduceAdd, Nat.reduceSub, Nat.reduceMul, Nat.reduceLeDiff, ← Bool.decide_and, ← Bool.decide_or, ← decide_not, Int.reduceLT, Int.reduceLE, Int.reduceToNat, Int.reduceNeg]
          exact ⟨i64_ok (by omega) (by omega), back _ (k + 1, []) (by refine ⟨?_, ?_, rfl, rfl⟩ <;> repeat' (first | exact trivial | (refine And.intro (Or.inl rfl) ?_) | (refine And.intro (Or.inr (Or.inl rfl)) ?_) | (refine And.intro (Or.inr (Or.inr (Or.inr ⟨rfl, rfl⟩))) ?_) | rfl | (refine And.intro (Or.inl ?_) ?_) | (refine And.intro ?_ ?_))) ⟨by dsimp only; omega, by dsimp only; have hf := filter_step (p := fun r => !(meantB (o.1, getL u.2.2 o.1 + 1, o.2.2) r)) hxi; rw [hf, ← hfl]; simp [hm]⟩ (by dsimp only; omega)⟩
      · have e : u.1.take k = u.1 := List.take_of_length_le (by omega)
        rw [e] at hfl
        rw [← hfl]
    | cons a t =>
      have hle : (a :: t).length ≤ u.1.length := by
        rw [hfl]
        exact Nat.le_trans (List.length_filter_le ..) (by rw [List.length_take]; omega)
      rw [List.length_cons] at hle
      refine PW_sound env_ok ⟨_, fn_11, rfl⟩ 2000 _ _ (by kernel_rfl) ?_; simp only [go_sem, Nat.reduceBEq, ↓reduceIte, ↓reduceDIte, Nat.reduceAdd, Nat.reduceSub, Nat.reduceMul, Nat.reduceLeDiff, ← Bool.decide_and, ← Bool.decide_or, ← decide_not, Int.reduceLT, Int.reduceLE, Int.reduceToNat, Int.reduceNeg]
      refine ⟨fun h => ?_, fun h => ?_⟩
      · obtain ⟨x, hxi⟩ : ∃ x, u.1[k]? = some x := get_of_lt (by omega)
        refine ⟨Int.natCast_nonneg k, x, hxi, _, c_meant [(o.1, getL u.2.2 o.1 + 1, o.2.2)] x, ?_⟩
        have ha : [(o.1, getL u.2.2 o.1 + 1, o.2.2)].any (fun o' => meantB o' x) = meantB (o.1, getL u.2.2 o.1 + 1, o.2.2) x := by simp
        rw [ha]
        cases hm : meantB (o.1, getL u.2.2 o.1 + 1, o.2.2) x
        · simp only [go_sem, Nat.reduceBEq, ↓reduceIte, ↓reduceDIte, Nat.reduceAdd, Nat.reduceSub, Nat.reduceMul, Nat.reduceLeDiff, ← Bool.decide_and, ← Bool.decide_or, ← decide_not, Int.reduceLT, Int.reduceLE, Int.reduceToNat, Int.reduceNeg]
          exact ⟨by omega, i64_ok (by omega) (by omega), back _ (k + 1, a :: (t ++ [x])) (by refine ⟨?_, ?_, rfl, rfl⟩ <;> repeat' (first | exact trivial | (refine And.intro (Or.inl rfl) ?_) | (refine And.intro (Or.inr (Or.inl rfl)) ?_) | (refine And.intro (Or.inr (Or.inr (Or.inr ⟨rfl, rfl⟩))) ?_) | rfl | (refine And.intro (Or.inl ?_) ?_) | (refine And.intro ?_ ?_))) ⟨by dsimp only; omega, by dsimp only; have hf := filter_step (p := fun r => !(meantB (o.1, getL u.2.2 o.1 + 1, o.2.2) r)) hxi; rw [hf, ← hfl]; simp [hm]⟩ (by dsimp only; omega)⟩
        · simp only [go_sem, Nat.reduceBEq, ↓reduceIte, ↓reduceDIte, Nat.reduceAdd, Nat.reduceSub, Nat.reduceMul, Nat.reduceLeDiff, ← Bool.decide_and, ← Bool.decide_or, ← decide_not, Int.reduceLT, Int.reduceLE, Int.reduceToNat, Int.reduceNeg]
          exact ⟨i64_ok (by omega) (by omega), back _ (k + 1, a :: t) (by refine ⟨?_, ?_, rfl, rfl⟩ <;> repeat' (first | exact trivial | (refine And.intro (Or.inl rfl) ?_) | (refine And.intro (Or.inr (Or.inl rfl)) ?_) | (refine And.intro (Or.inr (Or.inr (Or.inr ⟨rfl, rfl⟩))) ?_) | rfl | (refine And.intro (Or.inl ?_) ?_) | (refine And.intro ?_ ?_))) ⟨by dsimp only; omega, by dsimp only; have hf := filter_step (p := fun r => !(meantB (o.1, getL u.2.2 o.1 + 1, o.2.2) r)) hxi; rw [hf, ← hfl]; simp [hm]⟩ (by dsimp only; omega)⟩
      · have e : u.1.take k = u.1 := List.take_of_length_le (by omega)
        rw [e] at hfl
        rw [← hfl]
  · rw [if_pos (.inl (by omega))]
end Go.Proofs.Ytnncphnpajkojaa
namespace Go.Proofs.Ytnncphnpajkojaa
set_option maxHeartbeats 4000000
set_option maxRecDepth 100000

def aftD (v k : Int) : Int := if k < 0 ∨ 64 ≤ k then 0 else v / 2 ^ k.toNat
theorem c_after (v k : Int) (h0 : 0 ≤ v) : PC env 78 [⟨.int .i64, v⟩, ⟨.int .i64, k⟩] (.int .i64) (aftD v k) := by
  refine PC.of_PW (m := 2000) env_ok fn_78 rfl rfl rfl rfl (by kernel_rfl) ?_; intro hx; simp only [Try.f78]; simp only [go_sem, Nat.reduceBEq, ↓reduceIte, ↓reduceDIte, Nat.reduceAdd, Nat.reduceSub, Nat.reduceMul, Nat.reduceLeDiff, ← Bool.decide_and, ← Bool.decide_or, ← decide_not, Int.reduceLT, Int.reduceLE, Int.reduceToNat, Int.reduceNeg]
  unfold aftD
  refine ⟨fun h1 => ⟨fun h2 => ?_, fun h2 => ⟨⟨h0, by omega, by first | omega | (simp only [IntKind.bits]; omega)⟩, ?_⟩⟩, fun h1 => ?_⟩
  · rw [if_pos (.inr h2)]
  · rw [if_neg (by omega)]
  · rw [if_pos (.inl h1)]
def atD (t : Int × Int) (e : Int) : Int × Int := if e < t.1 ∨ 10000 < e then (0, 120) else (aftD t.2 (e - t.1), 0)
theorem c_At (t : Int × Int) (e : Int) (h0 : 0 ≤ t.2) (h1 : 0 ≤ t.1) (h2 : t.1 ≤ 10000) : PC env 45 [⟨TallyT, t⟩, ⟨.int .i64, e⟩] (.tup (.int .i64) (.int .i64)) (atD t e) := by
  refine PC.of_PW (m := 2000) env_ok fn_45 rfl rfl rfl rfl (by kernel_rfl) ?_; intro hx; simp only [Try.f45]; simp only [go_sem, Nat.reduceBEq, ↓reduceIte, ↓reduceDIte, Nat.reduceAdd, Nat.reduceSub, Nat.reduceMul, Nat.reduceLeDiff, ← Bool.decide_and, ← Bool.decide_or, ← decide_not, Int.reduceLT, Int.reduceLE, Int.reduceToNat, Int.reduceNeg]
  unfold atD
  refine ⟨fun h3 => ⟨fun h4 => ?_, fun h4 => ⟨i64_ok (by omega) (by omega), _, c_after _ _ h0, fun _ => ?_⟩⟩, fun h3 => ?_⟩
  · rw [if_pos (.inr h4)]
  · rw [if_neg (by omega)]
  · rw [if_pos (.inl h3)]
def cntR (r : Rec) (e : Int) : Int := if r.2.2.1 < e then (atD (r.2.2.1, r.2.2.2.2.2) e).1 else r.2.2.2.2.2
def valR (w : List UInt8) (e : Int) (r : Rec) : Int := if r.2.2.2.1 = w then cntR r e else 0
def countS (l : List Rec) (w : List UInt8) (e : Int) : Int := (l.map (valR w e)).sum
def tame (l : List Rec) : Prop := l.length ≤ 1000 ∧ ∀ r, r ∈ l → 0 ≤ r.2.2.1 ∧ r.2.2.1 ≤ 10000 ∧ 0 ≤ r.2.2.2.2.2 ∧ r.2.2.2.2.2 ≤ 1000
theorem aftD_le {v k : Int} (h0 : 0 ≤ v) : 0 ≤ aftD v k ∧ aftD v k ≤ v := by
  unfold aftD
  split
  · omega
  · have hp : (0 : Int) < 2 ^ k.toNat := Int.pow_pos (by decide)
    exact ⟨Int.ediv_nonneg h0 (by omega), Int.ediv_le_self _ h0⟩
theorem cntR_le {r : Rec} {e : Int} (h0 : 0 ≤ r.2.2.2.2.2) : 0 ≤ cntR r e ∧ cntR r e ≤ r.2.2.2.2.2 := by
  unfold cntR atD
  split
  · split
    · dsimp only; omega
    · exact aftD_le h0
  · omega
theorem valR_le {r : Rec} {w : List UInt8} {e : Int} (h0 : 0 ≤ r.2.2.2.2.2) : 0 ≤ valR w e r ∧ valR w e r ≤ r.2.2.2.2.2 := by
  unfold valR
  split
  · exact cntR_le h0
  · omega
theorem countS_step {l : List Rec} {k : Nat} {x : Rec} {w : List UInt8} {e : Int} (h : l[k]? = some x) : countS (l.take (k + 1)) w e = countS (l.take k) w e + valR w e x := by
  unfold countS
  rw [take_snoc h, List.map_append, List.sum_append]
  simp
theorem countS_le {l : List Rec} {w : List UInt8} {e : Int} (h : ∀ r, r ∈ l → 0 ≤ r.2.2.2.2.2 ∧ r.2.2.2.2.2 ≤ 1000) : 0 ≤ countS l w e ∧ countS l w e ≤ 1000 * l.length := by
  induction l with
  | nil => exact ⟨Int.le_refl _, Int.le_refl _⟩
  | cons x l ih =>
    have h1 := ih (fun r hr => h r (List.mem_cons_of_mem _ hr))
    have h2 := h x (List.mem_cons_self ..)
    have h3 := valR_le (w := w) (e := e) h2.1
    have e1 : countS (x :: l) w e = valR w e x + countS l w e := by unfold countS; rw [List.map_cons, List.sum_cons]
    rw [e1, List.length_cons]
    push_cast
    omega
theorem c_Count (u : Usr) (w : List UInt8) (e : Int) (ht : tame u.1) : PC env 21 [⟨UserT, u⟩, ⟨.str, w⟩, ⟨.int .i64, e⟩] (.int .i64) (countS u.1 w e) := by
  refine PC.of_PW (m := 2000) env_ok fn_21 rfl rfl rfl rfl (by kernel_rfl) ?_; intro hx; simp only [Try.f21]; simp only [go_sem, Nat.reduceBEq, ↓reduceIte, ↓reduceDIte, Nat.reduceAdd, Nat.reduceSub, Nat.reduceMul, Nat.reduceLeDiff, ← Bool.decide_and, ← Bool.decide_or, ← decide_not, Int.reduceLT, Int.reduceLE, Int.reduceToNat, Int.reduceNeg]
  have hlen := ht.1
  refine Walks.loopW (X := Nat) (fun k => ⟨[(14, .iv (.int .i64) (k : Int)), (13, .iv (.int .i64) (u.1.length : Int)), (12, .iv (.sl RecordT) u.1), (7, .iv (.int .i64) (countS (u.1.take k) w e)), (1, .iv .str w), (2, .iv (.int .i64) e)], []⟩)
    (fun k => k ≤ u.1.length) (fun k => u.1.length - k) 0 (by refine ⟨?_, ?_, rfl, rfl⟩ <;> repeat' (first | exact trivial | (refine And.intro (Or.inl rfl) ?_) | (refine And.intro (Or.inr (Or.inl rfl)) ?_) | (refine And.intro (Or.inr (Or.inr (Or.inr ⟨rfl, rfl⟩))) ?_) | rfl | (refine And.intro (Or.inl ?_) ?_) | (refine And.intro ?_ ?_))) (Nat.zero_le _) ?_
  intro k hk back
  refine PW_sound env_ok ⟨_, fn_21, rfl⟩ 2000 _ _ (by kernel_rfl) ?_; simp only [go_sem, Nat.reduceBEq, ↓reduceIte, ↓reduceDIte, Nat.reduceAdd, Nat.reduceSub, Nat.reduceMul, Nat.reduceLeDiff, ← Bool.decide_and, ← Bool.decide_or, ← decide_not, Int.reduceLT, Int.reduceLE, Int.reduceToNat, Int.reduceNeg]
  refine ⟨fun h => ?_, fun h => ?_⟩
  · obtain ⟨x, hxi⟩ : ∃ x, u.1[k]? = some x := get_of_lt (by omega)
    have hs := countS_step (w := w) (e := e) hxi
    have hx2 := ht.2 x (List.mem_of_getElem? hxi)
    have hb := countS_le (l := u.1.take k) (w := w) (e := e) (fun r hr => (ht.2 r (List.mem_of_mem_take hr)).2.2)
    have hbl : (u.1.take k).length ≤ 1000 := by rw [List.length_take]; omega
    have hv := valR_le (w := w) (e := e) hx2.2.2.1
    refine ⟨Int.natCast_nonneg k, x, hxi, ?_⟩
    refine ⟨fun c => ?_, fun c => ⟨fun d => ⟨_, c_At (x.2.2.1, x.2.2.2.2.2) e hx2.2.2.1 hx2.1 hx2.2.1, fun _ => ?_⟩, fun d => ?_⟩⟩
    · have hz : valR w e x = 0 := by unfold valR; rw [if_neg c]
      refine ⟨i64_ok (by omega) (by omega), back _ (k + 1) ⟨⟨Or.inl rfl, Or.inl rfl, Or.inl rfl, Or.inl ?_, Or.inl rfl, Or.inl rfl, trivial⟩, trivial, rfl, rfl⟩ (by omega) (by omega)⟩
      rw [hs, hz, Int.add_zero]
      rfl
    · have hz : valR w e x = (atD (x.2.2.1, x.2.2.2.2.2) e).1 := by unfold valR cntR; rw [if_pos c, if_pos d]
      rw [hz] at hs hv
      refine ⟨i64_ok (by omega) (by omega), i64_ok (by omega) (by omega), back _ (k + 1) ⟨⟨Or.inl rfl, Or.inl rfl, Or.inl rfl, Or.inl ?_, Or.inl rfl, Or.inl rfl, trivial⟩, trivial, rfl, rfl⟩ (by omega) (by omega)⟩
      rw [hs]
      rfl
    · have hz : valR w e x = x.2.2.2.2.2 := by unfold valR cntR; rw [if_pos c, if_neg d]
      rw [hz] at hs hv
      refine ⟨i64_ok (by omega) (by omega), i64_ok (by omega) (by omega), back _ (k + 1) ⟨⟨Or.inl rfl, Or.inl rfl, Or.inl rfl, Or.inl ?_, Or.inl rfl, Or.inl rfl, trivial⟩, trivial, rfl, rfl⟩ (by omega) (by omega)⟩
      rw [hs]
      rfl
  · rw [List.take_of_length_le (by omega)]
end Go.Proofs.Ytnncphnpajkojaa
namespace Go.Proofs.Ytnncphnpajkojaa
set_option maxHeartbeats 4000000
set_option maxRecDepth 100000

theorem c_Means (o : Ord') (r : Rec) : PC env 27 [⟨OrderT, o⟩, ⟨RecordT, r⟩] .bool (decide (r.2.2.1 ≤ o.2.2.1) && rightR r && rightO o && meantB o r) := by
  refine PC.of_PW (m := 2000) env_ok fn_27 rfl rfl rfl rfl (by kernel_rfl) ?_; intro hx; simp only [Try.f27]; simp only [go_sem, Nat.reduceBEq, ↓reduceIte, ↓reduceDIte, Nat.reduceAdd, Nat.reduceSub, Nat.reduceMul, Nat.reduceLeDiff, ← Bool.decide_and, ← Bool.decide_or, ← decide_not, Int.reduceLT, Int.reduceLE, Int.reduceToNat, Int.reduceNeg]
  refine ⟨fun h => ⟨_, c_rightR r, ?_⟩, fun h => ?_⟩
  · have hd : decide (r.2.2.1 ≤ o.2.2.1) = true := decide_eq_true (Int.not_lt.1 h)
    cases hr : rightR r
    · simp only [go_sem, Nat.reduceBEq, ↓reduceIte, ↓reduceDIte, Nat.reduceAdd, Nat.reduceSub, Nat.reduceMul, Nat.reduceLeDiff, ← Bool.decide_and, ← Bool.decide_or, ← decide_not, Int.reduceLT, Int.reduceLE, Int.reduceToNat, Int.reduceNeg]
      try simp
    · simp only [go_sem, Nat.reduceBEq, ↓reduceIte, ↓reduceDIte, Nat.reduceAdd, Nat.reduceSub, Nat.reduceMul, Nat.reduceLeDiff, ← Bool.decide_and, ← Bool.decide_or, ← decide_not, Int.reduceLT, Int.reduceLE, Int.reduceToNat, Int.reduceNeg]
      refine ⟨_, c_forms, fun _ => ⟨_, c_rightO o, ?_⟩⟩
      cases ho : rightO o
      · simp only [go_sem, Nat.reduceBEq, ↓reduceIte, ↓reduceDIte, Nat.reduceAdd, Nat.reduceSub, Nat.reduceMul, Nat.reduceLeDiff, ← Bool.decide_and, ← Bool.decide_or, ← decide_not, Int.reduceLT, Int.reduceLE, Int.reduceToNat, Int.reduceNeg]
        try simp
      · simp only [go_sem, Nat.reduceBEq, ↓reduceIte, ↓reduceDIte, Nat.reduceAdd, Nat.reduceSub, Nat.reduceMul, Nat.reduceLeDiff, ← Bool.decide_and, ← Bool.decide_or, ← decide_not, Int.reduceLT, Int.reduceLE, Int.reduceToNat, Int.reduceNeg]
        exact ⟨_, c_meant [o] r, by rw [hd]; simp⟩
  · have hd : decide (r.2.2.1 ≤ o.2.2.1) = false := decide_eq_false (Int.not_le.2 h)
    simp [hd]
def recOK (u : Usr) (r : Rec) : Bool := rightR r && decide (r.2.1 ≤ getL u.2.2 r.1) && !(hitAt plO u.2.1 (plR r) (bsI plO u.2.1 (plR r)) || u.2.1.any (fun o => meantB o r))
def ordOK (u : Usr) (o : Ord') : Bool := rightO o && decide (o.2.1 ≤ getL u.2.2 o.1)
def lastOK (x : Int) : Bool := decide (0 ≤ x ∧ x ≤ 1000000)
def validS (u : Usr) : Bool := decide (u.1.length ≤ 400 ∧ u.2.1.length ≤ 400) && ((lst u.2.2).all lastOK && (u.2.1.all (ordOK u) && ((sortedB plO u.2.1 && sortedB plR u.1) && u.1.all (recOK u))))
theorem last_step (L : L8) {k : Nat} {x : Int} (h : (lst L)[k]? = some x) : ((lst L).take (k + 1)).all lastOK = (((lst L).take k).all lastOK && lastOK x) := all_step h
theorem c_Valid (u : Usr) : PC env 29 [⟨UserT, u⟩] .bool (validS u) := by
  refine PC.of_PW (m := 2000) env_ok fn_29 rfl rfl rfl rfl (by kernel_rfl) ?_; intro hx; simp only [Try.f29]; simp only [go_sem, Nat.reduceBEq, ↓reduceIte, ↓reduceDIte, Nat.reduceAdd, Nat.reduceSub, Nat.reduceMul, Nat.reduceLeDiff, ← Bool.decide_and, ← Bool.decide_or, ← decide_not, Int.reduceLT, Int.reduceLE, Int.reduceToNat, Int.reduceNeg]
  refine ⟨fun h1 => ⟨fun h2 => ?_, fun h2 => ⟨_, c_forms, fun _ => ?_⟩⟩, fun h1 => ?_⟩
  · simp [validS]; omega
  · have hlb : decide (u.1.length ≤ 400 ∧ u.2.1.length ≤ 400) = true := decide_eq_true ⟨by omega, by omega⟩
    unfold validS
    rw [hlb, Bool.true_and]
    refine Walks.loopW (X := Nat) (fun k => ⟨[(25, .iv (.int .i64) (k : Int)), (24, .agg [.iv (.int .i64) u.2.2.1, .iv (.int .i64) u.2.2.2.1, .iv (.int .i64) u.2.2.2.2.1, .iv (.int .i64) u.2.2.2.2.2.1, .iv (.int .i64) u.2.2.2.2.2.2.1, .iv (.int .i64) u.2.2.2.2.2.2.2.1, .iv (.int .i64) u.2.2.2.2.2.2.2.2.1, .iv (.int .i64) u.2.2.2.2.2.2.2.2.2]), (3, .iv MpT formsD), (1, .ref 1 0)], [(1, .box [.iv (.sl RecordT) u.1, .iv (.sl OrderT) u.2.1, .iv (.int .i64) u.2.2.1, .iv (.int .i64) u.2.2.2.1, .iv (.int .i64) u.2.2.2.2.1, .iv (.int .i64) u.2.2.2.2.2.1, .iv (.int .i64) u.2.2.2.2.2.2.1, .iv (.int .i64) u.2.2.2.2.2.2.2.1, .iv (.int .i64) u.2.2.2.2.2.2.2.2.1, .iv (.int .i64) u.2.2.2.2.2.2.2.2.2])]⟩)
      (fun k => k ≤ 8 ∧ ((lst u.2.2).take k).all lastOK = true) (fun k => 8 - k) 0 (by refine ⟨?_, ?_, rfl, rfl⟩ <;> repeat' (first | exact trivial | (refine And.intro (Or.inl rfl) ?_) | (refine And.intro (Or.inr (Or.inl rfl)) ?_) | (refine And.intro (Or.inr (Or.inr (Or.inr ⟨rfl, rfl⟩))) ?_) | rfl | (refine And.intro (Or.inl ?_) ?_) | (refine And.intro ?_ ?_))) ⟨Nat.zero_le _, rfl⟩ ?_
    intro k ⟨hk, hb⟩ back
    refine PW_sound env_ok ⟨_, fn_29, rfl⟩ 2000 _ _ (by kernel_rfl) ?_; simp only [go_sem, Nat.reduceBEq, ↓reduceIte, ↓reduceDIte, Nat.reduceAdd, Nat.reduceSub, Nat.reduceMul, Nat.reduceLeDiff, ← Bool.decide_and, ← Bool.decide_or, ← decide_not, Int.reduceLT, Int.reduceLE, Int.reduceToNat, Int.reduceNeg]
    refine ⟨fun h => ?_, fun h => ?_⟩
    · obtain ⟨x, hxi⟩ : ∃ x, (lst u.2.2)[k]? = some x := get_of_lt (by show k < 8; omega)
      refine ⟨⟨Int.natCast_nonneg k, h⟩, x, hxi, _, c_within _ _ _, ?_⟩
      simp only [go_sem, Nat.reduceBEq, ↓reduceIte, ↓reduceDIte, Nat.reduceAdd, Nat.reduceSub, Nat.reduceMul, Nat.reduceLeDiff, ← Bool.decide_and, ← Bool.decide_or, ← decide_not, Int.reduceLT, Int.reduceLE, Int.reduceToNat, Int.reduceNeg]
      refine ⟨fun c => ?_, fun c => ?_⟩
      · rw [all_no (p := lastOK) hxi (decide_eq_false c)]
        rfl
      · refine ⟨i64_ok (by omega) (by omega), back _ (k + 1) (by refine ⟨?_, ?_, rfl, rfl⟩ <;> repeat' (first | exact trivial | (refine And.intro (Or.inl rfl) ?_) | (refine And.intro (Or.inr (Or.inl rfl)) ?_) | (refine And.intro (Or.inr (Or.inr (Or.inr ⟨rfl, rfl⟩))) ?_) | rfl | (refine And.intro (Or.inl ?_) ?_) | (refine And.intro ?_ ?_))) ⟨by omega, ?_⟩ (by omega)⟩
        rw [last_step u.2.2 hxi, hb]
        exact decide_eq_true c
    have e1 : (lst u.2.2).take k = lst u.2.2 := List.take_of_length_le (by show 8 ≤ k; omega)
    rw [e1] at hb
    rw [hb, Bool.true_and]
    refine Walks.loopW (X := Nat) (fun k => ⟨[(35, .iv (.int .i64) (k : Int)), (34, .iv (.int .i64) (u.2.1.length : Int)), (33, .iv (.sl OrderT) u.2.1), (3, .iv MpT formsD), (1, .ref 1 0)], [(1, .box [.iv (.sl RecordT) u.1, .iv (.sl OrderT) u.2.1, .iv (.int .i64) u.2.2.1, .iv (.int .i64) u.2.2.2.1, .iv (.int .i64) u.2.2.2.2.1, .iv (.int .i64) u.2.2.2.2.2.1, .iv (.int .i64) u.2.2.2.2.2.2.1, .iv (.int .i64) u.2.2.2.2.2.2.2.1, .iv (.int .i64) u.2.2.2.2.2.2.2.2.1, .iv (.int .i64) u.2.2.2.2.2.2.2.2.2])]⟩)
      (fun k => k ≤ u.2.1.length ∧ (u.2.1.take k).all (ordOK u) = true) (fun k => u.2.1.length - k) 0 (by refine ⟨?_, ?_, rfl, rfl⟩ <;> repeat' (first | exact trivial | (refine And.intro (Or.inl rfl) ?_) | (refine And.intro (Or.inr (Or.inl rfl)) ?_) | (refine And.intro (Or.inr (Or.inr (Or.inr ⟨rfl, rfl⟩))) ?_) | rfl | (refine And.intro (Or.inl ?_) ?_) | (refine And.intro ?_ ?_))) ⟨Nat.zero_le _, rfl⟩ ?_
    intro k2 ⟨hk2, hb2⟩ back2
    refine PW_sound env_ok ⟨_, fn_29, rfl⟩ 2000 _ _ (by kernel_rfl) ?_; simp only [go_sem, Nat.reduceBEq, ↓reduceIte, ↓reduceDIte, Nat.reduceAdd, Nat.reduceSub, Nat.reduceMul, Nat.reduceLeDiff, ← Bool.decide_and, ← Bool.decide_or, ← decide_not, Int.reduceLT, Int.reduceLE, Int.reduceToNat, Int.reduceNeg]
    refine ⟨fun h => ?_, fun h => ?_⟩
    · obtain ⟨x, hxi⟩ : ∃ x, u.2.1[k2]? = some x := get_of_lt (by omega)
      refine ⟨Int.natCast_nonneg k2, x, hxi, _, c_rightO x, ?_⟩
      cases hr : rightO x
      · simp only [go_sem, Nat.reduceBEq, ↓reduceIte, ↓reduceDIte, Nat.reduceAdd, Nat.reduceSub, Nat.reduceMul, Nat.reduceLeDiff, ← Bool.decide_and, ← Bool.decide_or, ← decide_not, Int.reduceLT, Int.reduceLE, Int.reduceToNat, Int.reduceNeg]
        rw [all_no (p := ordOK u) hxi (by unfold ordOK; rw [hr]; rfl)]
        try rfl
      · have hr' := hr
        simp only [rightO, Bool.and_eq_true, decide_eq_true_eq] at hr'
        obtain ⟨⟨⟨hd0, hd7⟩, _⟩, _⟩ := hr'
        simp only [go_sem, Nat.reduceBEq, ↓reduceIte, ↓reduceDIte, Nat.reduceAdd, Nat.reduceSub, Nat.reduceMul, Nat.reduceLeDiff, ← Bool.decide_and, ← Bool.decide_or, ← decide_not, Int.reduceLT, Int.reduceLE, Int.reduceToNat, Int.reduceNeg]
        refine ⟨⟨hd0, by omega⟩, getL u.2.2 x.1, lst_at u.2.2 hd0 hd7, fun c => ?_, fun c => ?_⟩
        · rw [all_no (p := ordOK u) hxi (by unfold ordOK; rw [hr, decide_eq_false (Int.not_le.2 c)]; rfl)]
          rfl
        · refine ⟨i64_ok (by omega) (by omega), back2 _ (k2 + 1) (by refine ⟨?_, ?_, rfl, rfl⟩ <;> repeat' (first | exact trivial | (refine And.intro (Or.inl rfl) ?_) | (refine And.intro (Or.inr (Or.inl rfl)) ?_) | (refine And.intro (Or.inr (Or.inr (Or.inr ⟨rfl, rfl⟩))) ?_) | rfl | (refine And.intro (Or.inl ?_) ?_) | (refine And.intro ?_ ?_))) ⟨by omega, ?_⟩ (by omega)⟩
          rw [all_step hxi, hb2]
          unfold ordOK
          rw [hr, decide_eq_true (Int.not_lt.1 c)]
          rfl
    have e2 : u.2.1.take k2 = u.2.1 := List.take_of_length_le (by omega)
    rw [e2] at hb2
    rw [hb2, Bool.true_and]
    refine ⟨_, c_ordO u.2.1, ?_⟩
    cases ho : sortedB plO u.2.1
    · simp only [go_sem, Nat.reduceBEq, ↓reduceIte, ↓reduceDIte, Nat.reduceAdd, Nat.reduceSub, Nat.reduceMul, Nat.reduceLeDiff, ← Bool.decide_and, ← Bool.decide_or, ← decide_not, Int.reduceLT, Int.reduceLE, Int.reduceToNat, Int.reduceNeg]
      try rfl
    simp only [go_sem, Nat.reduceBEq, ↓reduceIte, ↓reduceDIte, Nat.reduceAdd, Nat.reduceSub, Nat.reduceMul, Nat.reduceLeDiff, ← Bool.decide_and, ← Bool.decide_or, ← decide_not, Int.reduceLT, Int.reduceLE, Int.reduceToNat, Int.reduceNeg]
    refine ⟨_, c_ordR u.1, ?_⟩
    cases ho2 : sortedB plR u.1
    · simp only [go_sem, Nat.reduceBEq, ↓reduceIte, ↓reduceDIte, Nat.reduceAdd, Nat.reduceSub, Nat.reduceMul, Nat.reduceLeDiff, ← Bool.decide_and, ← Bool.decide_or, ← decide_not, Int.reduceLT, Int.reduceLE, Int.reduceToNat, Int.reduceNeg]
      try rfl
    simp only [go_sem, Nat.reduceBEq, ↓reduceIte, ↓reduceDIte, Nat.reduceAdd, Nat.reduceSub, Nat.reduceMul, Nat.reduceLeDiff, ← Bool.decide_and, ← Bool.decide_or, ← decide_not, Int.reduceLT, Int.reduceLE, Int.reduceToNat, Int.reduceNeg]
    refine Walks.loopW (X := Nat) (fun k => ⟨[(67, .iv (.int .i64) (k : Int)), (66, .iv (.int .i64) (u.1.length : Int)), (65, .iv (.sl RecordT) u.1), (3, .iv MpT formsD), (1, .ref 1 0)], [(1, .box [.iv (.sl RecordT) u.1, .iv (.sl OrderT) u.2.1, .iv (.int .i64) u.2.2.1, .iv (.int .i64) u.2.2.2.1, .iv (.int .i64) u.2.2.2.2.1, .iv (.int .i64) u.2.2.2.2.2.1, .iv (.int .i64) u.2.2.2.2.2.2.1, .iv (.int .i64) u.2.2.2.2.2.2.2.1, .iv (.int .i64) u.2.2.2.2.2.2.2.2.1, .iv (.int .i64) u.2.2.2.2.2.2.2.2.2])]⟩)
      (fun k => k ≤ u.1.length ∧ (u.1.take k).all (recOK u) = true) (fun k => u.1.length - k) 0 (by refine ⟨?_, ?_, rfl, rfl⟩ <;> repeat' (first | exact trivial | (refine And.intro (Or.inl rfl) ?_) | (refine And.intro (Or.inr (Or.inl rfl)) ?_) | (refine And.intro (Or.inr (Or.inr (Or.inr ⟨rfl, rfl⟩))) ?_) | rfl | (refine And.intro (Or.inl ?_) ?_) | (refine And.intro ?_ ?_))) ⟨Nat.zero_le _, rfl⟩ ?_
    intro k3 ⟨hk3, hb3⟩ back3
    refine PW_sound env_ok ⟨_, fn_29, rfl⟩ 2000 _ _ (by kernel_rfl) ?_; simp only [go_sem, Nat.reduceBEq, ↓reduceIte, ↓reduceDIte, Nat.reduceAdd, Nat.reduceSub, Nat.reduceMul, Nat.reduceLeDiff, ← Bool.decide_and, ← Bool.decide_or, ← decide_not, Int.reduceLT, Int.reduceLE, Int.reduceToNat, Int.reduceNeg]
    refine ⟨fun h => ?_, fun h => ?_⟩
    · obtain ⟨x, hxi⟩ : ∃ x, u.1[k3]? = some x := get_of_lt (by omega)
      have hno : recOK u x = false → u.1.all (recOK u) = false := fun e => all_no (p := recOK u) hxi e
      refine ⟨Int.natCast_nonneg k3, x, hxi, _, c_rightR x, ?_⟩
      cases hr : rightR x
      · simp only [go_sem, Nat.reduceBEq, ↓reduceIte, ↓reduceDIte, Nat.reduceAdd, Nat.reduceSub, Nat.reduceMul, Nat.reduceLeDiff, ← Bool.decide_and, ← Bool.decide_or, ← decide_not, Int.reduceLT, Int.reduceLE, Int.reduceToNat, Int.reduceNeg]
        rw [hno (by unfold recOK; rw [hr]; rfl)]
        try rfl
      · have hr' := hr
        simp only [rightR, Bool.and_eq_true, decide_eq_true_eq] at hr'
        obtain ⟨⟨⟨hd0, hd7⟩, _⟩, _⟩ := hr'
        simp only [go_sem, Nat.reduceBEq, ↓reduceIte, ↓reduceDIte, Nat.reduceAdd, Nat.reduceSub, Nat.reduceMul, Nat.reduceLeDiff, ← Bool.decide_and, ← Bool.decide_or, ← decide_not, Int.reduceLT, Int.reduceLE, Int.reduceToNat, Int.reduceNeg]
        refine ⟨⟨hd0, by omega⟩, getL u.2.2 x.1, lst_at u.2.2 hd0 hd7, fun c => ?_, fun c => ?_⟩
        · rw [hno (by unfold recOK; rw [hr, decide_eq_false (Int.not_le.2 c)]; rfl)]
          try rfl
        · have hd : decide (x.2.1 ≤ getL u.2.2 x.1) = true := decide_eq_true (Int.not_lt.1 c)
          refine ⟨_, c_ofR x, fun _ => ⟨_, c_findO u.2.1 _ (by omega), fun _ => ?_⟩⟩
          cases hh : hitAt plO u.2.1 (plR x) (bsI plO u.2.1 (plR x))
          · have hh2 : hitAt plO u.2.1 (x.1, x.2.1) (bsI plO u.2.1 (x.1, x.2.1)) = false := hh
            dsimp only
            rw [hh2]
            simp only [go_sem, Nat.reduceBEq, ↓reduceIte, ↓reduceDIte, Nat.reduceAdd, Nat.reduceSub, Nat.reduceMul, Nat.reduceLeDiff, ← Bool.decide_and, ← Bool.decide_or, ← decide_not, Int.reduceLT, Int.reduceLE, Int.reduceToNat, Int.reduceNeg]
            refine ⟨_, c_meant u.2.1 x, ?_⟩
            cases hm : u.2.1.any (fun o => meantB o x)
            · simp only [go_sem, Nat.reduceBEq, ↓reduceIte, ↓reduceDIte, Nat.reduceAdd, Nat.reduceSub, Nat.reduceMul, Nat.reduceLeDiff, ← Bool.decide_and, ← Bool.decide_or, ← decide_not, Int.reduceLT, Int.reduceLE, Int.reduceToNat, Int.reduceNeg]
              refine ⟨i64_ok (by omega) (by omega), back3 _ (k3 + 1) (by refine ⟨?_, ?_, rfl, rfl⟩ <;> repeat' (first | exact trivial | (refine And.intro (Or.inl rfl) ?_) | (refine And.intro (Or.inr (Or.inl rfl)) ?_) | (refine And.intro (Or.inr (Or.inr (Or.inr ⟨rfl, rfl⟩))) ?_) | rfl | (refine And.intro (Or.inl ?_) ?_) | (refine And.intro ?_ ?_))) ⟨by omega, ?_⟩ (by omega)⟩
              rw [all_step hxi, hb3]
              unfold recOK
              rw [hr, hd, hh, hm]
              rfl
            · simp only [go_sem, Nat.reduceBEq, ↓reduceIte, ↓reduceDIte, Nat.reduceAdd, Nat.reduceSub, Nat.reduceMul, Nat.reduceLeDiff, ← Bool.decide_and, ← Bool.decide_or, ← decide_not, Int.reduceLT, Int.reduceLE, Int.reduceToNat, Int.reduceNeg]
              rw [hno (by unfold recOK; rw [hr, hd, hh, hm]; rfl)]
          · have hh2 : hitAt plO u.2.1 (x.1, x.2.1) (bsI plO u.2.1 (x.1, x.2.1)) = true := hh
            dsimp only
            rw [hh2]
            simp only [go_sem, Nat.reduceBEq, ↓reduceIte, ↓reduceDIte, Nat.reduceAdd, Nat.reduceSub, Nat.reduceMul, Nat.reduceLeDiff, ← Bool.decide_and, ← Bool.decide_or, ← decide_not, Int.reduceLT, Int.reduceLE, Int.reduceToNat, Int.reduceNeg]
            rw [hno (by unfold recOK; rw [hr, hd, hh]; rfl)]
    · have e3 : u.1.take k3 = u.1 := List.take_of_length_le (by omega)
      rw [e3] at hb3
      rw [hb3]
  · simp [validS]; omega
end Go.Proofs.Ytnncphnpajkojaa
namespace Go.Proofs.Ytnncphnpajkojaa
set_option maxHeartbeats 4000000
set_option maxRecDepth 100000

def cmpS (x y : Rec) : Int := if cmpI x.2.2.1 y.2.2.1 ≠ 0 then cmpI x.2.2.1 y.2.2.1 else cmpP (plR x) (plR y)
def ltS (x y : Rec) : Bool := decide (cmpS x y < 0)
theorem c_Seen1 (x y : Rec) : PC env 49 [⟨RecordT, x⟩, ⟨RecordT, y⟩] (.int .i64) (cmpS x y) := by
  refine PC.of_PW (m := 2000) env_ok fn_49 rfl rfl rfl rfl (by kernel_rfl) ?_; intro hx; simp only [Try.f49]; simp only [go_sem, Nat.reduceBEq, ↓reduceIte, ↓reduceDIte, Nat.reduceAdd, Nat.reduceSub, Nat.reduceMul, Nat.reduceLeDiff, ← Bool.decide_and, ← Bool.decide_or, ← decide_not, Int.reduceLT, Int.reduceLE, Int.reduceToNat, Int.reduceNeg]
  refine ⟨_, c_Compare _ _, fun _ => ⟨_, c_ofR x, fun _ => ⟨_, c_ofR y, fun _ => ⟨_, c_comp _ _, fun _ => ⟨_, c_Or _, fun _ => ?_⟩⟩⟩⟩⟩
  unfold cmpS plR
  by_cases h : cmpI x.2.2.1 y.2.2.1 = 0 <;> by_cases h' : cmpP (x.1, x.2.1) (y.1, y.2.1) = 0 <;> simp [h, h']
theorem start_ins (xs : List Rec) : xs = ((xs.take 1).foldl (insR ltS) []).reverse ++ xs.drop 1 := by
  match xs with
  | [] => rfl
  | x :: xs => rfl
theorem h_ins (xs : List Rec) : HC env 92 [.lfull 1000000000, .iv (.int .i64) (0 : Int), .iv (.int .i64) (xs.length : Int), .iv (.clo 49 .unit) ()] [(1000000000, .arr RecordT xs)] (.tup []) [(1000000000, .arr RecordT (isort ltS xs))] := by
  refine HC.of_PW (m := 2000) env_ok fn_92 rfl rfl rfl rfl (by kernel_rfl) ?_; intro hx hbl; simp only [Try.f92]; simp only [go_sem, Nat.reduceBEq, ↓reduceIte, ↓reduceDIte, Nat.reduceAdd, Nat.reduceSub, Nat.reduceMul, Nat.reduceLeDiff, ← Bool.decide_and, ← Bool.decide_or, ← decide_not, Int.reduceLT, Int.reduceLE, Int.reduceToNat, Int.reduceNeg]
  have hlen : (xs.length : Int) ≤ 9223372036854775807 := by
    have := hx.2.2.1
    simp only [okP, Ty.ok, max_i64] at this
    exact this.2
  refine ⟨by omega, ?_⟩
  refine Walks.loopW (X := Nat) (fun k => ⟨[(8, .iv (.int .i64) (k : Int)), (0, .lfull 1000000000), (1, .iv (.int .i64) (0 : Int)), (2, .iv (.int .i64) (xs.length : Int)), (3, .fn 49 [])],
    [(1000000000, .arr RecordT (((xs.take k).foldl (insR ltS) []).reverse ++ xs.drop k))]⟩)
    (fun k => 1 ≤ k ∧ (k ≤ xs.length ∨ k = 1)) (fun k => xs.length - k) 1 ?_ ⟨Nat.le_refl _, Or.inr rfl⟩ ?_
  · refine ⟨⟨Or.inl rfl, Or.inl rfl, Or.inl rfl, Or.inl rfl, Or.inl rfl, trivial⟩, ⟨?_, trivial⟩, rfl, rfl⟩
    exact congrArg (Blk.arr RecordT) (start_ins xs)
  intro k ⟨hk, hk'⟩ back
  refine PW_sound env_ok ⟨_, fn_92, rfl⟩ 2000 _ _ (by kernel_rfl) ?_; simp only [go_sem, Nat.reduceBEq, ↓reduceIte, ↓reduceDIte, Nat.reduceAdd, Nat.reduceSub, Nat.reduceMul, Nat.reduceLeDiff, ← Bool.decide_and, ← Bool.decide_or, ← decide_not, Int.reduceLT, Int.reduceLE, Int.reduceToNat, Int.reduceNeg]
  have hfl := foldl_insR_length ltS (xs.take k) []
  refine ⟨fun h => ?_, fun h => ?_⟩
  rotate_left
  · have : xs.length ≤ k := by omega
    rw [List.take_of_length_le this, List.drop_eq_nil_of_le this, List.append_nil]
    rfl
  have hkl : k < xs.length := by omega
  have htk : (xs.take k).length = k := by rw [List.length_take]; omega
  simp only [htk, List.length_nil, Nat.zero_add] at hfl
  obtain ⟨x, hxk⟩ := get_of_lt hkl
  refine Walks.loopW (X := List Rec × List Rec) (fun z => ⟨[(9, .iv (.int .i64) (z.1.length : Int)), (8, .iv (.int .i64) (k : Int)), (0, .lfull 1000000000), (1, .iv (.int .i64) (0 : Int)), (2, .iv (.int .i64) (xs.length : Int)), (3, .fn 49 [])],
    [(1000000000, .arr RecordT (mid z.1 x (z.2 ++ xs.drop (k + 1))))]⟩)
    (fun z => insR ltS ((xs.take k).foldl (insR ltS) []) x = z.2.reverse ++ insR ltS z.1 x ∧ z.1.length + z.2.length = k) (fun z => z.1.length) ((xs.take k).foldl (insR ltS) [], []) ?_ ⟨rfl, ?_⟩ ?_
  · refine ⟨⟨Or.inl ?_, Or.inl rfl, Or.inl rfl, Or.inl rfl, Or.inl rfl, Or.inl rfl, trivial⟩, ⟨?_, trivial⟩, rfl, rfl⟩
    · dsimp only
      rw [hfl]
      rfl
    · dsimp only
      rw [drop_cons hxk]
      rfl
  · exact hfl
  intro ⟨L, R⟩ ⟨hins, hLR⟩ back2
  dsimp only at hins hLR
  refine PW_sound env_ok ⟨_, fn_92, rfl⟩ 2000 _ _ (by kernel_rfl) ?_; simp only [go_sem, Nat.reduceBEq, ↓reduceIte, ↓reduceDIte, Nat.reduceAdd, Nat.reduceSub, Nat.reduceMul, Nat.reduceLeDiff, ← Bool.decide_and, ← Bool.decide_or, ← decide_not, Int.reduceLT, Int.reduceLE, Int.reduceToNat, Int.reduceNeg]
  have hend : insR ltS L x = x :: L → mid L x (R ++ xs.drop (k + 1)) = ((xs.take (k + 1)).foldl (insR ltS) []).reverse ++ xs.drop (k + 1) := by
    intro e
    rw [take_snoc hxk, List.foldl_append, List.foldl_cons, List.foldl_nil, hins, e]
    simp [mid]
  have hml := mid_length L x (R ++ xs.drop (k + 1))
  refine ⟨fun c1 => ?_, fun c1 => ?_⟩
  · match L, c1 with
    | y :: L, _ =>
      have e1 : (((y :: L).length : Int) - 1).toNat = L.length := by simp
      simp only [e1]
      dsimp only [Ty.den] at *
      rw [List.length_cons] at *
      refine ⟨by omega, _, mid_at (y :: L) x _, by omega, by omega, _, mid_before L x y _, _, c_Seen1 x y, fun _ => ⟨fun c2 => ?_, fun c2 => ?_⟩⟩
      · have hset : ((mid (y :: L) x (R ++ xs.drop (k + 1))).set (L.length + 1) y).length = (mid (y :: L) x (R ++ xs.drop (k + 1))).length := List.length_set
        refine ⟨by omega, by omega, by omega, _, mid_before L x y _, by omega, _, mid_at (y :: L) x _, by omega, by rw [hset]; omega, by omega, ?_⟩
        refine back2 _ (L, y :: R) ?_ ⟨?_, ?_⟩ (by show L.length < L.length + 1; omega)
        · refine ⟨⟨Or.inl ?_, Or.inl rfl, Or.inl rfl, Or.inl rfl, Or.inl rfl, Or.inl rfl, trivial⟩, ⟨?_, trivial⟩, rfl, rfl⟩
          · dsimp only
            have : ((L.length + 1 : Nat) : Int) - 1 = L.length := by omega
            rw [this]
            rfl
          · exact congrArg (Blk.arr RecordT) (mid_swap L x y (R ++ xs.drop (k + 1)))
        · rw [hins, insR, if_pos (show ltS x y = true from decide_eq_true c2)]
          simp
        · show L.length + (R.length + 1) = k
          omega
      · have ex : insR ltS (y :: L) x = x :: y :: L := by rw [insR, if_neg (by simpa [ltS] using c2)]
        refine ⟨by omega, ?_⟩
        refine back _ (k + 1) ?_ ⟨by omega, by omega⟩ (by omega)
        refine ⟨⟨Or.inl rfl, Or.inl rfl, Or.inl rfl, Or.inl rfl, Or.inl rfl, trivial⟩, ⟨?_, trivial⟩, rfl, rfl⟩
        exact congrArg (Blk.arr RecordT) (hend ex)
  · have e0 : L = [] := List.length_eq_zero_iff.mp (by omega)
    subst e0
    refine ⟨by omega, ?_⟩
    refine back _ (k + 1) ?_ ⟨by omega, by omega⟩ (by omega)
    refine ⟨⟨Or.inl rfl, Or.inl rfl, Or.inl rfl, Or.inl rfl, Or.inl rfl, trivial⟩, ⟨?_, trivial⟩, rfl, rfl⟩
    exact congrArg (Blk.arr RecordT) (hend rfl)
theorem h_ins0 : HC env 92 [.nilsl, .iv (.int .i64) (0 : Int), .iv (.int .i64) (0 : Int), .iv (.clo 49 .unit) ()] [] (.tup []) [] := by
  refine HC.of_PW (m := 2000) env_ok fn_92 rfl rfl rfl rfl (by kernel_rfl) ?_; intro hx hbl; simp only [Try.f92]; simp only [go_sem, Nat.reduceBEq, ↓reduceIte, ↓reduceDIte, Nat.reduceAdd, Nat.reduceSub, Nat.reduceMul, Nat.reduceLeDiff, ← Bool.decide_and, ← Bool.decide_or, ← decide_not, Int.reduceLT, Int.reduceLE, Int.reduceToNat, Int.reduceNeg]
  refine ⟨by omega, ?_⟩
  refine Walks.loopW (X := Unit) (fun _ => ⟨[(8, .iv (.int .i64) (1 : Int)), (2, .iv (.int .i64) (0 : Int))], []⟩) (fun _ => True) (fun _ => 0) () ⟨⟨Or.inl rfl, Or.inl rfl, trivial⟩, trivial, rfl, rfl⟩ trivial ?_
  intro _ _ back
  refine PW_sound env_ok ⟨_, fn_92, rfl⟩ 2000 _ _ (by kernel_rfl) ?_; simp only [go_sem, Nat.reduceBEq, ↓reduceIte, ↓reduceDIte, Nat.reduceAdd, Nat.reduceSub, Nat.reduceMul, Nat.reduceLeDiff, ← Bool.decide_and, ← Bool.decide_or, ← decide_not, Int.reduceLT, Int.reduceLE, Int.reduceToNat, Int.reduceNeg]
def tb : List UInt8 := (List.range 256).map fun i => UInt8.ofNat (if i = 0 then 0 else Nat.log2 i + 1)
theorem tb_len : tb.length = 256 := by unfold tb; simp
def lenT (n : Int) : Int := 0 + ((tb.getD n.toNat 0).toNat : Int)
theorem c_Len64 (n : Int) (h0 : 0 ≤ n) (h : n ≤ 255) : PC env 101 [⟨.int .u64, n⟩] (.int .i64) (lenT n) := by
  have hw : IntKind.u8.wrap n = n := wrap_in _ ⟨h0, h⟩
  have key : ∀ (l : List UInt8), l = tb → l[n.toNat]? = some (tb.getD n.toNat 0) := by
    intro l hl
    subst hl
    have := tb_len
    rw [List.getD_eq_getElem?_getD, List.getElem?_eq_getElem (by omega)]
    rfl
  refine PC.of_PW (m := 2000) env_ok fn_101 rfl rfl rfl rfl (by kernel_rfl) ?_; intro hx; simp only [Try.f101]; simp only [go_sem, Nat.reduceBEq, ↓reduceIte, ↓reduceDIte, Nat.reduceAdd, Nat.reduceSub, Nat.reduceMul, Nat.reduceLeDiff, ← Bool.decide_and, ← Bool.decide_or, ← decide_not, Int.reduceLT, Int.reduceLE, Int.reduceToNat, Int.reduceNeg]
  rw [hw]
  dsimp only [Ty.den] at *
  refine ⟨fun g => absurd g (by omega), fun _ => ⟨fun g => absurd g (by omega), fun _ => ⟨fun g => absurd g (by omega), fun _ => ⟨_, ⟨_, key _ (by kernel_rfl), rfl⟩, ?_, rfl⟩⟩⟩⟩
  have hb := UInt8.toNat_lt (tb.getD n.toNat 0)
  omega
theorem c_Len (n : Int) (h0 : 0 ≤ n) (h : n ≤ 255) : PC env 81 [⟨.int .u64, n⟩] (.int .i64) (lenT n) := by
  refine PC.of_PW (m := 2000) env_ok fn_81 rfl rfl rfl rfl (by kernel_rfl) ?_; intro hx; simp only [Try.f81]; simp only [go_sem, Nat.reduceBEq, ↓reduceIte, ↓reduceDIte, Nat.reduceAdd, Nat.reduceSub, Nat.reduceMul, Nat.reduceLeDiff, ← Bool.decide_and, ← Bool.decide_or, ← decide_not, Int.reduceLT, Int.reduceLE, Int.reduceToNat, Int.reduceNeg]
  exact ⟨_, c_Len64 n h0 h, fun _ => rfl⟩
theorem h_pdq (xs : List Rec) (b : Int) (hn : xs.length ≤ 12) : HC env 80 [.lfull 1000000000, .iv (.int .i64) (0 : Int), .iv (.int .i64) (xs.length : Int), .iv (.int .i64) b, .iv (.clo 49 .unit) ()] [(1000000000, .arr RecordT xs)] (.tup []) [(1000000000, .arr RecordT (isort ltS xs))] := by
  refine HC.of_PW (m := 2000) env_ok fn_80 rfl rfl rfl rfl (by kernel_rfl) ?_; intro hx hbl; simp only [Try.f80]; simp only [go_sem, Nat.reduceBEq, ↓reduceIte, ↓reduceDIte, Nat.reduceAdd, Nat.reduceSub, Nat.reduceMul, Nat.reduceLeDiff, ← Bool.decide_and, ← Bool.decide_or, ← decide_not, Int.reduceLT, Int.reduceLE, Int.reduceToNat, Int.reduceNeg]
  refine Walks.loopW (X := Unit) (fun _ => ⟨[(0, .lfull 1000000000), (1, .iv (.int .i64) (0 : Int)), (2, .iv (.int .i64) (xs.length : Int)), (4, .fn 49 [])], [(1000000000, .arr RecordT xs)]⟩) (fun _ => True) (fun _ => 0) () ⟨⟨Or.inl rfl, Or.inl rfl, Or.inl rfl, Or.inl rfl, trivial⟩, ⟨rfl, trivial⟩, rfl, rfl⟩ trivial ?_
  intro _ _ back
  refine PW_sound env_ok ⟨_, fn_80, rfl⟩ 2000 _ _ (by kernel_rfl) ?_; simp only [go_sem, Nat.reduceBEq, ↓reduceIte, ↓reduceDIte, Nat.reduceAdd, Nat.reduceSub, Nat.reduceMul, Nat.reduceLeDiff, ← Bool.decide_and, ← Bool.decide_or, ← decide_not, Int.reduceLT, Int.reduceLE, Int.reduceToNat, Int.reduceNeg]
  refine ⟨by omega, fun _ => ⟨_, _, h_ins xs, ?_⟩, fun g => absurd g (by omega)⟩
  simp only [go_sem, Nat.reduceBEq, ↓reduceIte, ↓reduceDIte, Nat.reduceAdd, Nat.reduceSub, Nat.reduceMul, Nat.reduceLeDiff, ← Bool.decide_and, ← Bool.decide_or, ← decide_not, Int.reduceLT, Int.reduceLE, Int.reduceToNat, Int.reduceNeg]
  exact fun _ => trivial
theorem h_Sort (xs : List Rec) (hn : xs.length ≤ 12) : HC env 48 [.lfull 1000000000, .iv (.clo 49 .unit) ()] [(1000000000, .arr RecordT xs)] (.tup []) [(1000000000, .arr RecordT (isort ltS xs))] := by
  refine HC.of_PW (m := 2000) env_ok fn_48 rfl rfl rfl rfl (by kernel_rfl) ?_; intro hx hbl; simp only [Try.f48]; simp only [go_sem, Nat.reduceBEq, ↓reduceIte, ↓reduceDIte, Nat.reduceAdd, Nat.reduceSub, Nat.reduceMul, Nat.reduceLeDiff, ← Bool.decide_and, ← Bool.decide_or, ← decide_not, Int.reduceLT, Int.reduceLE, Int.reduceToNat, Int.reduceNeg]
  have hw : IntKind.u64.wrap (xs.length : Int) = (xs.length : Int) := wrap_in _ ⟨by simp only [min_u64]; omega, by simp only [max_u64]; omega⟩
  rw [hw]
  refine ⟨_, c_Len _ (by omega) (by omega), fun _ => ⟨_, _, h_pdq xs _ hn, ?_⟩⟩
  simp only [go_sem, Nat.reduceBEq, ↓reduceIte, ↓reduceDIte, Nat.reduceAdd, Nat.reduceSub, Nat.reduceMul, Nat.reduceLeDiff, ← Bool.decide_and, ← Bool.decide_or, ← decide_not, Int.reduceLT, Int.reduceLE, Int.reduceToNat, Int.reduceNeg]
  exact fun _ => trivial

theorem h_Clone (xs : List Rec) (h : xs ≠ []) (hl : xs.length ≤ 100000) : HC env 47 [.iv (.sl RecordT) xs] [] (.lfull 5) [(5, .arr RecordT xs)] := by
  refine HC.of_PW (m := 2000) env_ok fn_47 rfl rfl rfl rfl (by kernel_rfl) ?_; intro hx hbl; simp only [Try.f47]; simp only [go_sem, Nat.reduceBEq, ↓reduceIte, ↓reduceDIte, Nat.reduceAdd, Nat.reduceSub, Nat.reduceMul, Nat.reduceLeDiff, ← Bool.decide_and, ← Bool.decide_or, ← decide_not, Int.reduceLT, Int.reduceLE, Int.reduceToNat, Int.reduceNeg]
  intro b hb
  cases b
  · simp only [go_sem, Nat.reduceBEq, ↓reduceIte, ↓reduceDIte, Nat.reduceAdd, Nat.reduceSub, Nat.reduceMul, Nat.reduceLeDiff, ← Bool.decide_and, ← Bool.decide_or, ← decide_not, Int.reduceLT, Int.reduceLE, Int.reduceToNat, Int.reduceNeg]
    exact Nat.le_trans hl (by decide)
  · exact absurd (hb rfl) h
def seenS (l : List Rec) : List Rec := isort ltS l
theorem c_Seen (u : Usr) (h : u.1 ≠ []) (hl : u.1.length ≤ 12) : PC env 24 [⟨UserT, u⟩] (.sl RecordT) (seenS u.1) := by
  refine PC.of_PW (m := 2000) env_ok fn_24 rfl rfl rfl rfl (by kernel_rfl) ?_; intro hx; simp only [Try.f24]; simp only [go_sem, Nat.reduceBEq, ↓reduceIte, ↓reduceDIte, Nat.reduceAdd, Nat.reduceSub, Nat.reduceMul, Nat.reduceLeDiff, ← Bool.decide_and, ← Bool.decide_or, ← decide_not, Int.reduceLT, Int.reduceLE, Int.reduceToNat, Int.reduceNeg]
  refine ⟨_, _, h_Clone u.1 h (by omega), ?_⟩
  simp only [go_sem, Nat.reduceBEq, ↓reduceIte, ↓reduceDIte, Nat.reduceAdd, Nat.reduceSub, Nat.reduceMul, Nat.reduceLeDiff, ← Bool.decide_and, ← Bool.decide_or, ← decide_not, Int.reduceLT, Int.reduceLE, Int.reduceToNat, Int.reduceNeg]
  intro _
  refine ⟨_, _, h_Sort _ hl, ?_⟩
  simp only [go_sem, Nat.reduceBEq, ↓reduceIte, ↓reduceDIte, Nat.reduceAdd, Nat.reduceSub, Nat.reduceMul, Nat.reduceLeDiff, ← Bool.decide_and, ← Bool.decide_or, ← decide_not, Int.reduceLT, Int.reduceLE, Int.reduceToNat, Int.reduceNeg]
  exact fun _ => rfl
end Go.Proofs.Ytnncphnpajkojaa
namespace Go.Proofs.Ytnncphnpajkojaa
set_option maxHeartbeats 4000000
set_option maxRecDepth 100000

abbrev Raw6 := Int × Int × Int × Int × Int × Int
def fourW : List (List UInt8) := [[65], [65, 66], [66], [67, 49]]
def rawW (n : Int) : List UInt8 := fourW.getD (n % 4).toNat []
theorem c_WordR (n : Int) : PC env 20 [⟨.int .u8, n⟩] .str (rawW n) := by
  refine PC.of_PW (m := 2000) env_ok fn_20 rfl rfl rfl rfl (by kernel_rfl) ?_; intro hx; simp only [Try.f20]; simp only [go_sem, Nat.reduceBEq, ↓reduceIte, ↓reduceDIte, Nat.reduceAdd, Nat.reduceSub, Nat.reduceMul, Nat.reduceLeDiff, ← Bool.decide_and, ← Bool.decide_or, ← decide_not, Int.reduceLT, Int.reduceLE, Int.reduceToNat, Int.reduceNeg]
  have h0 := (u8_of hx.1).1
  dsimp only at h0
  rw [Int.tmod_eq_emod_of_nonneg h0]
  have h4 : n % 4 = 0 ∨ n % 4 = 1 ∨ n % 4 = 2 ∨ n % 4 = 3 := by omega
  refine ⟨by omega, rawW n, ?_, rfl⟩
  unfold rawW fourW
  rcases h4 with h | h | h | h <;> rw [h] <;> rfl
theorem rawW_ok (n : Int) : wordB (rawW n) = true := by
  unfold rawW fourW
  have h4 : n % 4 = 0 ∨ n % 4 = 1 ∨ n % 4 = 2 ∨ n % 4 = 3 := by omega
  rcases h4 with h | h | h | h <;> rw [h] <;> decide
theorem raw_pos {x : Raw6} (h : RawT.ok x) : 0 ≤ x.1 ∧ 0 ≤ x.2.1 ∧ 0 ≤ x.2.2.1 ∧ 0 ≤ x.2.2.2.1 ∧ 0 ≤ x.2.2.2.2.1 ∧ 0 ≤ x.2.2.2.2.2 := by
  obtain ⟨h1, h2, h3, h4, h5, h6⟩ := h
  exact ⟨(u8_of h1).1, (u8_of h2).1, (u8_of h3).1, (u8_of h4).1, (u8_of h5).1, (u8_of h6).1⟩
def recS (x : Raw6) : Rec := (x.2.1 % 3, 1, x.2.2.1 % 10, rawW x.2.2.2.1, x.2.2.2.2.1 % 3, 1 + x.2.2.2.2.2 % 9)
theorem c_Record (x : Raw6) : PC env 16 [⟨RawT, x⟩] RecordT (recS x) := by
  refine PC.of_PW (m := 2000) env_ok fn_16 rfl rfl rfl rfl (by kernel_rfl) ?_; intro hx; simp only [Try.f16]; simp only [go_sem, Nat.reduceBEq, ↓reduceIte, ↓reduceDIte, Nat.reduceAdd, Nat.reduceSub, Nat.reduceMul, Nat.reduceLeDiff, ← Bool.decide_and, ← Bool.decide_or, ← decide_not, Int.reduceLT, Int.reduceLE, Int.reduceToNat, Int.reduceNeg]
  obtain ⟨h1, h2, h3, h4, h5, h6⟩ := raw_pos hx.1
  dsimp only at h1 h2 h3 h4 h5 h6
  rw [Int.tmod_eq_emod_of_nonneg h2, Int.tmod_eq_emod_of_nonneg h3, Int.tmod_eq_emod_of_nonneg h5, Int.tmod_eq_emod_of_nonneg h6]
  exact ⟨_, c_WordR _, fun _ => ⟨i64_ok (by omega) (by omega), rfl⟩⟩
theorem c_IsOrder (x : Raw6) : PC env 32 [⟨RawT, x⟩] .bool (decide (x.1 % 3 = 0)) := by
  refine PC.of_PW (m := 2000) env_ok fn_32 rfl rfl rfl rfl (by kernel_rfl) ?_; intro hx; simp only [Try.f32]; simp only [go_sem, Nat.reduceBEq, ↓reduceIte, ↓reduceDIte, Nat.reduceAdd, Nat.reduceSub, Nat.reduceMul, Nat.reduceLeDiff, ← Bool.decide_and, ← Bool.decide_or, ← decide_not, Int.reduceLT, Int.reduceLE, Int.reduceToNat, Int.reduceNeg]
  obtain ⟨h1, _⟩ := raw_pos hx.1
  dsimp only at h1
  rw [Int.tmod_eq_emod_of_nonneg h1]
def kindS (x : Raw6) : Int := 1 + x.1 / 3 % 5
def ordS (x : Raw6) : Ord' := (x.2.1 % 3, 1, x.2.2.1 % 10, kindS x,
  if kindS x = 1 then rawW x.2.2.2.1 else [],
  if kindS x = 1 then 0 else if kindS x = 2 ∨ kindS x = 3 then x.2.2.2.2.1 % 3 else if kindS x = 4 then x.2.2.2.2.2 % (x.2.2.1 % 10 + 1) else 1 + x.2.2.2.2.2 % 6,
  if kindS x = 5 then x.2.2.2.2.1 % 3 else 0)
theorem c_Order (x : Raw6) : PC env 12 [⟨RawT, x⟩] OrderT (ordS x) := by
  refine PC.of_PW (m := 2000) env_ok fn_12 rfl rfl rfl rfl (by kernel_rfl) ?_; intro hx; simp only [Try.f12]; simp only [go_sem, Nat.reduceBEq, ↓reduceIte, ↓reduceDIte, Nat.reduceAdd, Nat.reduceSub, Nat.reduceMul, Nat.reduceLeDiff, ← Bool.decide_and, ← Bool.decide_or, ← decide_not, Int.reduceLT, Int.reduceLE, Int.reduceToNat, Int.reduceNeg]
  obtain ⟨h1, h2, h3, h4, h5, h6⟩ := raw_pos hx.1
  dsimp only at h1 h2 h3 h4 h5 h6
  rw [Int.tmod_eq_emod_of_nonneg h2, Int.tmod_eq_emod_of_nonneg h3, Int.tmod_eq_emod_of_nonneg h5, Int.tmod_eq_emod_of_nonneg h6, Int.tmod_eq_emod_of_nonneg h6, Int.tmod_eq_emod_of_nonneg (a := x.1 / 3) (by omega)]
  have hk : 1 + x.1 / 3 % 5 = kindS x := rfl
  rw [hk]
  have hk1 : 1 ≤ kindS x ∧ kindS x ≤ 5 := by unfold kindS; omega
  have hz : kindS x = 1 ∨ kindS x = 2 ∨ kindS x = 3 ∨ kindS x = 4 ∨ kindS x = 5 := by omega
  unfold ordS
  rcases hz with h | h | h | h | h <;> rw [h] <;> simp
  · exact ⟨h1, _, c_WordR _, fun _ => rfl⟩
  · exact h1
  · exact h1
  · have ha := Int.emod_nonneg x.2.2.1 (show (10 : Int) ≠ 0 by decide)
    have hb := Int.emod_lt_of_pos x.2.2.1 (show (0 : Int) < 10 by decide)
    exact ⟨h1, ⟨Int.le_trans (by decide) (Int.add_le_add ha (Int.le_refl 1)), Int.le_trans (Int.add_le_add (Int.le_of_lt hb) (Int.le_refl 1)) (by decide)⟩, Int.lt_of_lt_of_le (by decide) (Int.add_le_add ha (Int.le_refl 1))⟩
  · have ha := Int.emod_nonneg x.2.2.2.2.2 (show (6 : Int) ≠ 0 by decide)
    have hb := Int.emod_lt_of_pos x.2.2.2.2.2 (show (0 : Int) < 6 by decide)
    exact ⟨h1, Int.le_trans (by decide) (Int.add_le_add (Int.le_refl 1) ha), Int.le_trans (Int.add_le_add (Int.le_refl 1) (Int.le_of_lt hb)) (by decide)⟩
end Go.Proofs.Ytnncphnpajkojaa
