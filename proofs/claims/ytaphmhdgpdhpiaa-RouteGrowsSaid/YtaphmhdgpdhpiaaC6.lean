/- The law RouteModes, as a contract. Nothing here is trusted; no condition. -/
import Derived.Test.YtaphmhdgpdhpiaaC5
set_option linter.unusedSimpArgs false
set_option linter.unusedVariables false
namespace Go.Proofs.Ytaphmhdgpdhpiaa
set_option maxHeartbeats 4000000
set_option maxRecDepth 100000
theorem walkL_len (rs : List Rl) : ∀ (us : List Int) (m : Int), (walkL rs us m).1.length ≤ us.length
  | [], _ => Nat.le_refl _
  | u :: us, m => by
    unfold walkL
    repeat' split
    all_goals first | exact Nat.zero_le _ | (have := walkL_len rs us; simp only [List.length_cons]; exact Nat.succ_le_succ (this _))
theorem walkE_len (s : Sch) (w : Int × Int) (c : List Int) : (walkE s w c).1.length ≤ w.2.toNat := by
  have := walkL_len s.2.2 (c.take w.2.toNat) w.1
  rw [List.length_take] at this
  unfold walkE
  omega
theorem c_Refuses (x : RawS) (c : List Int) (w : Int × Int × Int × Int) : PC env 9 [⟨RawT, x⟩, ⟨.sl (.int .u8), c⟩, ⟨.st (.pair (.int .u8) (.pair (.int .u8) (.pair (.int .u8) (.int .u8)))), w⟩] .bool true := by
  have ko := (made3_ok x (w.1, w.2.1)).1
  have k1 := c_Made3 x (w.1, w.2.1)
  generalize made3E x (w.1, w.2.1) = S at ko k1
  refine PC.of_PW (m := 2000) env_ok fn_9 rfl rfl rfl rfl (by kernel_rfl) ?_; intro hx; simp only [Try.f9]; simp only [go_sem, Nat.reduceBEq, ↓reduceIte, ↓reduceDIte, Nat.reduceAdd, Nat.reduceSub, Nat.reduceMul, Nat.reduceLeDiff, ← Bool.decide_and, ← Bool.decide_or, ← decide_not, Int.reduceLT, Int.reduceLE, Int.reduceToNat, Int.reduceNeg]
  have hw := hx.2.2.1
  have hw0 := u8_of hw.1
  have hw1 := u8_of hw.2.1
  have hw2 := u8_of hw.2.2.1
  have hw3 := u8_of hw.2.2.2
  have k2 := c_Walk S (0, 10) c ko ⟨by decide, by decide⟩
  have hwl := walkE_len S (0, 10) c
  generalize walkE S (0, 10) c = W at k2 hwl
  obtain ⟨l, mo⟩ := W
  dsimp only at hwl
  have hlen := ko.len
  have hright := ko.right
  refine ⟨_, c_sanity, _, k1 ⟨hw0.1, hw1.1⟩, fun _ => ⟨_, k2, fun _ => ⟨fun g => ⟨_, c_Run S [(S.2.2.length : Int)] ko (by simp), fun _ => PK_cast (b' := true) ?_ ?_⟩, fun g => ?_⟩⟩⟩
  · have e : runE S [(S.2.2.length : Int)] = ([], [], 0, 0, false) := runA_big (Int.le_refl _)
    rw [e]; rfl
  · simp only [go_sem, Nat.reduceBEq, ↓reduceIte, ↓reduceDIte, Nat.reduceAdd, Nat.reduceSub, Nat.reduceMul, Nat.reduceLeDiff, ← Bool.decide_and, ← Bool.decide_or, ← decide_not, Int.reduceLT, Int.reduceLE, Int.reduceToNat, Int.reduceNeg]
  · have hln : 0 < (l.length : Int) := by dsimp only at g; omega
    have e2 : Int.tmod w.2.2.1 (l.length : Int) = w.2.2.1 % (l.length : Int) := Int.tmod_eq_emod_of_nonneg hw2.1
    have e3 : Int.tmod w.2.2.2 ((S.2.2.length : Int) + 2) = w.2.2.2 % ((S.2.2.length : Int) + 2) := Int.tmod_eq_emod_of_nonneg hw3.1
    have m2 := Int.emod_nonneg w.2.2.1 (b := (l.length : Int)) (by omega)
    have m3 := Int.emod_lt_of_pos w.2.2.1 hln
    have m4 := Int.emod_nonneg w.2.2.2 (b := (S.2.2.length : Int) + 2) (by omega)
    have m5 := Int.emod_lt_of_pos w.2.2.2 (b := (S.2.2.length : Int) + 2) (by omega)
    dsimp only
    rw [e2, e3]
    refine ⟨hln, by omega, i64_ok (by omega) (by omega), (by show (0 : Int) < (List.length S.2.2 : Int) + 2; omega), i64_ok (by omega) (by omega), ⟨m2, m3⟩, ?_⟩
    have hchl : (l.set (w.2.2.1 % (l.length : Int)).toNat (w.2.2.2 % ((S.2.2.length : Int) + 2) - 1)).length = l.length := List.length_set ..
    generalize l.set (w.2.2.1 % (l.length : Int)).toNat (w.2.2.2 % ((S.2.2.length : Int) + 2) - 1) = ch at hchl ⊢
    have kr := c_Run S ch ko (by omega)
    have hT : ∃ a b c', runA S.2.2 (ch.drop 0) a b c' 0 = runE S ch := ⟨[], [], 0, rfl⟩
    generalize runE S ch = T at kr hT
    refine Walks.loopA (X := Nat × Int) (fun (z : Nat × Int) => [(15, .iv (.int .i64) (z.1 : Int)), (14, .iv (.int .i64) z.2), (13, .iv .bool true)]) (fun (z : Nat × Int) => []) (fun (z : Nat × Int) => z.1 ≤ ch.length ∧ ∃ a b c', runA S.2.2 (ch.drop z.1) a b c' z.2 = T) (fun (z : Nat × Int) => ch.length - z.1) (0, 0) ?_; intro b1 b2 hb1 hb2; simp (config := {maxSteps := 4000000}) only [go_sem, Nat.reduceBEq, ↓reduceIte, ↓reduceDIte, Nat.reduceAdd, Nat.reduceSub, Nat.reduceMul, Nat.reduceLeDiff, ← Bool.decide_and, ← Bool.decide_or, ← decide_not, Int.reduceLT, Int.reduceLE, Int.reduceToNat, Int.reduceNeg] at hb1 hb2; subst hb1; subst hb2; refine ⟨(by refine ⟨?_, ?_, rfl, rfl⟩ <;> repeat' (first | exact trivial | exact Or.inl rfl | exact Or.inr rfl | (refine And.intro (Or.inl rfl) ?_) | (refine And.intro (Or.inr (Or.inl rfl)) ?_) | (refine And.intro (Or.inr (Or.inr (Or.inr ⟨rfl, rfl⟩))) ?_) | (refine And.intro (Or.inr (Or.inr (Or.inl ⟨rfl, rfl, trivial⟩))) ?_) | exact ⟨(by show (_ : Nat) < 1000000000; omega), rfl, rfl⟩ | rfl | (refine And.intro (Or.inl ?_) ?_) | (refine And.intro ?_ ?_))), ?_, ?_⟩
    · exact ⟨Nat.zero_le _, hT⟩
    clear hT
    intro ⟨k, m⟩ ⟨hk, a, b, c', hT⟩ back
    dsimp only at hk hT
    refine PW_sound env_ok ⟨_, fn_9, rfl⟩ 2000 _ _ (by kernel_rfl) ?_; simp only [go_sem, Nat.reduceBEq, ↓reduceIte, ↓reduceDIte, Nat.reduceAdd, Nat.reduceSub, Nat.reduceMul, Nat.reduceLeDiff, ← Bool.decide_and, ← Bool.decide_or, ← decide_not, Int.reduceLT, Int.reduceLE, Int.reduceToNat, Int.reduceNeg]
    refine ⟨fun g1 => ?_, fun g1 => ?_⟩
    · obtain ⟨j, hj⟩ : ∃ j, ch[k]? = some j := get_of_lt (by omega)
      rw [drop_cons hj] at hT
      refine ⟨⟨by omega, by omega⟩, j, hj, fun q1 => ⟨⟨by omega, by omega⟩, j, hj, fun q2 => ?_, fun q2 => ?_⟩, fun q1 => ?_⟩
      · obtain ⟨r, hr⟩ : ∃ r, S.2.2[j.toNat]? = some r := get_of_lt (by omega)
        refine ⟨⟨by omega, by omega⟩, j, hj, by omega, r, hr, fun q3 => ?_, fun q3 => ?_⟩
        · rw [runA_off (by omega) hr q3] at hT
          subst hT
          refine ⟨_, kr, fun _ => PK_cast (b' := true) rfl ?_⟩
          simp only [go_sem, Nat.reduceBEq, ↓reduceIte, ↓reduceDIte, Nat.reduceAdd, Nat.reduceSub, Nat.reduceMul, Nat.reduceLeDiff, ← Bool.decide_and, ← Bool.decide_or, ← decide_not, Int.reduceLT, Int.reduceLE, Int.reduceToNat, Int.reduceNeg]
        · rw [runA_step (by omega) hr q3] at hT
          exact ⟨⟨by omega, by omega⟩, j, hj, by omega, r, hr, i64_ok (by omega) (by omega), back _ (k + 1, r.2.1) (by refine ⟨?_, ?_, rfl, rfl⟩ <;> repeat' (first | exact trivial | exact Or.inl rfl | exact Or.inr rfl | (refine And.intro (Or.inl rfl) ?_) | (refine And.intro (Or.inr (Or.inl rfl)) ?_) | (refine And.intro (Or.inr (Or.inr (Or.inr ⟨rfl, rfl⟩))) ?_) | (refine And.intro (Or.inr (Or.inr (Or.inl ⟨rfl, rfl, trivial⟩))) ?_) | exact ⟨(by show (_ : Nat) < 1000000000; omega), rfl, rfl⟩ | rfl | (refine And.intro (Or.inl ?_) ?_) | (refine And.intro ?_ ?_))) ⟨(by first | omega | (show (_ : Int) ≤ _; omega) | (show (_ : Int) < _; omega) | (dsimp only; omega)), _, _, _, hT⟩ (by dsimp only; omega)⟩
      · rw [runA_big (by omega)] at hT
        subst hT
        refine ⟨_, kr, fun _ => PK_cast (b' := true) rfl ?_⟩
        simp only [go_sem, Nat.reduceBEq, ↓reduceIte, ↓reduceDIte, Nat.reduceAdd, Nat.reduceSub, Nat.reduceMul, Nat.reduceLeDiff, ← Bool.decide_and, ← Bool.decide_or, ← decide_not, Int.reduceLT, Int.reduceLE, Int.reduceToNat, Int.reduceNeg]
      · rw [runA_neg (by omega)] at hT
        subst hT
        refine ⟨_, kr, fun _ => PK_cast (b' := true) rfl ?_⟩
        simp only [go_sem, Nat.reduceBEq, ↓reduceIte, ↓reduceDIte, Nat.reduceAdd, Nat.reduceSub, Nat.reduceMul, Nat.reduceLeDiff, ← Bool.decide_and, ← Bool.decide_or, ← decide_not, Int.reduceLT, Int.reduceLE, Int.reduceToNat, Int.reduceNeg]
    · rw [List.drop_of_length_le (by omega)] at hT
      subst hT
      refine ⟨_, kr, fun _ => PK_cast (b' := true) rfl ?_⟩
      simp only [go_sem, Nat.reduceBEq, ↓reduceIte, ↓reduceDIte, Nat.reduceAdd, Nat.reduceSub, Nat.reduceMul, Nat.reduceLeDiff, ← Bool.decide_and, ← Bool.decide_or, ← decide_not, Int.reduceLT, Int.reduceLE, Int.reduceToNat, Int.reduceNeg]
end Go.Proofs.Ytaphmhdgpdhpiaa
namespace Go.Proofs.Ytaphmhdgpdhpiaa
set_option maxHeartbeats 4000000
set_option maxRecDepth 100000
theorem runA_inv {rs : List Rl} {i : Int} {l : List Int} {a b : Str} {c m : Int} (h : (runA rs (i :: l) a b c m).2.2.2.2 = true) : 0 ≤ i ∧ ∃ r, rs[i.toNat]? = some r ∧ r.1 = m := by
  rcases Int.lt_or_le i 0 with h0 | h0
  · rw [runA_neg h0] at h; cases h
  · cases hr : rs[i.toNat]? with
    | none =>
      rw [List.getElem?_eq_none_iff] at hr
      rw [runA_big (by omega)] at h; cases h
    | some r =>
      by_cases hm : r.1 = m
      · exact ⟨h0, r, rfl, hm⟩
      · rw [runA_off h0 hr hm] at h; cases h
/-- The beginnings of a route are routes. -/
theorem run_take {rs : List Rl} : ∀ (l : List Int) (a b : Str) (c m : Int), (runA rs l a b c m).2.2.2.2 = true → ∀ i, i ≤ l.length → ∃ A B C M, runA rs (l.take i) a b c m = (A, B, C, M, true) ∧ runA rs (l.drop i) A B C M = runA rs l a b c m
  | l, a, b, c, m, h, 0, _ => ⟨a, b, c, m, rfl, rfl⟩
  | [], _, _, _, _, _, i + 1, hi => by simp at hi
  | j :: l, a, b, c, m, h, i + 1, hi => by
    obtain ⟨h0, r, hr, hm⟩ := runA_inv h
    rw [runA_step h0 hr hm] at h ⊢
    obtain ⟨A, B, C, M, e1, e2⟩ := run_take l _ _ _ _ h i (by simpa using hi)
    refine ⟨A, B, C, M, ?_, e2⟩
    rw [List.take_succ_cons, runA_step h0 hr hm]
    exact e1
theorem run_app {rs : List Rl} {l2 : List Int} {a' b' : Str} {c' m' : Int} : ∀ (l : List Int) (a b : Str) (c : Int) {m : Int}, runA rs l a b c m = (a', b', c', m', true) → runA rs (l ++ l2) a b c m = runA rs l2 a' b' c' m'
  | [], a, b, c, m, h => by
    have e : (a, b, c, m, true) = (a', b', c', m', true) := h
    injection e with e1 e
    injection e with e2 e
    injection e with e3 e
    injection e with e4 e
    subst e1; subst e2; subst e3; subst e4
    rfl
  | j :: l, a, b, c, m, h => by
    obtain ⟨h0, r, hr, hm⟩ := runA_inv (by rw [h])
    rw [runA_step h0 hr hm] at h
    rw [List.cons_append, runA_step h0 hr hm]
    exact run_app l _ _ _ h
/-- Walks are routes. -/
theorem walk_runs {rs : List Rl} : ∀ (us : List Int) (m : Int) (a b : Str) (c : Int), ∃ A B C, runA rs (walkL rs us m).1 a b c m = (A, B, C, (walkL rs us m).2, true)
  | [], m, a, b, c => ⟨a, b, c, rfl⟩
  | u :: us, m, a, b, c => by
    cases hn : nexts m rs 0 with
    | nil => rw [walkL_stop hn]; exact ⟨a, b, c, rfl⟩
    | cons x xs =>
      cases hk : (nexts m rs 0)[(u % ((nexts m rs 0).length : Int)).toNat]? with
      | none =>
        exfalso
        rw [List.getElem?_eq_none_iff] at hk
        have hl : 0 < ((nexts m rs 0).length : Int) := by rw [hn]; simp
        have := Int.emod_lt_of_pos u hl
        have := Int.emod_nonneg u (b := ((nexts m rs 0).length : Int)) (by omega)
        omega
      | some k =>
        obtain ⟨j, r, hj, hm, rfl⟩ := nexts_mem.1 (List.mem_of_getElem? hk)
        have hj' : rs[(((0 + j : Nat) : Int)).toNat]? = some r := by rw [Int.toNat_natCast, Nat.zero_add]; exact hj
        rw [walkL_step (by rw [hn]; simp) hk hj']
        obtain ⟨A, B, C, h⟩ := walk_runs us r.2.1 (a ++ r.2.2.1) (b ++ r.2.2.2.1) (c + r.2.2.2.2)
        exact ⟨A, B, C, by rw [runA_step (Int.natCast_nonneg _) hj' hm]; exact h⟩
theorem c_Parts (x : RawS) (w : Int × Int) (c : List Int) : PC env 4 [⟨RawT, x⟩, ⟨.st (.pair (.int .u8) (.int .u8)), w⟩, ⟨.sl (.int .u8), c⟩] .bool true := by
  have ko := (made3_ok x w).1
  have k1 := c_Made3 x w
  generalize made3E x w = S at ko k1
  refine PC.of_PW (m := 2000) env_ok fn_4 rfl rfl rfl rfl (by kernel_rfl) ?_; intro hx; simp only [Try.f4]; simp only [go_sem, Nat.reduceBEq, ↓reduceIte, ↓reduceDIte, Nat.reduceAdd, Nat.reduceSub, Nat.reduceMul, Nat.reduceLeDiff, ← Bool.decide_and, ← Bool.decide_or, ← decide_not, Int.reduceLT, Int.reduceLE, Int.reduceToNat, Int.reduceNeg]
  have hw0 := u8_of hx.2.1.1
  have hw1 := u8_of hx.2.1.2
  have k2 := c_Walk S (0, 10) c ko ⟨by decide, by decide⟩
  have hwl := walkE_len S (0, 10) c
  obtain ⟨A, B, C, hrun⟩ := walk_runs (rs := S.2.2) (c.take 10) 0 [] [] 0
  have hrun' : runE S (walkE S (0, 10) c).1 = (A, B, C, (walkE S (0, 10) c).2, true) := hrun
  clear hrun
  generalize walkE S (0, 10) c = W at k2 hwl hrun'
  obtain ⟨l, mo⟩ := W
  dsimp only at hwl hrun'
  have hlen := ko.len
  have hright := ko.right
  have k3 := c_Run S l ko (by omega)
  rw [hrun'] at k3
  refine ⟨_, c_sanity, _, k1 ⟨hw0.1, hw1.1⟩, fun _ => ⟨_, k2, fun _ => ⟨_, k3, fun _ => ?_⟩⟩⟩
  refine PK_cast (b' := false) rfl ?_
  simp only [go_sem, Nat.reduceBEq, ↓reduceIte, ↓reduceDIte, Nat.reduceAdd, Nat.reduceSub, Nat.reduceMul, Nat.reduceLeDiff, ← Bool.decide_and, ← Bool.decide_or, ← decide_not, Int.reduceLT, Int.reduceLE, Int.reduceToNat, Int.reduceNeg]
  have hs0 : bytesOf ⟨#[]⟩ = [] := rfl
  rw [hs0]
  have hok : (runA S.2.2 l [] [] 0 0).2.2.2.2 = true := by show (runE S l).2.2.2.2 = true; rw [hrun']
  refine Walks.loopA (X := Nat × Str × Str × Int × Int) (fun (z : Nat × Str × Str × Int × Int) => [(15, .iv (.int .i64) (z.1 : Int)), (12, .iv .str z.2.1), (13, .iv .str z.2.2.1), (14, .iv (.int .i64) z.2.2.2.1), (16, .any)]) (fun (z : Nat × Str × Str × Int × Int) => []) (fun (z : Nat × Str × Str × Int × Int) => z.1 ≤ l.length + 1 ∧ z.2.1.length ≤ 4 * z.1 ∧ z.2.2.1.length ≤ 4 * z.1 ∧ 0 ≤ z.2.2.2.1 ∧ z.2.2.2.1 ≤ 1000 * (z.1 : Int) ∧ runA S.2.2 (l.take z.1) [] [] 0 0 = (z.2.1, z.2.2.1, z.2.2.2.1, z.2.2.2.2, true) ∧ runA S.2.2 (l.drop z.1) z.2.1 z.2.2.1 z.2.2.2.1 z.2.2.2.2 = (A, B, C, mo, true)) (fun (z : Nat × Str × Str × Int × Int) => l.length + 1 - z.1) (0, [], [], 0, 0) ?_; intro b1 b2 hb1 hb2; simp (config := {maxSteps := 4000000}) only [go_sem, Nat.reduceBEq, ↓reduceIte, ↓reduceDIte, Nat.reduceAdd, Nat.reduceSub, Nat.reduceMul, Nat.reduceLeDiff, ← Bool.decide_and, ← Bool.decide_or, ← decide_not, Int.reduceLT, Int.reduceLE, Int.reduceToNat, Int.reduceNeg] at hb1 hb2; subst hb1; subst hb2; refine ⟨(by refine ⟨?_, ?_, rfl, rfl⟩ <;> repeat' (first | exact trivial | exact Or.inl rfl | exact Or.inr rfl | (refine And.intro (Or.inl rfl) ?_) | (refine And.intro (Or.inr (Or.inl rfl)) ?_) | (refine And.intro (Or.inr (Or.inr (Or.inr ⟨rfl, rfl⟩))) ?_) | (refine And.intro (Or.inr (Or.inr (Or.inl ⟨rfl, rfl, trivial⟩))) ?_) | exact ⟨(by show (_ : Nat) < 1000000000; omega), rfl, rfl⟩ | rfl | (refine And.intro (Or.inl ?_) ?_) | (refine And.intro ?_ ?_))), ?_, ?_⟩
  · exact ⟨Nat.zero_le _, Nat.le_refl _, Nat.le_refl _, Int.le_refl _, Int.le_refl _, rfl, hrun'⟩
  intro ⟨i, a, b, c', m⟩ ⟨hi, ha, hb, hc0, hc1, h1, h2⟩ back
  dsimp only at hi ha hb hc0 hc1 h1 h2
  have k4 := c_Run S (l.take i) ko (by rw [List.length_take]; omega)
  have h1' : runE S (l.take i) = (a, b, c', m, true) := h1
  rw [h1'] at k4
  refine PW_sound env_ok ⟨_, fn_4, rfl⟩ 2000 _ _ (by kernel_rfl) ?_; simp only [go_sem, Nat.reduceBEq, ↓reduceIte, ↓reduceDIte, Nat.reduceAdd, Nat.reduceSub, Nat.reduceMul, Nat.reduceLeDiff, ← Bool.decide_and, ← Bool.decide_or, ← decide_not, Int.reduceLT, Int.reduceLE, Int.reduceToNat, Int.reduceNeg]
  refine ⟨fun g1 => ⟨⟨by omega, by omega⟩, _, k4, fun _ => PK_cast (b' := false) rfl ?_⟩, fun g1 => ?_⟩
  · simp only [go_sem, Nat.reduceBEq, ↓reduceIte, ↓reduceDIte, Nat.reduceAdd, Nat.reduceSub, Nat.reduceMul, Nat.reduceLeDiff, ← Bool.decide_and, ← Bool.decide_or, ← decide_not, Int.reduceLT, Int.reduceLE, Int.reduceToNat, Int.reduceNeg]
    refine ⟨fun g2 => ?_, fun g2 => ?_⟩
    · obtain ⟨j, hj⟩ : ∃ j, l[i]? = some j := get_of_lt (by omega)
      rw [drop_cons hj] at h2
      obtain ⟨hj0, r, hr, hm⟩ := runA_inv (by rw [h2])
      have hrn := right_nums (hright r (List.mem_of_getElem? hr))
      have h3 : runA S.2.2 (l.take (i + 1)) [] [] 0 0 = (a ++ r.2.2.1, b ++ r.2.2.2.1, c' + r.2.2.2.2, r.2.1, true) := by
        rw [take_snoc hj, run_app _ _ _ _ h1, runA_step hj0 hr hm]; rfl
      rw [runA_step hj0 hr hm] at h2
      refine ⟨Int.natCast_nonneg _, j, hj, hj0, r, hr, by omega, Int.natCast_nonneg _, j, hj, hj0, r, hr, by omega, Int.natCast_nonneg _, j, hj, hj0, r, hr, i64_ok (by omega) (by omega), i64_ok (by omega) (by omega), ?_⟩
      exact back _ (i + 1, a ++ r.2.2.1, b ++ r.2.2.2.1, c' + r.2.2.2.2, r.2.1) (by refine ⟨?_, ?_, rfl, rfl⟩ <;> repeat' (first | exact trivial | exact Or.inl rfl | exact Or.inr rfl | (refine And.intro (Or.inl rfl) ?_) | (refine And.intro (Or.inr (Or.inl rfl)) ?_) | (refine And.intro (Or.inr (Or.inr (Or.inr ⟨rfl, rfl⟩))) ?_) | (refine And.intro (Or.inr (Or.inr (Or.inl ⟨rfl, rfl, trivial⟩))) ?_) | exact ⟨(by show (_ : Nat) < 1000000000; omega), rfl, rfl⟩ | rfl | (refine And.intro (Or.inl ?_) ?_) | (refine And.intro ?_ ?_))) ⟨(by first | omega | (show (_ : Int) ≤ _; omega) | (show (_ : Int) < _; omega) | (dsimp only; omega)), by dsimp only; rw [List.length_append]; omega, by dsimp only; rw [List.length_append]; omega, by dsimp only; omega, by dsimp only; omega, h3, h2⟩ (by dsimp only; omega)
    · rw [List.take_of_length_le (by omega)] at h1
      rw [List.drop_of_length_le (by omega)] at h2
      exact ⟨i64_ok (by omega) (by omega), back _ (i + 1, a, b, c', m) (by refine ⟨?_, ?_, rfl, rfl⟩ <;> repeat' (first | exact trivial | exact Or.inl rfl | exact Or.inr rfl | (refine And.intro (Or.inl rfl) ?_) | (refine And.intro (Or.inr (Or.inl rfl)) ?_) | (refine And.intro (Or.inr (Or.inr (Or.inr ⟨rfl, rfl⟩))) ?_) | (refine And.intro (Or.inr (Or.inr (Or.inl ⟨rfl, rfl, trivial⟩))) ?_) | exact ⟨(by show (_ : Nat) < 1000000000; omega), rfl, rfl⟩ | rfl | (refine And.intro (Or.inl ?_) ?_) | (refine And.intro ?_ ?_))) ⟨(by first | omega | (show (_ : Int) ≤ _; omega) | (show (_ : Int) < _; omega) | (dsimp only; omega)), by dsimp only; omega, by dsimp only; omega, hc0, by dsimp only; omega, by dsimp only; rw [List.take_of_length_le (by omega)]; exact h1, by dsimp only; rw [List.drop_of_length_le (by omega)]; exact h2⟩ (by dsimp only; omega)⟩
  · rw [List.drop_of_length_le (by omega)] at h2
    have e : (a, b, c', m, true) = (A, B, C, mo, true) := h2
    injection e with e1 e
    injection e with e2 e
    injection e with e3 e
    subst e1; subst e2; subst e3
    simp
end Go.Proofs.Ytaphmhdgpdhpiaa
namespace Go.Proofs.Ytaphmhdgpdhpiaa
set_option maxHeartbeats 4000000
set_option maxRecDepth 100000
theorem reached_len (s : Sch) : (reachedE s).length = s.1.toNat := by unfold reachedE; rw [closC_len]; unfold startR; simp
theorem live_len (s : Sch) : (liveE s).length = s.1.toNat := by unfold liveE; rw [closC_len, startL_len]
theorem edgesR_lt {s : Sch} (hs : OkS s) : ∀ e, e ∈ edgesR s.2.2 → e.2 < (startR s.1.toNat).length := by
  intro e he
  unfold edgesR at he
  obtain ⟨r, hr, rfl⟩ := List.mem_map.1 he
  have := right_nums (hs.right r hr)
  unfold startR
  simp
  omega
theorem edgesL_lt {s : Sch} (hs : OkS s) : ∀ e, e ∈ edgesL s.2.2 → e.2 < (startL s.2.1 s.1.toNat).length := by
  intro e he
  unfold edgesL at he
  obtain ⟨r, hr, rfl⟩ := List.mem_map.1 he
  have := right_nums (hs.right r hr)
  rw [startL_len]
  show r.1.toNat < _
  omega
theorem reached_iff {s : Sch} (hs : OkS s) (m : Nat) : on (reachedE s) m ↔ Cl (edgesR s.2.2) (startR s.1.toNat) m :=
  clos_iff (edgesR_lt hs) (by unfold startR; simp) m
theorem live_cl {s : Sch} (hs : OkS s) (m : Nat) : on (liveE s) m ↔ Cl (edgesL s.2.2) (startL s.2.1 s.1.toNat) m :=
  clos_iff (edgesL_lt hs) (by rw [startL_len]; exact Nat.le_refl _) m
theorem reached_zero {s : Sch} (hs : OkS s) : on (reachedE s) 0 := (reached_iff hs 0).2 (.base 0 (on_set_self (by have := hs.n1; rw [List.length_replicate]; omega)))
theorem reached_step {s : Sch} (hs : OkS s) {r : Rl} (hr : r ∈ s.2.2) (h : on (reachedE s) r.1.toNat) : on (reachedE s) r.2.1.toNat :=
  (reached_iff hs _).2 (.step _ _ ((reached_iff hs _).1 h) (List.mem_map.2 ⟨r, hr, rfl⟩))
theorem live_step {s : Sch} (hs : OkS s) {r : Rl} (hr : r ∈ s.2.2) (h : on (liveE s) r.2.1.toNat) : on (liveE s) r.1.toNat :=
  (live_cl hs _).2 (.step _ _ ((live_cl hs _).1 h) (List.mem_map.2 ⟨r, hr, rfl⟩))
theorem live_acc {s : Sch} (hs : OkS s) {m : Nat} (hm : m < s.1.toNat) (h : accB s.2.1 (m : Int) = true) : on (liveE s) m :=
  (live_cl hs _).2 (.base m (by unfold on; rw [startL_at hm, h]))
theorem run_reached {s : Sch} (hs : OkS s) : ∀ (l : List Int) (a b : Str) (c m : Int), on (reachedE s) m.toNat → (runA s.2.2 l a b c m).2.2.2.2 = true → on (reachedE s) (runA s.2.2 l a b c m).2.2.2.1.toNat
  | [], _, _, _, _, h, _ => h
  | j :: l, a, b, c, m, h, hok => by
    obtain ⟨h0, r, hr, hm⟩ := runA_inv hok
    rw [runA_step h0 hr hm] at hok ⊢
    exact run_reached hs l _ _ _ _ (reached_step hs (List.mem_of_getElem? hr) (by rw [hm]; exact h)) hok
theorem PB_cast {E : Env} {G : Goal} {n : Nat} {b b' : Bool} {x y : Code} {k : List WI} {s : St} (h : b = b') (hp : PB E G n (.iv .bool b') x y k s) : PB E G n (.iv .bool b) x y k s := by rw [h]; exact hp
theorem walk_mode {s : Sch} (hs : OkS s) : ∀ (us : List Int) (m : Int), 0 ≤ m → 0 ≤ (walkL s.2.2 us m).2
  | us, m, h => by
    obtain ⟨A, B, C, hrun⟩ := walk_runs (rs := s.2.2) us m [] [] 0
    have : ∀ (l : List Int) (a b : Str) (c m : Int), 0 ≤ m → (runA s.2.2 l a b c m).2.2.2.2 = true → 0 ≤ (runA s.2.2 l a b c m).2.2.2.1 := by
      intro l
      induction l with
      | nil => intro a b c m h _; exact h
      | cons j l ih =>
        intro a b c m h hok
        obtain ⟨h0, r, hr, hm⟩ := runA_inv hok
        rw [runA_step h0 hr hm] at hok ⊢
        exact ih _ _ _ _ (right_nums (hs.right r (List.mem_of_getElem? hr))).2.2.1 hok
    have := this (walkL s.2.2 us m).1 [] [] 0 m h (by rw [hrun])
    rw [hrun] at this
    exact this
theorem c_Modes (x : RawS) (w : Int × Int) (c : List Int) : PC env 5 [⟨RawT, x⟩, ⟨.st (.pair (.int .u8) (.int .u8)), w⟩, ⟨.sl (.int .u8), c⟩] .bool true := by
  have ko := (made3_ok x w).1
  have k1 := c_Made3 x w
  generalize made3E x w = S at ko k1
  refine PC.of_PW (m := 2000) env_ok fn_5 rfl rfl rfl rfl (by kernel_rfl) ?_; intro hx; simp only [Try.f5]; simp only [go_sem, Nat.reduceBEq, ↓reduceIte, ↓reduceDIte, Nat.reduceAdd, Nat.reduceSub, Nat.reduceMul, Nat.reduceLeDiff, ← Bool.decide_and, ← Bool.decide_or, ← decide_not, Int.reduceLT, Int.reduceLE, Int.reduceToNat, Int.reduceNeg]
  have hw0 := u8_of hx.2.1.1
  have hw1 := u8_of hx.2.1.2
  have k2 := c_Reached S ko
  have k3 := c_Live S ko
  have n1 := ko.n1
  have n8 := ko.n8
  have hRl := reached_len S
  have hLl := live_len S
  refine ⟨_, c_sanity, _, k1 ⟨hw0.1, hw1.1⟩, fun _ => ⟨_, k2, fun _ => ⟨_, k3, fun _ => ?_⟩⟩⟩
  have k4 := c_Walk S (0, 10) c ko ⟨by decide, by decide⟩
  obtain ⟨A, B, C, hrun⟩ := walk_runs (rs := S.2.2) (c.take 10) 0 [] [] 0
  have hW : (walkE S (0, 10) c).2 = (walkL S.2.2 (c.take 10) 0).2 := rfl
  have hon : on (reachedE S) (walkE S (0, 10) c).2.toNat := by
    have := run_reached ko (walkL S.2.2 (c.take 10) 0).1 [] [] 0 0 (reached_zero ko) (by rw [hrun])
    rw [hrun] at this
    rw [hW]; exact this
  have hmo : 0 ≤ (walkE S (0, 10) c).2 := by rw [hW]; exact walk_mode ko _ _ (Int.le_refl _)
  generalize walkE S (0, 10) c = W at k4 hon hmo
  refine ⟨fun _ => ⟨fun _ => ⟨true, reached_zero ko, ?_⟩, fun h => absurd (by omega) h⟩, fun h => absurd (by omega) h⟩
  simp only [go_sem, Nat.reduceBEq, ↓reduceIte, ↓reduceDIte, Nat.reduceAdd, Nat.reduceSub, Nat.reduceMul, Nat.reduceLeDiff, ← Bool.decide_and, ← Bool.decide_or, ← decide_not, Int.reduceLT, Int.reduceLE, Int.reduceToNat, Int.reduceNeg]
  refine ⟨_, k4, fun _ => ?_⟩
  have hlen := ko.len
  have hright := ko.right
  refine Walks.loopA (X := Nat) (fun (z : Nat) => [(13, .iv (.int .i64) (z : Int)), (14, .any)]) (fun (z : Nat) => []) (fun (z : Nat) => z ≤ S.2.2.length) (fun (z : Nat) => S.2.2.length - z) 0 ?_; intro b1 b2 hb1 hb2; simp (config := {maxSteps := 4000000}) only [go_sem, Nat.reduceBEq, ↓reduceIte, ↓reduceDIte, Nat.reduceAdd, Nat.reduceSub, Nat.reduceMul, Nat.reduceLeDiff, ← Bool.decide_and, ← Bool.decide_or, ← decide_not, Int.reduceLT, Int.reduceLE, Int.reduceToNat, Int.reduceNeg] at hb1 hb2; subst hb1; subst hb2; refine ⟨(by refine ⟨?_, ?_, rfl, rfl⟩ <;> repeat' (first | exact trivial | exact Or.inl rfl | exact Or.inr rfl | (refine And.intro (Or.inl rfl) ?_) | (refine And.intro (Or.inr (Or.inl rfl)) ?_) | (refine And.intro (Or.inr (Or.inr (Or.inr ⟨rfl, rfl⟩))) ?_) | (refine And.intro (Or.inr (Or.inr (Or.inl ⟨rfl, rfl, trivial⟩))) ?_) | exact ⟨(by show (_ : Nat) < 1000000000; omega), rfl, rfl⟩ | rfl | (refine And.intro (Or.inl ?_) ?_) | (refine And.intro ?_ ?_))), ?_, ?_⟩
  · exact Nat.zero_le _
  intro i hi back
  refine PW_sound env_ok ⟨_, fn_5, rfl⟩ 2000 _ _ (by kernel_rfl) ?_; simp only [go_sem, Nat.reduceBEq, ↓reduceIte, ↓reduceDIte, Nat.reduceAdd, Nat.reduceSub, Nat.reduceMul, Nat.reduceLeDiff, ← Bool.decide_and, ← Bool.decide_or, ← decide_not, Int.reduceLT, Int.reduceLE, Int.reduceToNat, Int.reduceNeg]
  refine ⟨fun g1 => ?_, fun g1 => ?_⟩
  · obtain ⟨r, hr⟩ : ∃ r, S.2.2[i]? = some r := get_of_lt (by omega)
    have hrm := List.mem_of_getElem? hr
    have hrn := right_nums (hright r hrm)
    obtain ⟨b1, hb1⟩ : ∃ b, (reachedE S)[r.1.toNat]? = some b := get_of_lt (by omega)
    obtain ⟨b2, hb2⟩ : ∃ b, (reachedE S)[r.2.1.toNat]? = some b := get_of_lt (by omega)
    obtain ⟨b3, hb3⟩ : ∃ b, (liveE S)[r.2.1.toNat]? = some b := get_of_lt (by omega)
    obtain ⟨b4, hb4⟩ : ∃ b, (liveE S)[r.1.toNat]? = some b := get_of_lt (by omega)
    refine ⟨Int.natCast_nonneg _, r, hr, ?_⟩
    refine ⟨by omega, b1, hb1, ?_⟩
    cases b1
    · simp only [go_sem, Nat.reduceBEq, ↓reduceIte, ↓reduceDIte, Nat.reduceAdd, Nat.reduceSub, Nat.reduceMul, Nat.reduceLeDiff, ← Bool.decide_and, ← Bool.decide_or, ← decide_not, Int.reduceLT, Int.reduceLE, Int.reduceToNat, Int.reduceNeg]
      refine ⟨by omega, b3, hb3, ?_⟩
      cases b3
      · simp only [go_sem, Nat.reduceBEq, ↓reduceIte, ↓reduceDIte, Nat.reduceAdd, Nat.reduceSub, Nat.reduceMul, Nat.reduceLeDiff, ← Bool.decide_and, ← Bool.decide_or, ← decide_not, Int.reduceLT, Int.reduceLE, Int.reduceToNat, Int.reduceNeg]
        exact ⟨i64_ok (by omega) (by omega), back _ (i + 1) (by refine ⟨?_, ?_, rfl, rfl⟩ <;> repeat' (first | exact trivial | exact Or.inl rfl | exact Or.inr rfl | (refine And.intro (Or.inl rfl) ?_) | (refine And.intro (Or.inr (Or.inl rfl)) ?_) | (refine And.intro (Or.inr (Or.inr (Or.inr ⟨rfl, rfl⟩))) ?_) | (refine And.intro (Or.inr (Or.inr (Or.inl ⟨rfl, rfl, trivial⟩))) ?_) | exact ⟨(by show (_ : Nat) < 1000000000; omega), rfl, rfl⟩ | rfl | (refine And.intro (Or.inl ?_) ?_) | (refine And.intro ?_ ?_))) (by omega) (by omega)⟩
      · have e4 : b4 = true := by have := live_step ko hrm hb3; unfold on at this; rw [hb4] at this; injection this
        subst e4
        simp only [go_sem, Nat.reduceBEq, ↓reduceIte, ↓reduceDIte, Nat.reduceAdd, Nat.reduceSub, Nat.reduceMul, Nat.reduceLeDiff, ← Bool.decide_and, ← Bool.decide_or, ← decide_not, Int.reduceLT, Int.reduceLE, Int.reduceToNat, Int.reduceNeg]
        refine ⟨by omega, true, hb4, ?_⟩
        simp only [go_sem, Nat.reduceBEq, ↓reduceIte, ↓reduceDIte, Nat.reduceAdd, Nat.reduceSub, Nat.reduceMul, Nat.reduceLeDiff, ← Bool.decide_and, ← Bool.decide_or, ← decide_not, Int.reduceLT, Int.reduceLE, Int.reduceToNat, Int.reduceNeg]
        exact ⟨i64_ok (by omega) (by omega), back _ (i + 1) (by refine ⟨?_, ?_, rfl, rfl⟩ <;> repeat' (first | exact trivial | exact Or.inl rfl | exact Or.inr rfl | (refine And.intro (Or.inl rfl) ?_) | (refine And.intro (Or.inr (Or.inl rfl)) ?_) | (refine And.intro (Or.inr (Or.inr (Or.inr ⟨rfl, rfl⟩))) ?_) | (refine And.intro (Or.inr (Or.inr (Or.inl ⟨rfl, rfl, trivial⟩))) ?_) | exact ⟨(by show (_ : Nat) < 1000000000; omega), rfl, rfl⟩ | rfl | (refine And.intro (Or.inl ?_) ?_) | (refine And.intro ?_ ?_))) (by omega) (by omega)⟩
    · have e2 : b2 = true := by have := reached_step ko hrm hb1; unfold on at this; rw [hb2] at this; injection this
      subst e2
      simp only [go_sem, Nat.reduceBEq, ↓reduceIte, ↓reduceDIte, Nat.reduceAdd, Nat.reduceSub, Nat.reduceMul, Nat.reduceLeDiff, ← Bool.decide_and, ← Bool.decide_or, ← decide_not, Int.reduceLT, Int.reduceLE, Int.reduceToNat, Int.reduceNeg]
      refine ⟨by omega, true, hb2, ?_⟩
      simp only [go_sem, Nat.reduceBEq, ↓reduceIte, ↓reduceDIte, Nat.reduceAdd, Nat.reduceSub, Nat.reduceMul, Nat.reduceLeDiff, ← Bool.decide_and, ← Bool.decide_or, ← decide_not, Int.reduceLT, Int.reduceLE, Int.reduceToNat, Int.reduceNeg]
      refine ⟨by omega, b3, hb3, ?_⟩
      cases b3
      · simp only [go_sem, Nat.reduceBEq, ↓reduceIte, ↓reduceDIte, Nat.reduceAdd, Nat.reduceSub, Nat.reduceMul, Nat.reduceLeDiff, ← Bool.decide_and, ← Bool.decide_or, ← decide_not, Int.reduceLT, Int.reduceLE, Int.reduceToNat, Int.reduceNeg]
        exact ⟨i64_ok (by omega) (by omega), back _ (i + 1) (by refine ⟨?_, ?_, rfl, rfl⟩ <;> repeat' (first | exact trivial | exact Or.inl rfl | exact Or.inr rfl | (refine And.intro (Or.inl rfl) ?_) | (refine And.intro (Or.inr (Or.inl rfl)) ?_) | (refine And.intro (Or.inr (Or.inr (Or.inr ⟨rfl, rfl⟩))) ?_) | (refine And.intro (Or.inr (Or.inr (Or.inl ⟨rfl, rfl, trivial⟩))) ?_) | exact ⟨(by show (_ : Nat) < 1000000000; omega), rfl, rfl⟩ | rfl | (refine And.intro (Or.inl ?_) ?_) | (refine And.intro ?_ ?_))) (by omega) (by omega)⟩
      · have e4 : b4 = true := by have := live_step ko hrm hb3; unfold on at this; rw [hb4] at this; injection this
        subst e4
        simp only [go_sem, Nat.reduceBEq, ↓reduceIte, ↓reduceDIte, Nat.reduceAdd, Nat.reduceSub, Nat.reduceMul, Nat.reduceLeDiff, ← Bool.decide_and, ← Bool.decide_or, ← decide_not, Int.reduceLT, Int.reduceLE, Int.reduceToNat, Int.reduceNeg]
        refine ⟨by omega, true, hb4, ?_⟩
        simp only [go_sem, Nat.reduceBEq, ↓reduceIte, ↓reduceDIte, Nat.reduceAdd, Nat.reduceSub, Nat.reduceMul, Nat.reduceLeDiff, ← Bool.decide_and, ← Bool.decide_or, ← decide_not, Int.reduceLT, Int.reduceLE, Int.reduceToNat, Int.reduceNeg]
        exact ⟨i64_ok (by omega) (by omega), back _ (i + 1) (by refine ⟨?_, ?_, rfl, rfl⟩ <;> repeat' (first | exact trivial | exact Or.inl rfl | exact Or.inr rfl | (refine And.intro (Or.inl rfl) ?_) | (refine And.intro (Or.inr (Or.inl rfl)) ?_) | (refine And.intro (Or.inr (Or.inr (Or.inr ⟨rfl, rfl⟩))) ?_) | (refine And.intro (Or.inr (Or.inr (Or.inl ⟨rfl, rfl, trivial⟩))) ?_) | exact ⟨(by show (_ : Nat) < 1000000000; omega), rfl, rfl⟩ | rfl | (refine And.intro (Or.inl ?_) ?_) | (refine And.intro ?_ ?_))) (by omega) (by omega)⟩
  · clear back hi g1
    refine Walks.loopA (X := Nat) (fun (z : Nat) => [(15, .iv (.int .i64) (z : Int)), (16, .any), (17, .any), (18, .any)]) (fun (z : Nat) => []) (fun (z : Nat) => z ≤ S.1.toNat) (fun (z : Nat) => S.1.toNat - z) 0 ?_; intro b1 b2 hb1 hb2; simp (config := {maxSteps := 4000000}) only [go_sem, Nat.reduceBEq, ↓reduceIte, ↓reduceDIte, Nat.reduceAdd, Nat.reduceSub, Nat.reduceMul, Nat.reduceLeDiff, ← Bool.decide_and, ← Bool.decide_or, ← decide_not, Int.reduceLT, Int.reduceLE, Int.reduceToNat, Int.reduceNeg] at hb1 hb2; subst hb1; subst hb2; refine ⟨(by refine ⟨?_, ?_, rfl, rfl⟩ <;> repeat' (first | exact trivial | exact Or.inl rfl | exact Or.inr rfl | (refine And.intro (Or.inl rfl) ?_) | (refine And.intro (Or.inr (Or.inl rfl)) ?_) | (refine And.intro (Or.inr (Or.inr (Or.inr ⟨rfl, rfl⟩))) ?_) | (refine And.intro (Or.inr (Or.inr (Or.inl ⟨rfl, rfl, trivial⟩))) ?_) | exact ⟨(by show (_ : Nat) < 1000000000; omega), rfl, rfl⟩ | rfl | (refine And.intro (Or.inl ?_) ?_) | (refine And.intro ?_ ?_))), ?_, ?_⟩
    · exact Nat.zero_le _
    intro i hi back
    refine PW_sound env_ok ⟨_, fn_5, rfl⟩ 2000 _ _ (by kernel_rfl) ?_; simp only [go_sem, Nat.reduceBEq, ↓reduceIte, ↓reduceDIte, Nat.reduceAdd, Nat.reduceSub, Nat.reduceMul, Nat.reduceLeDiff, ← Bool.decide_and, ← Bool.decide_or, ← decide_not, Int.reduceLT, Int.reduceLE, Int.reduceToNat, Int.reduceNeg]
    refine ⟨fun g1 => ?_, fun g1 => ?_⟩
    · have kl := c_Least S (i : Int) ko
      have ka := c_Accepts S (i : Int) ⟨Int.natCast_nonneg _, by omega⟩
      obtain ⟨b, hb⟩ : ∃ b, (liveE S)[i]? = some b := get_of_lt (by omega)
      cases b
      · have hno : ¬ on (liveE S) ((i : Int)).toNat := by unfold on; rw [Int.toNat_natCast, hb]; simp
        rw [leastR_none ko ⟨by omega, by omega⟩ hno] at kl
        have hacc : accB S.2.1 (i : Int) = false := by
          cases h : accB S.2.1 (i : Int) with
          | false => rfl
          | true => exact absurd (live_acc ko (by omega) h) (by simpa using hno)
        rw [hacc] at ka
        refine ⟨_, kl, fun _ => ⟨_, ka, ?_⟩⟩
        simp only [go_sem, Nat.reduceBEq, ↓reduceIte, ↓reduceDIte, Nat.reduceAdd, Nat.reduceSub, Nat.reduceMul, Nat.reduceLeDiff, ← Bool.decide_and, ← Bool.decide_or, ← decide_not, Int.reduceLT, Int.reduceLE, Int.reduceToNat, Int.reduceNeg]
        refine ⟨Int.natCast_nonneg _, false, hb, PB_cast (b' := false) rfl ?_⟩
        simp only [go_sem, Nat.reduceBEq, ↓reduceIte, ↓reduceDIte, Nat.reduceAdd, Nat.reduceSub, Nat.reduceMul, Nat.reduceLeDiff, ← Bool.decide_and, ← Bool.decide_or, ← decide_not, Int.reduceLT, Int.reduceLE, Int.reduceToNat, Int.reduceNeg]
        exact ⟨i64_ok (by omega) (by omega), back _ (i + 1) (by refine ⟨?_, ?_, rfl, rfl⟩ <;> repeat' (first | exact trivial | exact Or.inl rfl | exact Or.inr rfl | (refine And.intro (Or.inl rfl) ?_) | (refine And.intro (Or.inr (Or.inl rfl)) ?_) | (refine And.intro (Or.inr (Or.inr (Or.inr ⟨rfl, rfl⟩))) ?_) | (refine And.intro (Or.inr (Or.inr (Or.inl ⟨rfl, rfl, trivial⟩))) ?_) | exact ⟨(by show (_ : Nat) < 1000000000; omega), rfl, rfl⟩ | rfl | (refine And.intro (Or.inl ?_) ?_) | (refine And.intro ?_ ?_))) (by omega) (by omega)⟩
      · obtain ⟨l, hL, _, hR⟩ := leastR_some ko (m := (i : Int)) ⟨by omega, by omega⟩ (by unfold on; rw [Int.toNat_natCast]; exact hb)
        rw [hR] at kl
        refine ⟨_, kl, fun _ => ⟨_, ka, ?_⟩⟩
        cases hacc : accB S.2.1 (i : Int)
        · simp only [go_sem, Nat.reduceBEq, ↓reduceIte, ↓reduceDIte, Nat.reduceAdd, Nat.reduceSub, Nat.reduceMul, Nat.reduceLeDiff, ← Bool.decide_and, ← Bool.decide_or, ← decide_not, Int.reduceLT, Int.reduceLE, Int.reduceToNat, Int.reduceNeg]
          refine ⟨Int.natCast_nonneg _, true, hb, PB_cast (b' := false) rfl ?_⟩
          simp only [go_sem, Nat.reduceBEq, ↓reduceIte, ↓reduceDIte, Nat.reduceAdd, Nat.reduceSub, Nat.reduceMul, Nat.reduceLeDiff, ← Bool.decide_and, ← Bool.decide_or, ← decide_not, Int.reduceLT, Int.reduceLE, Int.reduceToNat, Int.reduceNeg]
          exact ⟨i64_ok (by omega) (by omega), back _ (i + 1) (by refine ⟨?_, ?_, rfl, rfl⟩ <;> repeat' (first | exact trivial | exact Or.inl rfl | exact Or.inr rfl | (refine And.intro (Or.inl rfl) ?_) | (refine And.intro (Or.inr (Or.inl rfl)) ?_) | (refine And.intro (Or.inr (Or.inr (Or.inr ⟨rfl, rfl⟩))) ?_) | (refine And.intro (Or.inr (Or.inr (Or.inl ⟨rfl, rfl, trivial⟩))) ?_) | exact ⟨(by show (_ : Nat) < 1000000000; omega), rfl, rfl⟩ | rfl | (refine And.intro (Or.inl ?_) ?_) | (refine And.intro ?_ ?_))) (by omega) (by omega)⟩
        · simp only [go_sem, Nat.reduceBEq, ↓reduceIte, ↓reduceDIte, Nat.reduceAdd, Nat.reduceSub, Nat.reduceMul, Nat.reduceLeDiff, ← Bool.decide_and, ← Bool.decide_or, ← decide_not, Int.reduceLT, Int.reduceLE, Int.reduceToNat, Int.reduceNeg]
          refine ⟨Int.natCast_nonneg _, true, hb, PK_cast (b' := false) rfl ?_⟩
          simp only [go_sem, Nat.reduceBEq, ↓reduceIte, ↓reduceDIte, Nat.reduceAdd, Nat.reduceSub, Nat.reduceMul, Nat.reduceLeDiff, ← Bool.decide_and, ← Bool.decide_or, ← decide_not, Int.reduceLT, Int.reduceLE, Int.reduceToNat, Int.reduceNeg]
          refine ⟨Int.natCast_nonneg _, true, hb, PB_cast (b' := false) rfl ?_⟩
          simp only [go_sem, Nat.reduceBEq, ↓reduceIte, ↓reduceDIte, Nat.reduceAdd, Nat.reduceSub, Nat.reduceMul, Nat.reduceLeDiff, ← Bool.decide_and, ← Bool.decide_or, ← decide_not, Int.reduceLT, Int.reduceLE, Int.reduceToNat, Int.reduceNeg]
          exact ⟨i64_ok (by omega) (by omega), back _ (i + 1) (by refine ⟨?_, ?_, rfl, rfl⟩ <;> repeat' (first | exact trivial | exact Or.inl rfl | exact Or.inr rfl | (refine And.intro (Or.inl rfl) ?_) | (refine And.intro (Or.inr (Or.inl rfl)) ?_) | (refine And.intro (Or.inr (Or.inr (Or.inr ⟨rfl, rfl⟩))) ?_) | (refine And.intro (Or.inr (Or.inr (Or.inl ⟨rfl, rfl, trivial⟩))) ?_) | exact ⟨(by show (_ : Nat) < 1000000000; omega), rfl, rfl⟩ | rfl | (refine And.intro (Or.inl ?_) ?_) | (refine And.intro ?_ ?_))) (by omega) (by omega)⟩
    · refine ⟨hmo, true, hon, ?_⟩
      simp only [go_sem, Nat.reduceBEq, ↓reduceIte, ↓reduceDIte, Nat.reduceAdd, Nat.reduceSub, Nat.reduceMul, Nat.reduceLeDiff, ← Bool.decide_and, ← Bool.decide_or, ← decide_not, Int.reduceLT, Int.reduceLE, Int.reduceToNat, Int.reduceNeg]
end Go.Proofs.Ytaphmhdgpdhpiaa
