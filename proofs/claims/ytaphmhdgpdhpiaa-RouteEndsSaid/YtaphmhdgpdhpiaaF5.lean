/- The law RouteEnds holds for every input. No condition. -/
import Derived.Test.YtaphmhdgpdhpiaaC6
import Derived.Test.YtaphmhdgpdhpiaaRows
set_option linter.unusedSimpArgs false
set_option linter.unusedVariables false
namespace Go.Proofs.Ytaphmhdgpdhpiaa
set_option maxHeartbeats 4000000
set_option maxRecDepth 100000
theorem run_isEnd {s : Sch} (hs : OkS s) : ∀ (l : List Int) (a b : Str) (c m : Int), 0 ≤ m → m < s.1 → (runA s.2.2 l a b c m).2.2.2.2 = true → accB s.2.1 (runA s.2.2 l a b c m).2.2.2.1 = true → isEnd s m l
  | [], _, _, _, _, h0, h1, _, h => ⟨h0, h1, h⟩
  | j :: l, a, b, c, m, h0, h1, hok, h => by
    obtain ⟨hj, r, hr, hm⟩ := runA_inv hok
    rw [runA_step hj hr hm] at hok h
    have hrn := right_nums (hs.right r (List.mem_of_getElem? hr))
    exact ⟨r, hj, hr, hm, run_isEnd hs l _ _ _ _ (by omega) (by omega) hok h⟩
theorem walk_lt {s : Sch} (hs : OkS s) (us : List Int) (m : Int) (h0 : 0 ≤ m) (h1 : m < s.1) : 0 ≤ (walkL s.2.2 us m).2 ∧ (walkL s.2.2 us m).2 < s.1 := by
  obtain ⟨A, B, C, hrun⟩ := walk_runs (rs := s.2.2) us m [] [] 0
  have : ∀ (l : List Int) (a b : Str) (c m : Int), 0 ≤ m → m < s.1 → (runA s.2.2 l a b c m).2.2.2.2 = true → 0 ≤ (runA s.2.2 l a b c m).2.2.2.1 ∧ (runA s.2.2 l a b c m).2.2.2.1 < s.1 := by
    intro l
    induction l with
    | nil => intro a b c m h0 h1 _; exact ⟨h0, h1⟩
    | cons j l ih =>
      intro a b c m h0 h1 hok
      obtain ⟨hj, r, hr, hm⟩ := runA_inv hok
      rw [runA_step hj hr hm] at hok ⊢
      have hrn := right_nums (hs.right r (List.mem_of_getElem? hr))
      exact ih _ _ _ _ (by omega) (by omega) hok
  have := this (walkL s.2.2 us m).1 [] [] 0 m h0 h1 (by rw [hrun])
  rw [hrun] at this
  exact this
theorem walk_end {s : Sch} (hs : OkS s) (us : List Int) (m : Int) (h0 : 0 ≤ m) (h1 : m < s.1) (h : accB s.2.1 (walkL s.2.2 us m).2 = true) : isEnd s m (walkL s.2.2 us m).1 := by
  obtain ⟨A, B, C, hrun⟩ := walk_runs (rs := s.2.2) us m [] [] 0
  exact run_isEnd hs _ [] [] 0 m h0 h1 (by rw [hrun]) (by rw [hrun]; exact h)
theorem walk_in {s : Sch} : ∀ (l : List Int) (a b : Str) (c m : Int), (runA s.2.2 l a b c m).2.2.2.2 = true → ∀ j, j ∈ l → 0 ≤ j ∧ ∃ r, s.2.2[j.toNat]? = some r
  | [], _, _, _, _, _ => fun _ h => by cases h
  | j :: l, a, b, c, m, hok => fun k hk => by
    obtain ⟨hj, r, hr, hm⟩ := runA_inv hok
    rw [runA_step hj hr hm] at hok
    rcases List.mem_cons.1 hk with rfl | hk
    · exact ⟨hj, r, hr⟩
    · exact walk_in l _ _ _ _ hok k hk
theorem costL_app {s : Sch} : ∀ (x y : List Int), costL s (x ++ y) = costL s x + costL s y
  | [], y => by simp [costL]
  | i :: x, y => by
    rw [List.cons_append]
    simp only [costL]
    rw [costL_app x y]
    omega
theorem c_EndsLaw (x : RawS) (w : Int × Int) (c : List Int) : PC env 7 [⟨RawT, x⟩, ⟨.st (.pair (.int .u8) (.int .u8)), w⟩, ⟨.sl (.int .u8), c⟩] .bool true := by
  have ko := (made3_ok x w).1
  have k1 := c_Made3 x w
  generalize made3E x w = S at ko k1
  refine PC.of_PW (m := 2000) env_ok fn_7 rfl rfl rfl rfl (by kernel_rfl) ?_; intro hx; simp only [Try.f7]; simp only [go_sem, Nat.reduceBEq, ↓reduceIte, ↓reduceDIte, Nat.reduceAdd, Nat.reduceSub, Nat.reduceMul, Nat.reduceLeDiff, ← Bool.decide_and, ← Bool.decide_or, ← decide_not, Int.reduceLT, Int.reduceLE, Int.reduceToNat, Int.reduceNeg]
  have hw0 := u8_of hx.2.1.1
  have hw1 := u8_of hx.2.1.2
  have n1 := ko.n1
  have n8 := ko.n8
  refine ⟨_, c_sanity, _, k1 ⟨hw0.1, hw1.1⟩, fun _ => ?_⟩
  apply Walks.shareX (X := Int) (fun m => ⟨[(16, .iv (.int .i64) (0 : Int)), (15, .ref 15 0), (14, .iv (.int .i64) (walkE S (m, 10) c).2), (13, .iv (.sl (.int .i64)) (walkE S (m, 10) c).1), (12, .iv (.int .i64) (leastR S m).2.2), (11, .iv (.int .i64) (leastR S m).2.1), (10, .iv (.sl (.int .i64)) (leastR S m).1), (9, .iv (.int .i64) m), (8, .ref 8 0), (7, .iv .bool true), (6, .iv .bool false)], [(15, .box [.iv (.sl (.int .i64)) (walkE S (m, 10) c).1, .iv (.int .i64) (0 : Int), .iv .bool false]), (8, .box [.iv (.int .i64) S.1, .iv (.int .u8) S.2.1, .iv (.sl RuleT) S.2.2])]⟩) (fun m => 0 ≤ m ∧ m < S.1)
  · intro key
    refine ⟨fun g0 => ?_, fun g0 => ?_⟩
    · obtain ⟨c0, hc0⟩ : ∃ u, c[0]? = some u := get_of_lt (by omega)
      have hcm := u8_of (hx.2.2.1.2 c0 (List.mem_of_getElem? hc0))
      have e2 : Int.tmod c0 S.1 = c0 % S.1 := Int.tmod_eq_emod_of_nonneg hcm.1
      have m2 := Int.emod_nonneg c0 (b := S.1) (by omega)
      have m3 := Int.emod_lt_of_pos c0 (b := S.1) (by omega)
      refine ⟨c0, hc0, (by show (0 : Int) < S.1; omega), ?_⟩
      rw [e2]
      refine ⟨_, c_Least S (c0 % S.1) ko, fun _ => ⟨_, c_Walk S (c0 % S.1, 10) c ko ⟨by show (0 : Int) ≤ 10; decide, by show (10 : Int) ≤ 100; decide⟩, fun _ => ?_⟩⟩
      exact key _ (c0 % S.1) ⟨m2, m3⟩ (by refine ⟨?_, ?_, rfl, rfl⟩ <;> repeat' (first | exact trivial | exact Or.inl rfl | exact Or.inr rfl | (refine And.intro (Or.inl rfl) ?_) | (refine And.intro (Or.inr (Or.inl rfl)) ?_) | (refine And.intro (Or.inr (Or.inr (Or.inr ⟨rfl, rfl⟩))) ?_) | (refine And.intro (Or.inr (Or.inr (Or.inl ⟨rfl, rfl, trivial⟩))) ?_) | exact ⟨(by show (_ : Nat) < 1000000000; omega), rfl, rfl⟩ | rfl | (refine And.intro (Or.inl ?_) ?_) | (refine And.intro ?_ ?_)))
    · refine ⟨_, c_Least S 0 ko, fun _ => ⟨_, c_Walk S (0, 10) c ko ⟨by decide, by decide⟩, fun _ => ?_⟩⟩
      exact key _ 0 ⟨Int.le_refl _, by omega⟩ (by refine ⟨?_, ?_, rfl, rfl⟩ <;> repeat' (first | exact trivial | exact Or.inl rfl | exact Or.inr rfl | (refine And.intro (Or.inl rfl) ?_) | (refine And.intro (Or.inr (Or.inl rfl)) ?_) | (refine And.intro (Or.inr (Or.inr (Or.inr ⟨rfl, rfl⟩))) ?_) | (refine And.intro (Or.inr (Or.inr (Or.inl ⟨rfl, rfl, trivial⟩))) ?_) | exact ⟨(by show (_ : Nat) < 1000000000; omega), rfl, rfl⟩ | rfl | (refine And.intro (Or.inl ?_) ?_) | (refine And.intro ?_ ?_)))
  intro m ⟨hm0, hm1⟩
  have hrl := ko.right
  have hlen := ko.len
  have hin : ∀ j, j ∈ (walkE S (m, 10) c).1 → 0 ≤ j ∧ ∃ r, S.2.2[j.toNat]? = some r := by
    obtain ⟨A, B, C, hrun⟩ := walk_runs (rs := S.2.2) (c.take 10) m [] [] 0
    exact walk_in _ [] [] 0 m (by show (runA S.2.2 (walkL S.2.2 (c.take 10) m).1 _ _ _ _).2.2.2.2 = true; rw [hrun])
  have hwl := walkE_len S (m, 10) c
  have hlast : 0 ≤ (walkE S (m, 10) c).2 ∧ (walkE S (m, 10) c).2 < S.1 := walk_lt ko (c.take 10) m hm0 hm1
  have hend : accB S.2.1 (walkE S (m, 10) c).2 = true → isEnd S m (walkE S (m, 10) c).1 := walk_end ko (c.take 10) m hm0 hm1
  generalize walkE S (m, 10) c = W at hin hwl hlast hend
  obtain ⟨l, last⟩ := W
  dsimp only at hin hwl hlast hend ⊢
  refine Walks.loopA (X := Nat) (fun (z : Nat) => [(16, .iv (.int .i64) (z : Int))]) (fun (z : Nat) => [(15, .box [.iv (.sl (.int .i64)) l, .iv (.int .i64) (costL S (l.take z)), .iv .bool false])]) (fun (z : Nat) => z ≤ l.length) (fun (z : Nat) => l.length - z) 0 ?_; intro b1 b2 hb1 hb2; simp (config := {maxSteps := 4000000}) only [go_sem, Nat.reduceBEq, ↓reduceIte, ↓reduceDIte, Nat.reduceAdd, Nat.reduceSub, Nat.reduceMul, Nat.reduceLeDiff, ← Bool.decide_and, ← Bool.decide_or, ← decide_not, Int.reduceLT, Int.reduceLE, Int.reduceToNat, Int.reduceNeg] at hb1 hb2; subst hb1; subst hb2; refine ⟨(by refine ⟨?_, ?_, rfl, rfl⟩ <;> repeat' (first | exact trivial | exact Or.inl rfl | exact Or.inr rfl | (refine And.intro (Or.inl rfl) ?_) | (refine And.intro (Or.inr (Or.inl rfl)) ?_) | (refine And.intro (Or.inr (Or.inr (Or.inr ⟨rfl, rfl⟩))) ?_) | (refine And.intro (Or.inr (Or.inr (Or.inl ⟨rfl, rfl, trivial⟩))) ?_) | exact ⟨(by show (_ : Nat) < 1000000000; omega), rfl, rfl⟩ | rfl | (refine And.intro (Or.inl ?_) ?_) | (refine And.intro ?_ ?_))), ?_, ?_⟩
  · exact Nat.zero_le _
  intro k hk back
  refine PW_sound env_ok ⟨_, fn_7, rfl⟩ 2000 _ _ (by kernel_rfl) ?_; simp only [go_sem, Nat.reduceBEq, ↓reduceIte, ↓reduceDIte, Nat.reduceAdd, Nat.reduceSub, Nat.reduceMul, Nat.reduceLeDiff, ← Bool.decide_and, ← Bool.decide_or, ← decide_not, Int.reduceLT, Int.reduceLE, Int.reduceToNat, Int.reduceNeg]
  have hcl := costL_le ko
  have hcn := costL_nn ko
  refine ⟨fun g1 => ?_, fun g1 => ?_⟩
  · obtain ⟨j, hj⟩ : ∃ j, l[k]? = some j := get_of_lt (by omega)
    obtain ⟨hj0, r, hr⟩ := hin j (List.mem_of_getElem? hj)
    have hrn := right_nums (hrl r (List.mem_of_getElem? hr))
    have h1 := hcl (l.take k)
    have h2 := hcn (l.take k)
    have h3 := List.length_take (i := k) (l := l)
    have e : costL S (l.take k) + r.2.2.2.2 = costL S (l.take (k + 1)) := by
      rw [take_snoc hj, costL_app]
      simp only [costL, costI, hr]
      omega
    refine ⟨Int.natCast_nonneg _, j, hj, hj0, r, hr, i64_ok (by omega) (by omega), ?_⟩
    rw [e]
    exact ⟨i64_ok (by omega) (by omega), back _ (k + 1) (by refine ⟨?_, ?_, rfl, rfl⟩ <;> repeat' (first | exact trivial | exact Or.inl rfl | exact Or.inr rfl | (refine And.intro (Or.inl rfl) ?_) | (refine And.intro (Or.inr (Or.inl rfl)) ?_) | (refine And.intro (Or.inr (Or.inr (Or.inr ⟨rfl, rfl⟩))) ?_) | (refine And.intro (Or.inr (Or.inr (Or.inl ⟨rfl, rfl, trivial⟩))) ?_) | exact ⟨(by show (_ : Nat) < 1000000000; omega), rfl, rfl⟩ | rfl | (refine And.intro (Or.inl ?_) ?_) | (refine And.intro ?_ ?_))) (by omega) (by omega)⟩
  · have e : l.take k = l := List.take_of_length_le (by omega)
    rw [e]
    clear back
    by_cases hlv : on (liveE S) m.toNat
    · obtain ⟨q, hL, hq8, hR⟩ := leastR_some ko ⟨hm0, hm1⟩ hlv
      rw [hR]
      simp only [go_sem, Nat.reduceBEq, ↓reduceIte, ↓reduceDIte, Nat.reduceAdd, Nat.reduceSub, Nat.reduceMul, Nat.reduceLeDiff, ← Bool.decide_and, ← Bool.decide_or, ← decide_not, Int.reduceLT, Int.reduceLE, Int.reduceToNat, Int.reduceNeg]
      refine ⟨fun h => absurd trivial h, ?_⟩
      have hLi := hL.is
      have hqc := hcl q
      refine Walks.loopA (X := Nat × Int) (fun (z : Nat × Int) => [(19, .iv (.int .i64) (z.1 : Int)), (17, .iv (.int .i64) z.2), (18, .iv (.int .i64) (costL S (q.take z.1)))]) (fun (z : Nat × Int) => []) (fun (z : Nat × Int) => z.1 ≤ q.length ∧ isEnd S z.2 (q.drop z.1)) (fun (z : Nat × Int) => q.length - z.1) (0, m) ?_; intro b1 b2 hb1 hb2; simp (config := {maxSteps := 4000000}) only [go_sem, Nat.reduceBEq, ↓reduceIte, ↓reduceDIte, Nat.reduceAdd, Nat.reduceSub, Nat.reduceMul, Nat.reduceLeDiff, ← Bool.decide_and, ← Bool.decide_or, ← decide_not, Int.reduceLT, Int.reduceLE, Int.reduceToNat, Int.reduceNeg] at hb1 hb2; subst hb1; subst hb2; refine ⟨(by refine ⟨?_, ?_, rfl, rfl⟩ <;> repeat' (first | exact trivial | exact Or.inl rfl | exact Or.inr rfl | (refine And.intro (Or.inl rfl) ?_) | (refine And.intro (Or.inr (Or.inl rfl)) ?_) | (refine And.intro (Or.inr (Or.inr (Or.inr ⟨rfl, rfl⟩))) ?_) | (refine And.intro (Or.inr (Or.inr (Or.inl ⟨rfl, rfl, trivial⟩))) ?_) | exact ⟨(by show (_ : Nat) < 1000000000; omega), rfl, rfl⟩ | rfl | (refine And.intro (Or.inl ?_) ?_) | (refine And.intro ?_ ?_))), ?_, ?_⟩
      · exact ⟨Nat.zero_le _, hLi⟩
      intro ⟨i, at_⟩ ⟨hi, hat⟩ back
      dsimp only at hi hat
      refine PW_sound env_ok ⟨_, fn_7, rfl⟩ 2000 _ _ (by kernel_rfl) ?_; simp only [go_sem, Nat.reduceBEq, ↓reduceIte, ↓reduceDIte, Nat.reduceAdd, Nat.reduceSub, Nat.reduceMul, Nat.reduceLeDiff, ← Bool.decide_and, ← Bool.decide_or, ← decide_not, Int.reduceLT, Int.reduceLE, Int.reduceToNat, Int.reduceNeg]
      refine ⟨fun g2 => ?_, fun g2 => ?_⟩
      · obtain ⟨j, hj⟩ : ∃ j, q[i]? = some j := get_of_lt (by omega)
        rw [drop_cons hj] at hat
        obtain ⟨r, hj0, hr, hra, hrest⟩ := hat
        have hrn := right_nums (hrl r (List.mem_of_getElem? hr))
        have h1 := hcl (q.take i)
        have h2 := hcn (q.take i)
        have h3 := List.length_take (i := i) (l := q)
        have e : costL S (q.take i) + r.2.2.2.2 = costL S (q.take (i + 1)) := by
          rw [take_snoc hj, costL_app]
          simp only [costL, costI, hr]
          omega
        have hjl : j.toNat < S.2.2.length := (List.getElem?_eq_some_iff.1 hr).1
        have hi0 := Int.natCast_nonneg i
        refine ⟨hi0, j, hj, ⟨fun _ => ⟨hi0, j, hj, ⟨fun _ => ⟨hi0, j, hj, hj0, r, hr, fun h => absurd hra h, fun _ => ⟨hi0, j, hj, hj0, r, hr, hi0, j, hj, hj0, r, hr, i64_ok (by omega) (by omega), i64_ok (by omega) (by omega), ?_⟩⟩, fun h => absurd (show j < (S.2.2.length : Int) by omega) (Int.not_lt.2 h)⟩⟩, fun h => absurd hj0 (Int.not_le.2 h)⟩⟩
        rw [e]
        exact back _ (i + 1, r.2.1) (by refine ⟨?_, ?_, rfl, rfl⟩ <;> repeat' (first | exact trivial | exact Or.inl rfl | exact Or.inr rfl | (refine And.intro (Or.inl rfl) ?_) | (refine And.intro (Or.inr (Or.inl rfl)) ?_) | (refine And.intro (Or.inr (Or.inr (Or.inr ⟨rfl, rfl⟩))) ?_) | (refine And.intro (Or.inr (Or.inr (Or.inl ⟨rfl, rfl, trivial⟩))) ?_) | exact ⟨(by show (_ : Nat) < 1000000000; omega), rfl, rfl⟩ | rfl | (refine And.intro (Or.inl ?_) ?_) | (refine And.intro ?_ ?_))) ⟨(by first | omega | (show (_ : Int) ≤ _; omega) | (show (_ : Int) < _; omega) | (dsimp only; omega)), hrest⟩ (by dsimp only; omega)
      · have hq0 : q.drop i = [] := List.drop_of_length_le (by omega)
        rw [hq0] at hat
        have hqt : q.take i = q := List.take_of_length_le (by omega)
        rw [hqt]
        obtain ⟨ha0, ha1, hacc⟩ := hat
        have ka := c_Accepts S at_ ⟨ha0, by omega⟩
        rw [hacc] at ka
        have kb := c_Accepts S last ⟨hlast.1, by omega⟩
        refine ⟨_, ka, PK_cast (b' := false) rfl ?_⟩
        simp only [go_sem, Nat.reduceBEq, ↓reduceIte, ↓reduceDIte, Nat.reduceAdd, Nat.reduceSub, Nat.reduceMul, Nat.reduceLeDiff, ← Bool.decide_and, ← Bool.decide_or, ← decide_not, Int.reduceLT, Int.reduceLE, Int.reduceToNat, Int.reduceNeg]
        have hbef : accB S.2.1 last = true → befE (costL S l) l (costL S q) q = false := fun h => by
          rcases hL.le l (hend h) with e | e
          · rw [e]; exact befE_irr _ _
          · exact befE_not e
        have hrest : ∀ (G : Goal), True := fun _ => trivial
        refine ⟨_, kb, ?_⟩
        cases hal : accB S.2.1 last
        · simp only [go_sem, Nat.reduceBEq, ↓reduceIte, ↓reduceDIte, Nat.reduceAdd, Nat.reduceSub, Nat.reduceMul, Nat.reduceLeDiff, ← Bool.decide_and, ← Bool.decide_or, ← decide_not, Int.reduceLT, Int.reduceLE, Int.reduceToNat, Int.reduceNeg]
          refine ⟨fun _ => trivial, fun hq0 => ?_⟩
          obtain ⟨j0, hj0⟩ : ∃ j, q[0]? = some j := get_of_lt (by omega)
          have hqe : q = j0 :: q.drop 1 := by have := drop_cons hj0; simpa using this
          have hL2 : Least S m (j0 :: q.drop 1) := by rw [← hqe]; exact hL
          have hc2 : costL S q = costI S j0 + costL S (q.drop 1) := by conv => lhs; rw [hqe]
                                                                       rfl
          generalize q.drop 1 = q1 at hL2 hc2
          obtain ⟨r0, h00, hr0, hm0', hend0⟩ := hL2.is
          have htl := hL2.tail hr0
          have hrn0 := right_nums (hrl r0 (List.mem_of_getElem? hr0))
          have hci : costI S j0 = r0.2.2.2.2 := by unfold costI; rw [hr0]
          have hlv2 : on (liveE S) r0.2.1.toNat := (live_iff ko _).2 ⟨_, by rw [Int.toNat_of_nonneg hrn0.2.2.1]; exact hend0⟩
          obtain ⟨q2, hL3, _, hR2⟩ := leastR_some ko ⟨hrn0.2.2.1, hrn0.2.2.2.1⟩ hlv2
          obtain rfl := hL3.uniq htl
          have kl2 := c_Least S r0.2.1 ko
          rw [hR2] at kl2
          have hcn1 := hcn q2
          have hcl1 := hcl q2
          refine ⟨j0, hj0, h00, r0, hr0, _, kl2, fun _ => ⟨fun _ => ?_, fun h => absurd rfl h⟩⟩
          refine ⟨by omega, _, c_Ints q2 q2, PK_cast (b' := true) (by simp) ?_⟩
          simp only [go_sem, Nat.reduceBEq, ↓reduceIte, ↓reduceDIte, Nat.reduceAdd, Nat.reduceSub, Nat.reduceMul, Nat.reduceLeDiff, ← Bool.decide_and, ← Bool.decide_or, ← decide_not, Int.reduceLT, Int.reduceLE, Int.reduceToNat, Int.reduceNeg]
          have ecost : costL S q2 = costL S q - r0.2.2.2.2 := by omega
          exact ⟨j0, hj0, h00, r0, hr0, i64_ok (by omega) (by omega), fun _ => trivial, fun h => absurd ecost h⟩
        · have kbf := c_Before (l, costL S l, false) (q, costL S q, false)
          dsimp only at kbf
          rw [hbef hal] at kbf
          simp only [go_sem, Nat.reduceBEq, ↓reduceIte, ↓reduceDIte, Nat.reduceAdd, Nat.reduceSub, Nat.reduceMul, Nat.reduceLeDiff, ← Bool.decide_and, ← Bool.decide_or, ← decide_not, Int.reduceLT, Int.reduceLE, Int.reduceToNat, Int.reduceNeg]
          refine ⟨_, kbf, PB_cast (b' := false) rfl ?_⟩
          simp only [go_sem, Nat.reduceBEq, ↓reduceIte, ↓reduceDIte, Nat.reduceAdd, Nat.reduceSub, Nat.reduceMul, Nat.reduceLeDiff, ← Bool.decide_and, ← Bool.decide_or, ← decide_not, Int.reduceLT, Int.reduceLE, Int.reduceToNat, Int.reduceNeg]
          refine ⟨fun _ => trivial, fun hq0 => ?_⟩
          obtain ⟨j0, hj0⟩ : ∃ j, q[0]? = some j := get_of_lt (by omega)
          have hqe : q = j0 :: q.drop 1 := by have := drop_cons hj0; simpa using this
          have hL2 : Least S m (j0 :: q.drop 1) := by rw [← hqe]; exact hL
          have hc2 : costL S q = costI S j0 + costL S (q.drop 1) := by conv => lhs; rw [hqe]
                                                                       rfl
          generalize q.drop 1 = q1 at hL2 hc2
          obtain ⟨r0, h00, hr0, hm0', hend0⟩ := hL2.is
          have htl := hL2.tail hr0
          have hrn0 := right_nums (hrl r0 (List.mem_of_getElem? hr0))
          have hci : costI S j0 = r0.2.2.2.2 := by unfold costI; rw [hr0]
          have hlv2 : on (liveE S) r0.2.1.toNat := (live_iff ko _).2 ⟨_, by rw [Int.toNat_of_nonneg hrn0.2.2.1]; exact hend0⟩
          obtain ⟨q2, hL3, _, hR2⟩ := leastR_some ko ⟨hrn0.2.2.1, hrn0.2.2.2.1⟩ hlv2
          obtain rfl := hL3.uniq htl
          have kl2 := c_Least S r0.2.1 ko
          rw [hR2] at kl2
          have hcn1 := hcn q2
          have hcl1 := hcl q2
          refine ⟨j0, hj0, h00, r0, hr0, _, kl2, fun _ => ⟨fun _ => ?_, fun h => absurd rfl h⟩⟩
          refine ⟨by omega, _, c_Ints q2 q2, PK_cast (b' := true) (by simp) ?_⟩
          simp only [go_sem, Nat.reduceBEq, ↓reduceIte, ↓reduceDIte, Nat.reduceAdd, Nat.reduceSub, Nat.reduceMul, Nat.reduceLeDiff, ← Bool.decide_and, ← Bool.decide_or, ← decide_not, Int.reduceLT, Int.reduceLE, Int.reduceToNat, Int.reduceNeg]
          have ecost : costL S q2 = costL S q - r0.2.2.2.2 := by omega
          exact ⟨j0, hj0, h00, r0, hr0, i64_ok (by omega) (by omega), fun _ => trivial, fun h => absurd ecost h⟩
    · rw [leastR_none ko ⟨hm0, hm1⟩ hlv]
      have hna : accB S.2.1 last = false := by
        cases ha : accB S.2.1 last with
        | false => rfl
        | true => exact absurd ((live_iff ko _).2 ⟨l, by rw [Int.toNat_of_nonneg hm0]; exact hend ha⟩) hlv
      have ka := c_Accepts S last ⟨hlast.1, by omega⟩
      rw [hna] at ka
      simp only [go_sem, Nat.reduceBEq, ↓reduceIte, ↓reduceDIte, Nat.reduceAdd, Nat.reduceSub, Nat.reduceMul, Nat.reduceLeDiff, ← Bool.decide_and, ← Bool.decide_or, ← decide_not, Int.reduceLT, Int.reduceLE, Int.reduceToNat, Int.reduceNeg]
      refine ⟨fun _ => ⟨⟨_, ka, ?_⟩, fun h => absurd trivial h⟩, fun h => by cases h⟩
      simp only [go_sem, Nat.reduceBEq, ↓reduceIte, ↓reduceDIte, Nat.reduceAdd, Nat.reduceSub, Nat.reduceMul, Nat.reduceLeDiff, ← Bool.decide_and, ← Bool.decide_or, ← decide_not, Int.reduceLT, Int.reduceLE, Int.reduceToNat, Int.reduceNeg]
end Go.Proofs.Ytaphmhdgpdhpiaa
namespace Go.Proofs.Ytaphmhdgpdhpiaa
open Go.ChangeShapes Go.WideShapes Go.ChangeAt Go.RowKit
theorem own_none : ownKnob Try.prog.godebug = none := by kernel_rfl
theorem laid_out : laidOutB env.P = true := by kernel_rfl
theorem ends_all (xs : List (Sigma Ty.den)) (h : xs.map (·.1) = [RawT, .st (.pair (.int .u8) (.int .u8)), .sl (.int .u8)]) : PC env 7 xs .bool true := by
  match xs, h with
  | [⟨_, y0⟩, ⟨_, y1⟩, ⟨_, y2⟩], h =>
    injection h with h1 h
    injection h with h2 h
    injection h with h3 h
    dsimp only at h1 h2 h3
    subst h1 h2 h3
    exact c_EndsLaw y0 y1 y2
set_option maxRecDepth 100000 in
theorem ends_lifted (os : Os) (started : os.Started) (H : Type) (enc : TypeId × Value → H) :
    ReturnsInHanded {} Try.checked os 7 .any (Rows.routeEndsSpec.pre6 enc Try.prog Try.f7 Rows.routeEndsRow.domain false) (Rows.routeEndsSpec.post enc Try.prog Try.f7 false true false false) := by
  refine returnsInHanded_of_change (C := Try.checked) own_none started (by kernel_rfl) fn_7
    (ChangeSpec.witness6 (enc := enc) (C := Try.checked) false ⟨#[], #[.agg #[.int .u8 0, .int .u8 0, .slice none 0 0], .agg #[.int .u8 0, .int .u8 0], .slice none 0 0], []⟩ 8 (by kernel_rfl) (by kernel_rfl) (by kernel_rfl) (by kernel_rfl)) ?_
  intro W base args ds gs before hval hW _ _
  refine law_calls (E := env) (b0 := base) (Ts := [RawT, .st (.pair (.int .u8) (.int .u8)), .sl (.int .u8)]) (tb := 4) env_ok laid_out (of_decide_eq_true (by kernel_rfl)) rfl rfl rfl (by kernel_rfl) rfl ?_ ends_all (fun g hg => by cases hg) hval hW
  intro ds hds
  match ds, hds with
  | [d0, d1, d2], _ => rfl
theorem ends_holds : Rows.RouteEndsSaid :=
  OpenClaim.holds_of_wide 7 Try.f7 rfl rfl rfl rfl rfl rfl rfl ⟨rfl, rfl, rfl, rfl, rfl⟩ rfl rfl rfl rfl rfl (by kernel_rfl) fn_7 (by kernel_rfl)
    (of_decide_eq_true (by kernel_rfl)) (by unfold Func.isWrapper; first | (rw [if_pos (by decide +kernel)]; kernel_rfl) | (rw [if_neg (by decide +kernel)]; exact ⟨rfl, rfl⟩))
    (fun os started H enc _ => ends_lifted os started H enc)
end Go.Proofs.Ytaphmhdgpdhpiaa
