/- The law RouteGrows holds for every input. No condition. -/
import Derived.Test.YtaphmhdgpdhpiaaC6
import Derived.Test.YtaphmhdgpdhpiaaRows
set_option linter.unusedSimpArgs false
set_option linter.unusedVariables false
--SET+ litP, appendC, ne_eq, not_false_eq_true
namespace Go.Proofs.Ytaphmhdgpdhpiaa
set_option maxHeartbeats 4000000
set_option maxRecDepth 100000
def headB (s : Sch) : Bool := inB s.1 1 8 && inB s.2.1 1 (2 ^ s.1.toNat - 1) && decide (s.2.2.length ≤ 64)
def chkL (n : Int) (l : List Rl) : Nat → Nat → Int × Int
  | 0, _ => ((l.length : Int), 0)
  | k + 1, i => if rightAt n l i = true then chkL n l k (i + 1) else ((i : Int), 20)
def checkE (s : Sch) : Int × Int := if headB s = true then chkL s.1 s.2.2 s.2.2.length 0 else (-1, 20)
theorem chkL_ok {n : Int} {l : List Rl} : ∀ {k i : Nat}, (chkL n l k i).2 = 0 → ∀ j, i ≤ j → j < i + k → rightAt n l j = true
  | 0, i, _, j, h1, h2 => by omega
  | k + 1, i, h, j, h1, h2 => by
    unfold chkL at h
    split at h
    · rename_i hr
      by_cases hj : j = i
      · subst hj; exact hr
      · exact chkL_ok h j (by omega) (by omega)
    · simp at h
theorem rightAt_mem {n : Int} {l : List Rl} {i : Nat} (h : rightAt n l i = true) : ∃ r, l[i]? = some r ∧ r ∉ l.take i ∧ rightR n r = true := by
  unfold rightAt at h
  split at h
  · rename_i r hr
    rw [Bool.and_eq_true, decide_eq_true_eq] at h
    exact ⟨r, hr, h⟩
  · cases h
theorem check_ok {s : Sch} (h : (checkE s).2 = 0) : OkS s := by
  unfold checkE at h
  split at h
  · rename_i hh
    simp only [headB, inB, Bool.and_eq_true, decide_eq_true_eq] at hh
    have hall : ∀ j, j < s.2.2.length → rightAt s.1 s.2.2 j = true := fun j hj => chkL_ok h j (Nat.zero_le _) (by omega)
    refine ⟨hh.1.1.1, hh.1.1.2, hh.1.2.1, hh.1.2.2, hh.2, fun r hr => ?_, ?_⟩
    · obtain ⟨j, hj⟩ := List.getElem?_of_mem hr
      obtain ⟨r', h1, _, h2⟩ := rightAt_mem (hall j (List.getElem?_eq_some_iff.1 hj).1)
      rw [hj] at h1
      injection h1 with h1
      rw [h1]; exact h2
    · refine List.pairwise_iff_getElem.2 fun i j hi hj hij he => ?_
      obtain ⟨r, h1, h2, _⟩ := rightAt_mem (hall j hj)
      refine h2 ?_
      rw [List.getElem?_eq_getElem hj] at h1
      injection h1 with h1
      rw [← h1, ← he]
      exact List.mem_of_getElem? (i := i) (by rw [List.getElem?_take_of_lt hij]; exact List.getElem?_eq_getElem hi)
  · simp at h
theorem pow256 : ∀ m : Nat, m < 9 → (2 : Int) ^ m ≤ 256 := by decide
theorem c_Check2 (s : Sch) : PC env 45 [⟨SchemeT, s⟩] (.tup (.int .i64) (.int .i64)) (checkE s) := by
  obtain ⟨n, a, rs⟩ := s
  refine PC.of_PW (m := 2000) env_ok fn_45 rfl rfl rfl rfl (by kernel_rfl) ?_; intro hx; simp only [Try.f45]; simp only [go_sem, Nat.reduceBEq, ↓reduceIte, ↓reduceDIte, Nat.reduceAdd, Nat.reduceSub, Nat.reduceMul, Nat.reduceLeDiff, ← Bool.decide_and, ← Bool.decide_or, ← decide_not, Int.reduceLT, Int.reduceLE, Int.reduceToNat, Int.reduceNeg, litP, appendC, ne_eq, not_false_eq_true]
  refine ⟨_, c_In n 1 8, ?_⟩
  cases h1 : inB n 1 8
  · simp only [go_sem, Nat.reduceBEq, ↓reduceIte, ↓reduceDIte, Nat.reduceAdd, Nat.reduceSub, Nat.reduceMul, Nat.reduceLeDiff, ← Bool.decide_and, ← Bool.decide_or, ← decide_not, Int.reduceLT, Int.reduceLE, Int.reduceToNat, Int.reduceNeg, litP, appendC, ne_eq, not_false_eq_true]
    simp [checkE, headB, h1]
  · have hn : 1 ≤ n ∧ n ≤ 8 := by simpa [inB] using h1
    simp only [go_sem, Nat.reduceBEq, ↓reduceIte, ↓reduceDIte, Nat.reduceAdd, Nat.reduceSub, Nat.reduceMul, Nat.reduceLeDiff, ← Bool.decide_and, ← Bool.decide_or, ← decide_not, Int.reduceLT, Int.reduceLE, Int.reduceToNat, Int.reduceNeg, litP, appendC, ne_eq, not_false_eq_true]
    refine ⟨⟨by omega, by omega⟩, ?_⟩
    rw [Int.one_mul]
    have hpow : (2 : Int) ^ n.toNat ≤ 256 := pow256 _ (by omega)
    have hpow1 : (0 : Int) < 2 ^ n.toNat := Int.pow_pos (by decide)
    refine ⟨i64_ok (by omega) (by omega), i64_ok (by omega) (by omega), _, c_In a 1 (2 ^ n.toNat - 1), ?_⟩
    cases h2 : inB a 1 (2 ^ n.toNat - 1)
    · simp only [go_sem, Nat.reduceBEq, ↓reduceIte, ↓reduceDIte, Nat.reduceAdd, Nat.reduceSub, Nat.reduceMul, Nat.reduceLeDiff, ← Bool.decide_and, ← Bool.decide_or, ← decide_not, Int.reduceLT, Int.reduceLE, Int.reduceToNat, Int.reduceNeg, litP, appendC, ne_eq, not_false_eq_true]
      simp [checkE, headB, h1, h2]
    · simp only [go_sem, Nat.reduceBEq, ↓reduceIte, ↓reduceDIte, Nat.reduceAdd, Nat.reduceSub, Nat.reduceMul, Nat.reduceLeDiff, ← Bool.decide_and, ← Bool.decide_or, ← decide_not, Int.reduceLT, Int.reduceLE, Int.reduceToNat, Int.reduceNeg, litP, appendC, ne_eq, not_false_eq_true]
      have hhead : headB (n, a, rs) = decide (rs.length ≤ 64) := by simp [headB, h1, h2]
      refine ⟨fun g => ?_, fun g => ?_⟩
      · have : headB (n, a, rs) = false := by rw [hhead]; simp; omega
        simp [checkE, this]
      · have hh : headB (n, a, rs) = true := by rw [hhead]; simp; omega
        have hE : checkE (n, a, rs) = chkL n rs rs.length 0 := by simp [checkE, hh]
        rw [hE]
        obtain ⟨T, hT⟩ : ∃ T, T = chkL n rs rs.length 0 := ⟨_, rfl⟩
        rw [← hT]
        refine Walks.loopA (X := Nat) (fun (z : Nat) => [(4, .iv (.int .i64) (z : Int))]) (fun (z : Nat) => []) (fun (z : Nat) => z ≤ rs.length ∧ chkL n rs (rs.length - z) z = T) (fun (z : Nat) => rs.length - z) 0 ?_; intro b1 b2 hb1 hb2; simp (config := {maxSteps := 4000000}) only [go_sem, Nat.reduceBEq, ↓reduceIte, ↓reduceDIte, Nat.reduceAdd, Nat.reduceSub, Nat.reduceMul, Nat.reduceLeDiff, ← Bool.decide_and, ← Bool.decide_or, ← decide_not, Int.reduceLT, Int.reduceLE, Int.reduceToNat, Int.reduceNeg, litP, appendC, ne_eq, not_false_eq_true] at hb1 hb2; subst hb1; subst hb2; refine ⟨(by refine ⟨?_, ?_, rfl, rfl⟩ <;> repeat' (first | exact trivial | exact Or.inl rfl | exact Or.inr rfl | (refine And.intro (Or.inl rfl) ?_) | (refine And.intro (Or.inr (Or.inl rfl)) ?_) | (refine And.intro (Or.inr (Or.inr (Or.inr ⟨rfl, rfl⟩))) ?_) | (refine And.intro (Or.inr (Or.inr (Or.inl ⟨rfl, rfl, trivial⟩))) ?_) | exact ⟨(by show (_ : Nat) < 1000000000; omega), rfl, rfl⟩ | rfl | (refine And.intro (Or.inl ?_) ?_) | (refine And.intro ?_ ?_))), ?_, ?_⟩
        · exact ⟨Nat.zero_le _, hT.symm⟩
        clear hT
        intro i ⟨hi, hT⟩ back
        refine PW_sound env_ok ⟨_, fn_45, rfl⟩ 2000 _ _ (by kernel_rfl) ?_; simp only [go_sem, Nat.reduceBEq, ↓reduceIte, ↓reduceDIte, Nat.reduceAdd, Nat.reduceSub, Nat.reduceMul, Nat.reduceLeDiff, ← Bool.decide_and, ← Bool.decide_or, ← decide_not, Int.reduceLT, Int.reduceLE, Int.reduceToNat, Int.reduceNeg, litP, appendC, ne_eq, not_false_eq_true]
        refine ⟨fun g2 => ?_, fun g2 => ?_⟩
        · have e : rs.length - i = (rs.length - (i + 1)) + 1 := by omega
          rw [e, chkL] at hT
          refine ⟨_, c_Right (n, a, rs) i (by dsimp only; omega) (by dsimp only; omega), ?_⟩
          dsimp only
          cases hr : rightAt n rs i
          · rw [hr] at hT
            simp only [go_sem, Nat.reduceBEq, ↓reduceIte, ↓reduceDIte, Nat.reduceAdd, Nat.reduceSub, Nat.reduceMul, Nat.reduceLeDiff, ← Bool.decide_and, ← Bool.decide_or, ← decide_not, Int.reduceLT, Int.reduceLE, Int.reduceToNat, Int.reduceNeg, litP, appendC, ne_eq, not_false_eq_true]
            rw [← hT]; rfl
          · rw [hr] at hT
            simp only [go_sem, Nat.reduceBEq, ↓reduceIte, ↓reduceDIte, Nat.reduceAdd, Nat.reduceSub, Nat.reduceMul, Nat.reduceLeDiff, ← Bool.decide_and, ← Bool.decide_or, ← decide_not, Int.reduceLT, Int.reduceLE, Int.reduceToNat, Int.reduceNeg, litP, appendC, ne_eq, not_false_eq_true]
            exact ⟨i64_ok (by omega) (by omega), back _ (i + 1) (by refine ⟨?_, ?_, rfl, rfl⟩ <;> repeat' (first | exact trivial | exact Or.inl rfl | exact Or.inr rfl | (refine And.intro (Or.inl rfl) ?_) | (refine And.intro (Or.inr (Or.inl rfl)) ?_) | (refine And.intro (Or.inr (Or.inr (Or.inr ⟨rfl, rfl⟩))) ?_) | (refine And.intro (Or.inr (Or.inr (Or.inl ⟨rfl, rfl, trivial⟩))) ?_) | exact ⟨(by show (_ : Nat) < 1000000000; omega), rfl, rfl⟩ | rfl | (refine And.intro (Or.inl ?_) ?_) | (refine And.intro ?_ ?_))) ⟨by omega, hT⟩ (by omega)⟩
        · have e : rs.length - i = 0 := by omega
          rw [e, chkL] at hT
          exact hT
theorem c_Valid2 (s : Sch) : PC env 29 [⟨SchemeT, s⟩] .bool (decide ((checkE s).2 = 0)) := by
  refine PC.of_PW (m := 2000) env_ok fn_29 rfl rfl rfl rfl (by kernel_rfl) ?_; intro hx; simp only [Try.f29]; simp only [go_sem, Nat.reduceBEq, ↓reduceIte, ↓reduceDIte, Nat.reduceAdd, Nat.reduceSub, Nat.reduceMul, Nat.reduceLeDiff, ← Bool.decide_and, ← Bool.decide_or, ← decide_not, Int.reduceLT, Int.reduceLE, Int.reduceToNat, Int.reduceNeg, litP, appendC, ne_eq, not_false_eq_true]
  refine ⟨_, c_Check2 s, fun _ => ?_⟩
  rfl
theorem Cl.mono {E E' : List (Nat × Nat)} {L0 : List Bool} (h : ∀ e, e ∈ E → e ∈ E') {m : Nat} (hm : Cl E L0 m) : Cl E' L0 m := by
  induction hm with
  | base m hm => exact .base m hm
  | step a b _ hab ih => exact .step a b ih (h _ hab)
def moreS (s : Sch) (r : Rl) : Sch := (s.1, s.2.1, s.2.2 ++ [r])
theorem reached_more {s : Sch} {r : Rl} (hs : OkS s) (ht : OkS (moreS s r)) {m : Nat} (h : on (reachedE s) m) : on (reachedE (moreS s r)) m :=
  (reached_iff ht m).2 (Cl.mono (fun e he => by
    obtain ⟨q, hq, rfl⟩ := List.mem_map.1 he
    exact List.mem_map.2 ⟨q, List.mem_append_left _ hq, rfl⟩) ((reached_iff hs m).1 h))
theorem live_more {s : Sch} {r : Rl} (hs : OkS s) (ht : OkS (moreS s r)) {m : Nat} (h : on (liveE s) m) : on (liveE (moreS s r)) m :=
  (live_cl ht m).2 (Cl.mono (fun e he => by
    obtain ⟨q, hq, rfl⟩ := List.mem_map.1 he
    exact List.mem_map.2 ⟨q, List.mem_append_left _ hq, rfl⟩) ((live_cl hs m).1 h))
theorem isEnd_more {s : Sch} {r : Rl} : ∀ {l : List Int} {m : Int}, isEnd s m l → isEnd (moreS s r) m l ∧ costL (moreS s r) l = costL s l
  | [], m, h => ⟨h, rfl⟩
  | i :: l, m, ⟨q, h0, hq, hm, h⟩ => by
    have ih := isEnd_more (r := r) h
    have hq2 : (moreS s r).2.2[i.toNat]? = some q := by
      show (s.2.2 ++ [r])[i.toNat]? = some q
      rw [List.getElem?_append_left (List.getElem?_eq_some_iff.1 hq).1]; exact hq
    refine ⟨⟨q, h0, hq2, hm, ih.1⟩, ?_⟩
    show costI (moreS s r) i + costL (moreS s r) l = costI s i + costL s l
    rw [ih.2]
    unfold costI
    rw [hq2, hq]
theorem least_more {s : Sch} {r : Rl} (hs : OkS s) (ht : OkS (moreS s r)) {m : Int} (hm : 0 ≤ m ∧ m < s.1) (hl : on (liveE s) m.toNat) :
    (leastR (moreS s r) m).2.2 = 0 ∧ (leastR (moreS s r) m).2.1 ≤ (leastR s m).2.1 := by
  obtain ⟨l, h1, _, h2⟩ := leastR_some hs hm hl
  obtain ⟨q, h3, _, h4⟩ := leastR_some ht hm (live_more hs ht hl)
  rw [h2, h4]
  refine ⟨rfl, ?_⟩
  have h5 := isEnd_more (r := r) h1.is
  have h6 := h3.le l h5.1
  show costL (moreS s r) q ≤ costL s l
  rw [← h5.2]
  rcases h6 with rfl | h6
  · exact Int.le_refl _
  · rw [befE_iff] at h6; omega
theorem made3_ne (x : RawS) (w : Int × Int) : (made3E x w).2.2 ≠ [] := by
  have h2 := made2_ok x
  have hrt := h2.1.right
  have h22 := h2.2.2.1
  unfold made3E
  dsimp only
  generalize (made2E x).2.2 = l at hrt h22
  cases l with
  | nil => simp at h22
  | cons r rs =>
    have hr := hrt r (List.mem_cons_self ..)
    show made3L _ _ _ rs (0 + 1) (mstep _ [] (turn3 _ _ _ r 0)) ≠ []
    have hm : mstep (2 + w.1 % 4) [] (turn3 (2 + w.1 % 4) w.1 w.2 r 0) = [turn3 (2 + w.1 % 4) w.1 w.2 r 0] := by
      unfold mstep
      rw [if_pos]
      · rfl
      · have hn : 0 < 2 + w.1 % 4 := by omega
        have f1 := Int.emod_nonneg (r.1 + ((0 : Nat) : Int) / 2 + w.1 / 4 * ((0 : Nat) : Int)) (b := 2 + w.1 % 4) (by omega)
        have f2 := Int.emod_lt_of_pos (r.1 + ((0 : Nat) : Int) / 2 + w.1 / 4 * ((0 : Nat) : Int)) hn
        have f3 := Int.emod_nonneg (r.2.1 + ((0 : Nat) : Int) + w.2 % 3) (b := 2 + w.1 % 4) (by omega)
        have f4 := Int.emod_lt_of_pos (r.2.1 + ((0 : Nat) : Int) + w.2 % 3) hn
        have hR : rightR (2 + w.1 % 4) (turn3 (2 + w.1 % 4) w.1 w.2 r 0) = true := by
          simp only [rightR, inB, Bool.and_eq_true, decide_eq_true_eq] at hr ⊢
          obtain ⟨⟨⟨⟨⟨⟨_, _⟩, a3⟩, a4⟩, a5⟩, a6⟩, a7⟩ := hr
          exact ⟨⟨⟨⟨⟨⟨⟨f1, by show (_ : Int) ≤ _; unfold turn3; dsimp only; omega⟩, ⟨f3, by unfold turn3; dsimp only; omega⟩⟩, a3⟩, a4⟩, a5⟩, a6⟩, a7⟩
        have e0 : rightAt (2 + w.1 % 4) ([] ++ [turn3 (2 + w.1 % 4) w.1 w.2 r 0]) ([] : List Rl).length = (decide (turn3 (2 + w.1 % 4) w.1 w.2 r 0 ∉ List.take 0 [turn3 (2 + w.1 % 4) w.1 w.2 r 0]) && rightR (2 + w.1 % 4) (turn3 (2 + w.1 % 4) w.1 w.2 r 0)) := rfl
        rw [e0, hR]
        rfl
    rw [hm]
    have grow : ∀ (ys : List Rl) (i : Nat) (out : List Rl), out.length ≤ (made3L (2 + w.1 % 4) w.1 w.2 ys i out).length := by
      intro ys
      induction ys with
      | nil => intro i out; exact Nat.le_refl _
      | cons y ys ih =>
        intro i out
        exact Nat.le_trans (mstep_len (2 + w.1 % 4) out (turn3 (2 + w.1 % 4) w.1 w.2 y i)).1 (ih (i + 1) _)
    have := grow rs (0 + 1) [turn3 (2 + w.1 % 4) w.1 w.2 r 0]
    intro e
    rw [e] at this
    simp at this
theorem c_Grows (x : RawS) (w : Int × Int) (r : RawRl) : PC env 8 [⟨RawT, x⟩, ⟨.st (.pair (.int .u8) (.int .u8)), w⟩, ⟨RawRuleT, r⟩] .bool true := by
  have ko := (made3_ok x w).1
  have k1 := c_Made3 x w
  have hS0 := made3_ne x w
  generalize made3E x w = S at ko k1 hS0
  refine PC.of_PW (m := 2000) env_ok fn_8 rfl rfl rfl rfl (by kernel_rfl) ?_; intro hx; simp only [Try.f8]; simp only [go_sem, Nat.reduceBEq, ↓reduceIte, ↓reduceDIte, Nat.reduceAdd, Nat.reduceSub, Nat.reduceMul, Nat.reduceLeDiff, ← Bool.decide_and, ← Bool.decide_or, ← decide_not, Int.reduceLT, Int.reduceLE, Int.reduceToNat, Int.reduceNeg, litP, appendC, ne_eq, not_false_eq_true]
  have hw0 := u8_of hx.2.1.1
  have hw1 := u8_of hx.2.1.2
  have n1 := ko.n1
  have n8 := ko.n8
  have hlen := ko.len
  refine ⟨_, c_sanity, _, k1 ⟨hw0.1, hw1.1⟩, fun _ => ?_⟩
  have hne : S.2.2 ≠ [] := hS0
  have kq := fun u => c_Made1 r S.1 u
  have km := c_Valid2 (moreS S (made1E r S.1))
  by_cases hv : (checkE (moreS S (made1E r S.1))).2 = 0
  · rw [decide_eq_true hv] at km
    have kt : OkS (moreS S (made1E r S.1)) := check_ok hv
    have hN : ((S.1.toNat : Nat) : Int) = S.1 := by omega
    apply Walks.shareX (X := Unit) (fun _ => ⟨[(14, .iv (.int .i64) (0 : Int)), (8, .ref 8 0), (9, .ref 9 0), (10, .iv (.sl .bool) (reachedE S)), (11, .iv (.sl .bool) (reachedE (moreS S (made1E r S.1)))), (12, .iv (.sl .bool) (liveE S)), (13, .iv (.sl .bool) (liveE (moreS S (made1E r S.1)))), (7, .iv .bool true)], [(8, .box [.iv (.int .i64) S.1, .iv (.int .u8) S.2.1, .iv (.sl RuleT) S.2.2]), (9, .box [.iv (.int .i64) S.1, .iv (.int .u8) S.2.1, .iv (.sl RuleT) (S.2.2 ++ [made1E r S.1])])]⟩) (fun _ => True)
    · intro key
      refine ⟨⟨?_, ?_⟩, ?_⟩
      all_goals
        refine ⟨⟨hne, by omega⟩, _, kq (by show (0 : Int) < S.1; omega), fun _ => ⟨by omega, _, km, PB_cast (b' := false) rfl ?_⟩⟩
        simp only [go_sem, Nat.reduceBEq, ↓reduceIte, ↓reduceDIte, Nat.reduceAdd, Nat.reduceSub, Nat.reduceMul, Nat.reduceLeDiff, ← Bool.decide_and, ← Bool.decide_or, ← decide_not, Int.reduceLT, Int.reduceLE, Int.reduceToNat, Int.reduceNeg, litP, appendC, ne_eq, not_false_eq_true]
        refine Walks.sealw [32] ?_
        simp only [go_sem, Nat.reduceBEq, ↓reduceIte, ↓reduceDIte, Nat.reduceAdd, Nat.reduceSub, Nat.reduceMul, Nat.reduceLeDiff, ← Bool.decide_and, ← Bool.decide_or, ← decide_not, Int.reduceLT, Int.reduceLE, Int.reduceToNat, Int.reduceNeg, litP, appendC, ne_eq, not_false_eq_true]
        refine PW_go env_ok ⟨_, fn_8, rfl⟩ 2000 _ _ (by kernel_rfl) ?_; simp only [go_sem, Nat.reduceBEq, ↓reduceIte, ↓reduceDIte, Nat.reduceAdd, Nat.reduceSub, Nat.reduceMul, Nat.reduceLeDiff, ← Bool.decide_and, ← Bool.decide_or, ← decide_not, Int.reduceLT, Int.reduceLE, Int.reduceToNat, Int.reduceNeg, litP, appendC, ne_eq, not_false_eq_true]
        refine ⟨_, c_Reached S ko, fun _ => ⟨_, c_Reached (moreS S (made1E r S.1)) kt, fun _ => ⟨_, c_Live S ko, fun _ => ⟨_, c_Live (moreS S (made1E r S.1)) kt, fun _ => ⟨fun _ => ⟨fun _ => ⟨fun _ => ⟨fun g => absurd (by rw [live_len]; exact hN) g, fun _ => ?_⟩, fun g => absurd (by rw [live_len]; exact hN) g⟩, fun g => absurd (by rw [reached_len]; exact hN) g⟩, fun g => absurd (by rw [reached_len]; exact hN) g⟩⟩⟩⟩⟩
        exact key _ () trivial (by refine ⟨?_, ?_, rfl, rfl⟩ <;> repeat' (first | exact trivial | exact Or.inl rfl | exact Or.inr rfl | (refine And.intro (Or.inl rfl) ?_) | (refine And.intro (Or.inr (Or.inl rfl)) ?_) | (refine And.intro (Or.inr (Or.inr (Or.inr ⟨rfl, rfl⟩))) ?_) | (refine And.intro (Or.inr (Or.inr (Or.inl ⟨rfl, rfl, trivial⟩))) ?_) | exact ⟨(by show (_ : Nat) < 1000000000; omega), rfl, rfl⟩ | rfl | (refine And.intro (Or.inl ?_) ?_) | (refine And.intro ?_ ?_)))
    intro _ _
    refine Walks.loopA (X := Nat) (fun (z : Nat) => [(14, .iv (.int .i64) (z : Int)), (15, .any), (16, .any), (17, .any), (18, .any), (19, .any), (20, .any)]) (fun (z : Nat) => []) (fun (z : Nat) => (z : Int) ≤ S.1) (fun (z : Nat) => (S.1 - z).toNat) 0 ?_; intro b1 b2 hb1 hb2; simp (config := {maxSteps := 4000000}) only [go_sem, Nat.reduceBEq, ↓reduceIte, ↓reduceDIte, Nat.reduceAdd, Nat.reduceSub, Nat.reduceMul, Nat.reduceLeDiff, ← Bool.decide_and, ← Bool.decide_or, ← decide_not, Int.reduceLT, Int.reduceLE, Int.reduceToNat, Int.reduceNeg, litP, appendC, ne_eq, not_false_eq_true] at hb1 hb2; subst hb1; subst hb2; refine ⟨(by refine ⟨?_, ?_, rfl, rfl⟩ <;> repeat' (first | exact trivial | exact Or.inl rfl | exact Or.inr rfl | (refine And.intro (Or.inl rfl) ?_) | (refine And.intro (Or.inr (Or.inl rfl)) ?_) | (refine And.intro (Or.inr (Or.inr (Or.inr ⟨rfl, rfl⟩))) ?_) | (refine And.intro (Or.inr (Or.inr (Or.inl ⟨rfl, rfl, trivial⟩))) ?_) | exact ⟨(by show (_ : Nat) < 1000000000; omega), rfl, rfl⟩ | rfl | (refine And.intro (Or.inl ?_) ?_) | (refine And.intro ?_ ?_))), ?_, ?_⟩
    · show (0 : Int) ≤ S.1; omega
    intro i hi back
    refine PW_sound env_ok ⟨_, fn_8, rfl⟩ 2000 _ _ (by kernel_rfl) ?_; simp only [go_sem, Nat.reduceBEq, ↓reduceIte, ↓reduceDIte, Nat.reduceAdd, Nat.reduceSub, Nat.reduceMul, Nat.reduceLeDiff, ← Bool.decide_and, ← Bool.decide_or, ← decide_not, Int.reduceLT, Int.reduceLE, Int.reduceToNat, Int.reduceNeg, litP, appendC, ne_eq, not_false_eq_true]
    refine ⟨fun g1 => ?_, fun _ => trivial⟩
    have i0 := Int.natCast_nonneg i
    obtain ⟨ba, hba⟩ : ∃ b, (reachedE S)[i]? = some b := get_of_lt (by rw [reached_len]; omega)
    obtain ⟨bb, hbb⟩ : ∃ b, (reachedE (moreS S (made1E r S.1)))[i]? = some b := get_of_lt (by rw [reached_len]; show i < S.1.toNat; omega)
    obtain ⟨bc, hbc⟩ : ∃ b, (liveE S)[i]? = some b := get_of_lt (by rw [live_len]; omega)
    obtain ⟨bd, hbd⟩ : ∃ b, (liveE (moreS S (made1E r S.1)))[i]? = some b := get_of_lt (by rw [live_len]; show i < S.1.toNat; omega)
    have hab : ba = true → bb = true := fun h => by
      subst h
      have := reached_more ko kt hba
      unfold on at this
      rw [hbb] at this
      injection this
    have hcd : bc = true → bd = true := fun h => by
      subst h
      have := live_more ko kt hbc
      unfold on at this
      rw [hbd] at this
      injection this
    have hle : (leastR S (i : Int)).2.2 = 0 → (leastR (moreS S (made1E r S.1)) (i : Int)).2.2 = 0 ∧ (leastR (moreS S (made1E r S.1)) (i : Int)).2.1 ≤ (leastR S (i : Int)).2.1 := fun h => by
      refine least_more ko kt ⟨i0, g1⟩ ?_
      by_cases hl : on (liveE S) (i : Int).toNat
      · exact hl
      · rw [leastR_none ko ⟨i0, g1⟩ hl] at h; cases h
    refine ⟨_, c_Least S (i : Int) ko, fun _ => ⟨_, c_Least (moreS S (made1E r S.1)) (i : Int) kt, fun _ => ⟨i0, ba, hba, ?_⟩⟩⟩
    generalize leastR S (i : Int) = L1 at hle
    generalize leastR (moreS S (made1E r S.1)) (i : Int) = L2 at hle
    obtain ⟨l1, k1', e1⟩ := L1
    obtain ⟨l2, k2', e2⟩ := L2
    dsimp only at hle ⊢
    cases ba
    · simp only [go_sem, Nat.reduceBEq, ↓reduceIte, ↓reduceDIte, Nat.reduceAdd, Nat.reduceSub, Nat.reduceMul, Nat.reduceLeDiff, ← Bool.decide_and, ← Bool.decide_or, ← decide_not, Int.reduceLT, Int.reduceLE, Int.reduceToNat, Int.reduceNeg, litP, appendC, ne_eq, not_false_eq_true]
      refine ⟨i0, bc, hbc, ?_⟩
      cases bc
      · simp only [go_sem, Nat.reduceBEq, ↓reduceIte, ↓reduceDIte, Nat.reduceAdd, Nat.reduceSub, Nat.reduceMul, Nat.reduceLeDiff, ← Bool.decide_and, ← Bool.decide_or, ← decide_not, Int.reduceLT, Int.reduceLE, Int.reduceToNat, Int.reduceNeg, litP, appendC, ne_eq, not_false_eq_true]
        refine ⟨fun h1 => ⟨fun h2 => ⟨fun h3 => absurd h3 (by have := (hle h1).2; omega), fun _ => ⟨i64_ok (by omega) (by omega), back _ (i + 1) (by refine ⟨?_, ?_, rfl, rfl⟩ <;> repeat' (first | exact trivial | exact Or.inl rfl | exact Or.inr rfl | (refine And.intro (Or.inl rfl) ?_) | (refine And.intro (Or.inr (Or.inl rfl)) ?_) | (refine And.intro (Or.inr (Or.inr (Or.inr ⟨rfl, rfl⟩))) ?_) | (refine And.intro (Or.inr (Or.inr (Or.inl ⟨rfl, rfl, trivial⟩))) ?_) | exact ⟨(by show (_ : Nat) < 1000000000; omega), rfl, rfl⟩ | rfl | (refine And.intro (Or.inl ?_) ?_) | (refine And.intro ?_ ?_))) (by omega) (by omega)⟩⟩, fun h2 => absurd (hle h1).1 h2⟩, fun h1 => ⟨i64_ok (by omega) (by omega), back _ (i + 1) (by refine ⟨?_, ?_, rfl, rfl⟩ <;> repeat' (first | exact trivial | exact Or.inl rfl | exact Or.inr rfl | (refine And.intro (Or.inl rfl) ?_) | (refine And.intro (Or.inr (Or.inl rfl)) ?_) | (refine And.intro (Or.inr (Or.inr (Or.inr ⟨rfl, rfl⟩))) ?_) | (refine And.intro (Or.inr (Or.inr (Or.inl ⟨rfl, rfl, trivial⟩))) ?_) | exact ⟨(by show (_ : Nat) < 1000000000; omega), rfl, rfl⟩ | rfl | (refine And.intro (Or.inl ?_) ?_) | (refine And.intro ?_ ?_))) (by omega) (by omega)⟩⟩
      · obtain rfl := hcd rfl
        simp only [go_sem, Nat.reduceBEq, ↓reduceIte, ↓reduceDIte, Nat.reduceAdd, Nat.reduceSub, Nat.reduceMul, Nat.reduceLeDiff, ← Bool.decide_and, ← Bool.decide_or, ← decide_not, Int.reduceLT, Int.reduceLE, Int.reduceToNat, Int.reduceNeg, litP, appendC, ne_eq, not_false_eq_true]
        refine ⟨i0, true, hbd, PK_cast (b' := false) rfl ?_⟩
        simp only [go_sem, Nat.reduceBEq, ↓reduceIte, ↓reduceDIte, Nat.reduceAdd, Nat.reduceSub, Nat.reduceMul, Nat.reduceLeDiff, ← Bool.decide_and, ← Bool.decide_or, ← decide_not, Int.reduceLT, Int.reduceLE, Int.reduceToNat, Int.reduceNeg, litP, appendC, ne_eq, not_false_eq_true]
        refine ⟨fun h1 => ⟨fun h2 => ⟨fun h3 => absurd h3 (by have := (hle h1).2; omega), fun _ => ⟨i64_ok (by omega) (by omega), back _ (i + 1) (by refine ⟨?_, ?_, rfl, rfl⟩ <;> repeat' (first | exact trivial | exact Or.inl rfl | exact Or.inr rfl | (refine And.intro (Or.inl rfl) ?_) | (refine And.intro (Or.inr (Or.inl rfl)) ?_) | (refine And.intro (Or.inr (Or.inr (Or.inr ⟨rfl, rfl⟩))) ?_) | (refine And.intro (Or.inr (Or.inr (Or.inl ⟨rfl, rfl, trivial⟩))) ?_) | exact ⟨(by show (_ : Nat) < 1000000000; omega), rfl, rfl⟩ | rfl | (refine And.intro (Or.inl ?_) ?_) | (refine And.intro ?_ ?_))) (by omega) (by omega)⟩⟩, fun h2 => absurd (hle h1).1 h2⟩, fun h1 => ⟨i64_ok (by omega) (by omega), back _ (i + 1) (by refine ⟨?_, ?_, rfl, rfl⟩ <;> repeat' (first | exact trivial | exact Or.inl rfl | exact Or.inr rfl | (refine And.intro (Or.inl rfl) ?_) | (refine And.intro (Or.inr (Or.inl rfl)) ?_) | (refine And.intro (Or.inr (Or.inr (Or.inr ⟨rfl, rfl⟩))) ?_) | (refine And.intro (Or.inr (Or.inr (Or.inl ⟨rfl, rfl, trivial⟩))) ?_) | exact ⟨(by show (_ : Nat) < 1000000000; omega), rfl, rfl⟩ | rfl | (refine And.intro (Or.inl ?_) ?_) | (refine And.intro ?_ ?_))) (by omega) (by omega)⟩⟩
    · obtain rfl := hab rfl
      simp only [go_sem, Nat.reduceBEq, ↓reduceIte, ↓reduceDIte, Nat.reduceAdd, Nat.reduceSub, Nat.reduceMul, Nat.reduceLeDiff, ← Bool.decide_and, ← Bool.decide_or, ← decide_not, Int.reduceLT, Int.reduceLE, Int.reduceToNat, Int.reduceNeg, litP, appendC, ne_eq, not_false_eq_true]
      refine ⟨i0, true, hbb, PK_cast (b' := false) rfl ?_⟩
      simp only [go_sem, Nat.reduceBEq, ↓reduceIte, ↓reduceDIte, Nat.reduceAdd, Nat.reduceSub, Nat.reduceMul, Nat.reduceLeDiff, ← Bool.decide_and, ← Bool.decide_or, ← decide_not, Int.reduceLT, Int.reduceLE, Int.reduceToNat, Int.reduceNeg, litP, appendC, ne_eq, not_false_eq_true]
      refine ⟨i0, bc, hbc, ?_⟩
      cases bc
      · simp only [go_sem, Nat.reduceBEq, ↓reduceIte, ↓reduceDIte, Nat.reduceAdd, Nat.reduceSub, Nat.reduceMul, Nat.reduceLeDiff, ← Bool.decide_and, ← Bool.decide_or, ← decide_not, Int.reduceLT, Int.reduceLE, Int.reduceToNat, Int.reduceNeg, litP, appendC, ne_eq, not_false_eq_true]
        refine ⟨fun h1 => ⟨fun h2 => ⟨fun h3 => absurd h3 (by have := (hle h1).2; omega), fun _ => ⟨i64_ok (by omega) (by omega), back _ (i + 1) (by refine ⟨?_, ?_, rfl, rfl⟩ <;> repeat' (first | exact trivial | exact Or.inl rfl | exact Or.inr rfl | (refine And.intro (Or.inl rfl) ?_) | (refine And.intro (Or.inr (Or.inl rfl)) ?_) | (refine And.intro (Or.inr (Or.inr (Or.inr ⟨rfl, rfl⟩))) ?_) | (refine And.intro (Or.inr (Or.inr (Or.inl ⟨rfl, rfl, trivial⟩))) ?_) | exact ⟨(by show (_ : Nat) < 1000000000; omega), rfl, rfl⟩ | rfl | (refine And.intro (Or.inl ?_) ?_) | (refine And.intro ?_ ?_))) (by omega) (by omega)⟩⟩, fun h2 => absurd (hle h1).1 h2⟩, fun h1 => ⟨i64_ok (by omega) (by omega), back _ (i + 1) (by refine ⟨?_, ?_, rfl, rfl⟩ <;> repeat' (first | exact trivial | exact Or.inl rfl | exact Or.inr rfl | (refine And.intro (Or.inl rfl) ?_) | (refine And.intro (Or.inr (Or.inl rfl)) ?_) | (refine And.intro (Or.inr (Or.inr (Or.inr ⟨rfl, rfl⟩))) ?_) | (refine And.intro (Or.inr (Or.inr (Or.inl ⟨rfl, rfl, trivial⟩))) ?_) | exact ⟨(by show (_ : Nat) < 1000000000; omega), rfl, rfl⟩ | rfl | (refine And.intro (Or.inl ?_) ?_) | (refine And.intro ?_ ?_))) (by omega) (by omega)⟩⟩
      · obtain rfl := hcd rfl
        simp only [go_sem, Nat.reduceBEq, ↓reduceIte, ↓reduceDIte, Nat.reduceAdd, Nat.reduceSub, Nat.reduceMul, Nat.reduceLeDiff, ← Bool.decide_and, ← Bool.decide_or, ← decide_not, Int.reduceLT, Int.reduceLE, Int.reduceToNat, Int.reduceNeg, litP, appendC, ne_eq, not_false_eq_true]
        refine ⟨i0, true, hbd, PK_cast (b' := false) rfl ?_⟩
        simp only [go_sem, Nat.reduceBEq, ↓reduceIte, ↓reduceDIte, Nat.reduceAdd, Nat.reduceSub, Nat.reduceMul, Nat.reduceLeDiff, ← Bool.decide_and, ← Bool.decide_or, ← decide_not, Int.reduceLT, Int.reduceLE, Int.reduceToNat, Int.reduceNeg, litP, appendC, ne_eq, not_false_eq_true]
        refine ⟨fun h1 => ⟨fun h2 => ⟨fun h3 => absurd h3 (by have := (hle h1).2; omega), fun _ => ⟨i64_ok (by omega) (by omega), back _ (i + 1) (by refine ⟨?_, ?_, rfl, rfl⟩ <;> repeat' (first | exact trivial | exact Or.inl rfl | exact Or.inr rfl | (refine And.intro (Or.inl rfl) ?_) | (refine And.intro (Or.inr (Or.inl rfl)) ?_) | (refine And.intro (Or.inr (Or.inr (Or.inr ⟨rfl, rfl⟩))) ?_) | (refine And.intro (Or.inr (Or.inr (Or.inl ⟨rfl, rfl, trivial⟩))) ?_) | exact ⟨(by show (_ : Nat) < 1000000000; omega), rfl, rfl⟩ | rfl | (refine And.intro (Or.inl ?_) ?_) | (refine And.intro ?_ ?_))) (by omega) (by omega)⟩⟩, fun h2 => absurd (hle h1).1 h2⟩, fun h1 => ⟨i64_ok (by omega) (by omega), back _ (i + 1) (by refine ⟨?_, ?_, rfl, rfl⟩ <;> repeat' (first | exact trivial | exact Or.inl rfl | exact Or.inr rfl | (refine And.intro (Or.inl rfl) ?_) | (refine And.intro (Or.inr (Or.inl rfl)) ?_) | (refine And.intro (Or.inr (Or.inr (Or.inr ⟨rfl, rfl⟩))) ?_) | (refine And.intro (Or.inr (Or.inr (Or.inl ⟨rfl, rfl, trivial⟩))) ?_) | exact ⟨(by show (_ : Nat) < 1000000000; omega), rfl, rfl⟩ | rfl | (refine And.intro (Or.inl ?_) ?_) | (refine And.intro ?_ ?_))) (by omega) (by omega)⟩⟩
  · rw [decide_eq_false hv] at km
    refine ⟨⟨?_, ?_⟩, ?_⟩
    all_goals
      refine ⟨⟨hne, by omega⟩, _, kq (by show (0 : Int) < S.1; omega), fun _ => ⟨by omega, _, km, PB_cast (b' := true) rfl ?_⟩⟩
      simp only [go_sem, Nat.reduceBEq, ↓reduceIte, ↓reduceDIte, Nat.reduceAdd, Nat.reduceSub, Nat.reduceMul, Nat.reduceLeDiff, ← Bool.decide_and, ← Bool.decide_or, ← decide_not, Int.reduceLT, Int.reduceLE, Int.reduceToNat, Int.reduceNeg, litP, appendC, ne_eq, not_false_eq_true]
end Go.Proofs.Ytaphmhdgpdhpiaa
namespace Go.Proofs.Ytaphmhdgpdhpiaa
open Go.ChangeShapes Go.WideShapes Go.ChangeAt Go.RowKit
theorem own_none : ownKnob Try.prog.godebug = none := by kernel_rfl
theorem laid_out : laidOutB env.P = true := by kernel_rfl
theorem grows_all (xs : List (Sigma Ty.den)) (h : xs.map (·.1) = [RawT, .st (.pair (.int .u8) (.int .u8)), RawRuleT]) : PC env 8 xs .bool true := by
  match xs, h with
  | [⟨_, y0⟩, ⟨_, y1⟩, ⟨_, y2⟩], h =>
    injection h with h1 h
    injection h with h2 h
    injection h with h3 h
    dsimp only at h1 h2 h3
    subst h1 h2 h3
    exact c_Grows y0 y1 y2
set_option maxRecDepth 100000 in
theorem grows_lifted (os : Os) (started : os.Started) (H : Type) (enc : TypeId × Value → H) :
    ReturnsInHanded {} Try.checked os 8 .any (Rows.routeGrowsSpec.pre6 enc Try.prog Try.f8 Rows.routeGrowsRow.domain false) (Rows.routeGrowsSpec.post enc Try.prog Try.f8 false true false false) := by
  refine returnsInHanded_of_change (C := Try.checked) own_none started (by kernel_rfl) fn_8
    (ChangeSpec.witness6 (enc := enc) (C := Try.checked) false ⟨#[], #[.agg #[.int .u8 0, .int .u8 0, .slice none 0 0], .agg #[.int .u8 0, .int .u8 0], .agg #[.slice none 0 0, .slice none 0 0, .int .u8 0, .int .u8 0, .int .u8 0]], []⟩ 8 (by kernel_rfl) (by kernel_rfl) (by kernel_rfl) (by kernel_rfl)) ?_
  intro W base args ds gs before hval hW _ _
  refine law_calls (E := env) (b0 := base) (Ts := [RawT, .st (.pair (.int .u8) (.int .u8)), RawRuleT]) (tb := 4) env_ok laid_out (of_decide_eq_true (by kernel_rfl)) rfl rfl rfl (by kernel_rfl) rfl ?_ grows_all (fun g hg => by cases hg) hval hW
  intro ds hds
  match ds, hds with
  | [d0, d1, d2], _ => rfl
theorem grows_holds : Rows.RouteGrowsSaid :=
  OpenClaim.holds_of_wide 8 Try.f8 rfl rfl rfl rfl rfl rfl rfl ⟨rfl, rfl, rfl, rfl, rfl⟩ rfl rfl rfl rfl rfl (by kernel_rfl) fn_8 (by kernel_rfl)
    (of_decide_eq_true (by kernel_rfl)) (by unfold Func.isWrapper; first | (rw [if_pos (by decide +kernel)]; kernel_rfl) | (rw [if_neg (by decide +kernel)]; exact ⟨rfl, rfl⟩))
    (fun os started H enc _ => grows_lifted os started H enc)
end Go.Proofs.Ytaphmhdgpdhpiaa
