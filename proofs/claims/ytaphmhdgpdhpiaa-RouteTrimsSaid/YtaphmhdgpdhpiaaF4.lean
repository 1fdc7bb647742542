/- The law RouteTrims holds for every input. No condition. -/
import Derived.Test.YtaphmhdgpdhpiaaC6
import Derived.Test.YtaphmhdgpdhpiaaRows
set_option linter.unusedSimpArgs false
set_option linter.unusedVariables false
namespace Go.Proofs.Ytaphmhdgpdhpiaa
set_option maxHeartbeats 4000000
set_option maxRecDepth 100000
theorem pairsT_mem {R L : List Bool} : ∀ {rs : List Rl} {i : Nat} {p : Rl × Int}, p ∈ pairsT R L rs i ↔ ∃ (j : Nat), rs[j]? = some p.1 ∧ p.2 = ((i + j : Nat) : Int) ∧ on R p.1.1.toNat ∧ on L p.1.2.1.toNat
  | [], i, p => by simp [pairsT]
  | r :: rs, i, p => by
    have ih := @pairsT_mem R L rs (i + 1) p
    have hd : (∃ (j : Nat), (r :: rs)[j]? = some p.1 ∧ p.2 = ((i + j : Nat) : Int) ∧ on R p.1.1.toNat ∧ on L p.1.2.1.toNat) ↔ (r = p.1 ∧ p.2 = (i : Int) ∧ on R p.1.1.toNat ∧ on L p.1.2.1.toNat) ∨ ∃ (j : Nat), rs[j]? = some p.1 ∧ p.2 = ((i + 1 + j : Nat) : Int) ∧ on R p.1.1.toNat ∧ on L p.1.2.1.toNat := by
      constructor
      · rintro ⟨j, h1, h2, h3⟩
        cases j with
        | zero => exact .inl ⟨by simpa using h1, by simpa using h2, h3⟩
        | succ j => exact .inr ⟨j, by simpa using h1, by rw [h2]; congr 1; omega, h3⟩
      · rintro (⟨h1, h2, h3⟩ | ⟨j, h1, h2, h3⟩)
        · exact ⟨0, by simpa using h1, by simpa using h2, h3⟩
        · exact ⟨j + 1, by simpa using h1, by rw [h2]; congr 1; omega, h3⟩
    rw [hd, ← ih]
    have e : pairsT R L (r :: rs) i = if R[r.1.toNat]? = some true ∧ L[r.2.1.toNat]? = some true then (r, (i : Int)) :: pairsT R L rs (i + 1) else pairsT R L rs (i + 1) := rfl
    rw [e]
    split
    · rename_i h
      rw [List.mem_cons]
      refine or_congr ?_ Iff.rfl
      constructor
      · rintro rfl; exact ⟨rfl, rfl, h⟩
      · rintro ⟨rfl, h2, _⟩; exact Prod.ext rfl h2
    · rename_i h
      refine ⟨.inr, fun g => g.resolve_left ?_⟩
      rintro ⟨rfl, _, h3⟩
      exact h h3
theorem pairsT_all {R L : List Bool} : ∀ {rs : List Rl} {i : Nat}, (∀ r, r ∈ rs → on R r.1.toNat ∧ on L r.2.1.toNat) → (pairsT R L rs i).map (·.1) = rs
  | [], _, _ => rfl
  | r :: rs, i, h => by
    have h0 := h r (List.mem_cons_self ..)
    rw [pairsT_yes h0.1 h0.2, List.map_cons, pairsT_all fun r hr => h r (List.mem_cons_of_mem _ hr)]
theorem pairsT_sub {R L : List Bool} : ∀ {rs : List Rl} {i : Nat}, ((pairsT R L rs i).map (·.1)).Sublist rs
  | [], _ => List.Sublist.slnil
  | r :: rs, i => by
    have e : pairsT R L (r :: rs) i = if R[r.1.toNat]? = some true ∧ L[r.2.1.toNat]? = some true then (r, (i : Int)) :: pairsT R L rs (i + 1) else pairsT R L rs (i + 1) := rfl
    rw [e]
    split
    · exact List.Sublist.cons_cons _ pairsT_sub
    · exact List.Sublist.cons _ pairsT_sub
theorem trim_kept {s : Sch} {r : Rl} : r ∈ (trimE s).1.2.2 ↔ r ∈ s.2.2 ∧ on (reachedE s) r.1.toNat ∧ on (liveE s) r.2.1.toNat := by
  show r ∈ (trimL s).map (·.1) ↔ _
  rw [List.mem_map]
  constructor
  · rintro ⟨p, hp, rfl⟩
    obtain ⟨j, h1, _, h3⟩ := pairsT_mem.1 hp
    exact ⟨List.mem_of_getElem? h1, h3⟩
  · rintro ⟨h1, h2⟩
    obtain ⟨j, hj⟩ := List.getElem?_of_mem h1
    exact ⟨(r, ((0 + j : Nat) : Int)), pairsT_mem.2 ⟨j, hj, rfl, h2⟩, rfl⟩
theorem trim_ok {s : Sch} (hs : OkS s) : OkS (trimE s).1 :=
  ⟨hs.n1, hs.n8, hs.a1, hs.a2, Nat.le_trans (by show ((trimL s).map (·.1)).length ≤ _; rw [List.length_map]; exact pairsT_len _ _ _ _) hs.len, fun r hr => hs.right r (trim_kept.1 hr).1, hs.nodup.sublist pairsT_sub⟩
theorem trim_reach {s : Sch} (hs : OkS s) {m : Nat} (h : Cl (edgesR s.2.2) (startR s.1.toNat) m) : on (liveE s) m → Cl (edgesR (trimE s).1.2.2) (startR s.1.toNat) m := by
  induction h with
  | base m h => exact fun _ => .base m h
  | step a b ha he ih =>
    intro hl
    unfold edgesR at he
    obtain ⟨r, hr, he⟩ := List.mem_map.1 he
    injection he with e1 e2
    subst e1; subst e2
    exact .step _ _ (ih (live_step hs hr hl)) (List.mem_map.2 ⟨r, trim_kept.2 ⟨hr, (reached_iff hs _).2 ha, hl⟩, rfl⟩)
theorem trim_live {s : Sch} (hs : OkS s) {m : Nat} (h : Cl (edgesL s.2.2) (startL s.2.1 s.1.toNat) m) : on (reachedE s) m → Cl (edgesL (trimE s).1.2.2) (startL s.2.1 s.1.toNat) m := by
  induction h with
  | base m h => exact fun _ => .base m h
  | step a b ha he ih =>
    intro hl
    unfold edgesL at he
    obtain ⟨r, hr, he⟩ := List.mem_map.1 he
    injection he with e1 e2
    subst e1; subst e2
    exact .step _ _ (ih (reached_step hs hr hl)) (List.mem_map.2 ⟨r, trim_kept.2 ⟨hr, hl, (live_cl hs _).2 ha⟩, rfl⟩)
theorem trim_again {s : Sch} (hs : OkS s) : (trimE (trimE s).1).1 = (trimE s).1 := by
  have ht := trim_ok hs
  have h : (pairsT (reachedE (trimE s).1) (liveE (trimE s).1) (trimE s).1.2.2 0).map (·.1) = (trimE s).1.2.2 := by
    refine pairsT_all fun r hr => ?_
    obtain ⟨h1, h2, h3⟩ := trim_kept.1 hr
    exact ⟨(reached_iff ht _).2 (trim_reach hs ((reached_iff hs _).1 h2) (live_step hs h1 h3)), (live_cl ht _).2 (trim_live hs ((live_cl hs _).1 h3) (reached_step hs h1 h2))⟩
  show ((trimE s).1.1, (trimE s).1.2.1, (trimL (trimE s).1).map (·.1)) = (trimE s).1
  have h' : (trimL (trimE s).1).map (·.1) = (trimE s).1.2.2 := h
  rw [h']
theorem trim_lens (s : Sch) : (trimE s).1.2.2.length = (trimE s).2.length := by
  show ((trimL s).map _).length = ((trimL s).map _).length
  rw [List.length_map, List.length_map]
/-- A route's rules that leads to a live mode are kept. -/
theorem route_kept {s : Sch} (hs : OkS s) : ∀ (l : List Int) (a b : Str) (c m : Int), on (reachedE s) m.toNat → (runA s.2.2 l a b c m).2.2.2.2 = true → on (liveE s) (runA s.2.2 l a b c m).2.2.2.1.toNat → on (liveE s) m.toNat ∧ ∀ j, j ∈ l → j ∈ (trimE s).2
  | [], _, _, _, _, _, _, h => ⟨h, fun _ h => by cases h⟩
  | j :: l, a, b, c, m, h, hok, hl => by
    obtain ⟨h0, r, hr, hm⟩ := runA_inv hok
    rw [runA_step h0 hr hm] at hok hl
    have hmem := List.mem_of_getElem? hr
    have h' : on (reachedE s) r.1.toNat := by rw [hm]; exact h
    obtain ⟨g1, g2⟩ := route_kept hs l _ _ _ _ (reached_step hs hmem h') hok hl
    refine ⟨by have := live_step hs hmem g1; rw [hm] at this; exact this, fun k hk => ?_⟩
    rcases List.mem_cons.1 hk with rfl | hk
    · show k ∈ (trimL s).map (·.2)
      exact List.mem_map.2 ⟨(r, k), pairsT_mem.2 ⟨k.toNat, hr, by show k = _; omega, h', g1⟩, rfl⟩
    · exact g2 k hk
theorem pairsT_ge {R L : List Bool} {rs : List Rl} {i : Nat} {p : Rl × Int} (h : p ∈ pairsT R L rs i) : (i : Int) ≤ p.2 := by
  obtain ⟨j, _, h, _⟩ := pairsT_mem.1 h
  omega
theorem pairsT_not {R L : List Bool} {r : Rl} {rs : List Rl} {i : Nat} (h : ¬ (on R r.1.toNat ∧ on L r.2.1.toNat)) : pairsT R L (r :: rs) i = pairsT R L rs (i + 1) := by
  have e : pairsT R L (r :: rs) i = if R[r.1.toNat]? = some true ∧ L[r.2.1.toNat]? = some true then (r, (i : Int)) :: pairsT R L rs (i + 1) else pairsT R L rs (i + 1) := rfl
  rw [e]
  exact if_neg h
theorem walk_lt' {s : Sch} (hs : OkS s) (us : List Int) : 0 ≤ (walkL s.2.2 us 0).2 ∧ (walkL s.2.2 us 0).2 < s.1 := by
  obtain ⟨A, B, C, hrun⟩ := walk_runs (rs := s.2.2) us 0 [] [] 0
  have : ∀ (l : List Int) (a b : Str) (c m : Int), 0 ≤ m → m < s.1 → (runA s.2.2 l a b c m).2.2.2.2 = true → 0 ≤ (runA s.2.2 l a b c m).2.2.2.1 ∧ (runA s.2.2 l a b c m).2.2.2.1 < s.1 := by
    intro l
    induction l with
    | nil => intro a b c m h0 h1 _; exact ⟨h0, h1⟩
    | cons j l ih =>
      intro a b c m h0 h1 hok
      obtain ⟨hj, r, hr, hm⟩ := runA_inv hok
      rw [runA_step hj hr hm] at hok ⊢
      have hrn := right_nums (hs.right r (List.mem_of_getElem? hr))
      exact ih _ _ _ _ (by omega) (by omega) hok
  have := this (walkL s.2.2 us 0).1 [] [] 0 0 (Int.le_refl _) (by have := hs.n1; omega) (by rw [hrun])
  rw [hrun] at this
  exact this
theorem c_Trims (x : RawS) (w : Int × Int) (c : List Int) : PC env 6 [⟨RawT, x⟩, ⟨.st (.pair (.int .u8) (.int .u8)), w⟩, ⟨.sl (.int .u8), c⟩] .bool true := by
  have ko := (made3_ok x w).1
  have k1 := c_Made3 x w
  generalize made3E x w = S at ko k1
  refine PC.of_PW (m := 2000) env_ok fn_6 rfl rfl rfl rfl (by kernel_rfl) ?_; intro hx; simp only [Try.f6]; simp only [go_sem, Nat.reduceBEq, ↓reduceIte, ↓reduceDIte, Nat.reduceAdd, Nat.reduceSub, Nat.reduceMul, Nat.reduceLeDiff, ← Bool.decide_and, ← Bool.decide_or, ← decide_not, Int.reduceLT, Int.reduceLE, Int.reduceToNat, Int.reduceNeg]
  have hw0 := u8_of hx.2.1.1
  have hw1 := u8_of hx.2.1.2
  have kt := trim_ok ko
  have k2 := c_Trim S ko
  have k3 := c_Trim (trimE S).1 kt
  have k4 := c_ReachedR S ko
  have k5 := c_LiveR S ko
  have k6 := c_Walk S (0, 10) c ko ⟨by decide, by decide⟩
  have hag := trim_again ko
  have hln := trim_lens S
  have hln2 := trim_lens (trimE S).1
  rw [hag] at hln2
  have hRl := reached_len S
  have hLl := live_len S
  have n1 := ko.n1
  have n8 := ko.n8
  refine ⟨_, c_sanity, _, k1 ⟨hw0.1, hw1.1⟩, fun _ => ⟨_, k2, fun _ => ⟨_, k4, fun _ => ⟨_, k5, fun _ => ⟨fun _ => ⟨fun _ => ⟨fun g => absurd rfl g, fun _ => ?_⟩, fun g => absurd rfl g⟩, fun g => absurd (by omega) g⟩⟩⟩⟩⟩
  have hrs := ko.right
  have hT : (trimL S).drop 0 = pairsT (reachedE S) (liveE S) (S.2.2.drop 0) 0 := rfl
  have hTm : (trimL S).length ≤ S.2.2.length := pairsT_len _ _ _ _
  have hl1 : (trimE S).1.2.2 = (trimL S).map (·.1) := rfl
  have hl2 : (trimE S).2 = (trimL S).map (·.2) := rfl
  refine Walks.loopA (X := Nat × Nat) (fun (z : Nat × Nat) => [(14, .iv (.int .i64) (z.1 : Int)), (13, .iv (.int .i64) (z.2 : Int)), (15, .any)]) (fun (z : Nat × Nat) => []) (fun (z : Nat × Nat) => z.1 ≤ S.2.2.length ∧ z.2 ≤ (trimL S).length ∧ (trimL S).drop z.2 = pairsT (reachedE S) (liveE S) (S.2.2.drop z.1) z.1) (fun (z : Nat × Nat) => S.2.2.length - z.1) (0, 0) ?_; intro b1 b2 hb1 hb2; simp (config := {maxSteps := 4000000}) only [go_sem, Nat.reduceBEq, ↓reduceIte, ↓reduceDIte, Nat.reduceAdd, Nat.reduceSub, Nat.reduceMul, Nat.reduceLeDiff, ← Bool.decide_and, ← Bool.decide_or, ← decide_not, Int.reduceLT, Int.reduceLE, Int.reduceToNat, Int.reduceNeg] at hb1 hb2; subst hb1; subst hb2; refine ⟨(by refine ⟨?_, ?_, rfl, rfl⟩ <;> repeat' (first | exact trivial | exact Or.inl rfl | exact Or.inr rfl | (refine And.intro (Or.inl rfl) ?_) | (refine And.intro (Or.inr (Or.inl rfl)) ?_) | (refine And.intro (Or.inr (Or.inr (Or.inr ⟨rfl, rfl⟩))) ?_) | (refine And.intro (Or.inr (Or.inr (Or.inl ⟨rfl, rfl, trivial⟩))) ?_) | exact ⟨(by show (_ : Nat) < 1000000000; omega), rfl, rfl⟩ | rfl | (refine And.intro (Or.inl ?_) ?_) | (refine And.intro ?_ ?_))), ?_, ?_⟩
  · exact ⟨Nat.zero_le _, Nat.zero_le _, hT⟩
  clear hT
  intro ⟨i, at_⟩ ⟨hi, ha, hT⟩ back
  dsimp only at hi ha hT
  refine PW_sound env_ok ⟨_, fn_6, rfl⟩ 2000 _ _ (by kernel_rfl) ?_; simp only [go_sem, Nat.reduceBEq, ↓reduceIte, ↓reduceDIte, Nat.reduceAdd, Nat.reduceSub, Nat.reduceMul, Nat.reduceLeDiff, ← Bool.decide_and, ← Bool.decide_or, ← decide_not, Int.reduceLT, Int.reduceLE, Int.reduceToNat, Int.reduceNeg]
  refine ⟨fun g1 => ?_, fun g1 => ?_⟩
  · obtain ⟨r, hr⟩ : ∃ r, S.2.2[i]? = some r := get_of_lt (by omega)
    have hrm := List.mem_of_getElem? hr
    have hrn := right_nums (hrs r hrm)
    rw [drop_cons hr] at hT
    obtain ⟨b1, hb1⟩ : ∃ b, (reachedE S)[r.1.toNat]? = some b := get_of_lt (by omega)
    obtain ⟨b2, hb2⟩ : ∃ b, (liveE S)[r.2.1.toNat]? = some b := get_of_lt (by omega)
    refine ⟨fun g2 => ?_, fun g2 => ?_⟩
    · obtain ⟨p, hp⟩ : ∃ p, (trimL S)[at_]? = some p := get_of_lt (by rw [hl2, List.length_map] at g2; omega)
      have hj : (trimE S).2[at_]? = some p.2 := by rw [hl2, List.getElem?_map, hp]; rfl
      have hq : (trimE S).1.2.2[at_]? = some p.1 := by rw [hl1, List.getElem?_map, hp]; rfl
      rw [drop_cons hp] at hT
      have hge : on (reachedE S) r.1.toNat ∧ on (liveE S) r.2.1.toNat → p = (r, (i : Int)) ∧ (trimL S).drop (at_ + 1) = pairsT (reachedE S) (liveE S) (S.2.2.drop (i + 1)) (i + 1) := fun h => by
        rw [pairsT_yes h.1 h.2] at hT
        injection hT with h1 h2
        exact ⟨h1, h2⟩
      have hno : ¬ (on (reachedE S) r.1.toNat ∧ on (liveE S) r.2.1.toNat) → ¬ p.2 = (i : Int) ∧ (trimL S).drop at_ = pairsT (reachedE S) (liveE S) (S.2.2.drop (i + 1)) (i + 1) := fun h => by
        rw [pairsT_not h] at hT
        refine ⟨fun he => ?_, by rw [drop_cons hp]; exact hT⟩
        have hm : p ∈ pairsT (reachedE S) (liveE S) (S.2.2.drop (i + 1)) (i + 1) := by rw [← hT]; exact List.mem_cons_self ..
        have := pairsT_ge hm
        omega
      refine ⟨Int.natCast_nonneg _, p.2, hj, Int.natCast_nonneg _, r, hr, by omega, b1, hb1, ?_⟩
      cases b1
      · obtain ⟨hne, hT'⟩ := hno (fun h => by have := h.1; unfold on at this; rw [hb1] at this; simp at this)
        simp only [go_sem, Nat.reduceBEq, ↓reduceIte, ↓reduceDIte, Nat.reduceAdd, Nat.reduceSub, Nat.reduceMul, Nat.reduceLeDiff, ← Bool.decide_and, ← Bool.decide_or, ← decide_not, Int.reduceLT, Int.reduceLE, Int.reduceToNat, Int.reduceNeg]
        rw [decide_eq_false hne]
        refine PK_cast (b' := false) rfl ?_
        simp only [go_sem, Nat.reduceBEq, ↓reduceIte, ↓reduceDIte, Nat.reduceAdd, Nat.reduceSub, Nat.reduceMul, Nat.reduceLeDiff, ← Bool.decide_and, ← Bool.decide_or, ← decide_not, Int.reduceLT, Int.reduceLE, Int.reduceToNat, Int.reduceNeg]
        exact ⟨i64_ok (by omega) (by omega), back _ (i + 1, at_) (by refine ⟨?_, ?_, rfl, rfl⟩ <;> repeat' (first | exact trivial | exact Or.inl rfl | exact Or.inr rfl | (refine And.intro (Or.inl rfl) ?_) | (refine And.intro (Or.inr (Or.inl rfl)) ?_) | (refine And.intro (Or.inr (Or.inr (Or.inr ⟨rfl, rfl⟩))) ?_) | (refine And.intro (Or.inr (Or.inr (Or.inl ⟨rfl, rfl, trivial⟩))) ?_) | exact ⟨(by show (_ : Nat) < 1000000000; omega), rfl, rfl⟩ | rfl | (refine And.intro (Or.inl ?_) ?_) | (refine And.intro ?_ ?_))) ⟨(by first | omega | (show (_ : Int) ≤ _; omega) | (show (_ : Int) < _; omega) | (dsimp only; omega)), ha, hT'⟩ (by dsimp only; omega)⟩
      · simp only [go_sem, Nat.reduceBEq, ↓reduceIte, ↓reduceDIte, Nat.reduceAdd, Nat.reduceSub, Nat.reduceMul, Nat.reduceLeDiff, ← Bool.decide_and, ← Bool.decide_or, ← decide_not, Int.reduceLT, Int.reduceLE, Int.reduceToNat, Int.reduceNeg]
        refine ⟨Int.natCast_nonneg _, r, hr, by omega, b2, hb2, ?_⟩
        cases b2
        · obtain ⟨hne, hT'⟩ := hno (fun h => by have := h.2; unfold on at this; rw [hb2] at this; simp at this)
          rw [decide_eq_false hne]
          refine PK_cast (b' := false) rfl ?_
          simp only [go_sem, Nat.reduceBEq, ↓reduceIte, ↓reduceDIte, Nat.reduceAdd, Nat.reduceSub, Nat.reduceMul, Nat.reduceLeDiff, ← Bool.decide_and, ← Bool.decide_or, ← decide_not, Int.reduceLT, Int.reduceLE, Int.reduceToNat, Int.reduceNeg]
          exact ⟨i64_ok (by omega) (by omega), back _ (i + 1, at_) (by refine ⟨?_, ?_, rfl, rfl⟩ <;> repeat' (first | exact trivial | exact Or.inl rfl | exact Or.inr rfl | (refine And.intro (Or.inl rfl) ?_) | (refine And.intro (Or.inr (Or.inl rfl)) ?_) | (refine And.intro (Or.inr (Or.inr (Or.inr ⟨rfl, rfl⟩))) ?_) | (refine And.intro (Or.inr (Or.inr (Or.inl ⟨rfl, rfl, trivial⟩))) ?_) | exact ⟨(by show (_ : Nat) < 1000000000; omega), rfl, rfl⟩ | rfl | (refine And.intro (Or.inl ?_) ?_) | (refine And.intro ?_ ?_))) ⟨(by first | omega | (show (_ : Int) ≤ _; omega) | (show (_ : Int) < _; omega) | (dsimp only; omega)), ha, hT'⟩ (by dsimp only; omega)⟩
        · obtain ⟨rfl, hT'⟩ := hge ⟨hb1, hb2⟩
          rw [decide_eq_true (rfl : (r, (i : Int)).2 = (i : Int))]
          refine PK_cast (b' := false) rfl ?_
          simp only [go_sem, Nat.reduceBEq, ↓reduceIte, ↓reduceDIte, Nat.reduceAdd, Nat.reduceSub, Nat.reduceMul, Nat.reduceLeDiff, ← Bool.decide_and, ← Bool.decide_or, ← decide_not, Int.reduceLT, Int.reduceLE, Int.reduceToNat, Int.reduceNeg]
          have e1 : (trimE S).1.2.2[at_]? = some r := hq
          refine ⟨Int.natCast_nonneg _, r, e1, Int.natCast_nonneg _, r, hr, fun h => absurd ⟨rfl, rfl, rfl, rfl, rfl⟩ h, fun _ => ?_⟩
          have : at_ < (trimL S).length := (List.getElem?_eq_some_iff.1 hp).1
          exact ⟨i64_ok (by omega) (by omega), i64_ok (by omega) (by omega), back _ (i + 1, at_ + 1) (by refine ⟨?_, ?_, rfl, rfl⟩ <;> repeat' (first | exact trivial | exact Or.inl rfl | exact Or.inr rfl | (refine And.intro (Or.inl rfl) ?_) | (refine And.intro (Or.inr (Or.inl rfl)) ?_) | (refine And.intro (Or.inr (Or.inr (Or.inr ⟨rfl, rfl⟩))) ?_) | (refine And.intro (Or.inr (Or.inr (Or.inl ⟨rfl, rfl, trivial⟩))) ?_) | exact ⟨(by show (_ : Nat) < 1000000000; omega), rfl, rfl⟩ | rfl | (refine And.intro (Or.inl ?_) ?_) | (refine And.intro ?_ ?_))) ⟨(by first | omega | (show (_ : Int) ≤ _; omega) | (show (_ : Int) < _; omega) | (dsimp only; omega)), (by first | omega | (show (_ : Int) ≤ _; omega) | (show (_ : Int) < _; omega) | (dsimp only; omega)), hT'⟩ (by dsimp only; omega)⟩
    · have hnil : (trimL S).drop at_ = [] := List.drop_of_length_le (by rw [hl2, List.length_map] at g2; omega)
      have hT' : ¬ (on (reachedE S) r.1.toNat ∧ on (liveE S) r.2.1.toNat) ∧ (trimL S).drop at_ = pairsT (reachedE S) (liveE S) (S.2.2.drop (i + 1)) (i + 1) := by
        have hn : ¬ (on (reachedE S) r.1.toNat ∧ on (liveE S) r.2.1.toNat) := fun h => by rw [hnil, pairsT_yes h.1 h.2] at hT; cases hT
        exact ⟨hn, by rw [pairsT_not hn] at hT; exact hT⟩
      refine ⟨Int.natCast_nonneg _, r, hr, by omega, b1, hb1, ?_⟩
      cases b1
      · simp only [go_sem, Nat.reduceBEq, ↓reduceIte, ↓reduceDIte, Nat.reduceAdd, Nat.reduceSub, Nat.reduceMul, Nat.reduceLeDiff, ← Bool.decide_and, ← Bool.decide_or, ← decide_not, Int.reduceLT, Int.reduceLE, Int.reduceToNat, Int.reduceNeg]
        exact ⟨i64_ok (by omega) (by omega), back _ (i + 1, at_) (by refine ⟨?_, ?_, rfl, rfl⟩ <;> repeat' (first | exact trivial | exact Or.inl rfl | exact Or.inr rfl | (refine And.intro (Or.inl rfl) ?_) | (refine And.intro (Or.inr (Or.inl rfl)) ?_) | (refine And.intro (Or.inr (Or.inr (Or.inr ⟨rfl, rfl⟩))) ?_) | (refine And.intro (Or.inr (Or.inr (Or.inl ⟨rfl, rfl, trivial⟩))) ?_) | exact ⟨(by show (_ : Nat) < 1000000000; omega), rfl, rfl⟩ | rfl | (refine And.intro (Or.inl ?_) ?_) | (refine And.intro ?_ ?_))) ⟨(by first | omega | (show (_ : Int) ≤ _; omega) | (show (_ : Int) < _; omega) | (dsimp only; omega)), ha, hT'.2⟩ (by dsimp only; omega)⟩
      · simp only [go_sem, Nat.reduceBEq, ↓reduceIte, ↓reduceDIte, Nat.reduceAdd, Nat.reduceSub, Nat.reduceMul, Nat.reduceLeDiff, ← Bool.decide_and, ← Bool.decide_or, ← decide_not, Int.reduceLT, Int.reduceLE, Int.reduceToNat, Int.reduceNeg]
        refine ⟨Int.natCast_nonneg _, r, hr, by omega, b2, hb2, ?_⟩
        cases b2
        · simp only [go_sem, Nat.reduceBEq, ↓reduceIte, ↓reduceDIte, Nat.reduceAdd, Nat.reduceSub, Nat.reduceMul, Nat.reduceLeDiff, ← Bool.decide_and, ← Bool.decide_or, ← decide_not, Int.reduceLT, Int.reduceLE, Int.reduceToNat, Int.reduceNeg]
          exact ⟨i64_ok (by omega) (by omega), back _ (i + 1, at_) (by refine ⟨?_, ?_, rfl, rfl⟩ <;> repeat' (first | exact trivial | exact Or.inl rfl | exact Or.inr rfl | (refine And.intro (Or.inl rfl) ?_) | (refine And.intro (Or.inr (Or.inl rfl)) ?_) | (refine And.intro (Or.inr (Or.inr (Or.inr ⟨rfl, rfl⟩))) ?_) | (refine And.intro (Or.inr (Or.inr (Or.inl ⟨rfl, rfl, trivial⟩))) ?_) | exact ⟨(by show (_ : Nat) < 1000000000; omega), rfl, rfl⟩ | rfl | (refine And.intro (Or.inl ?_) ?_) | (refine And.intro ?_ ?_))) ⟨(by first | omega | (show (_ : Int) ≤ _; omega) | (show (_ : Int) < _; omega) | (dsimp only; omega)), ha, hT'.2⟩ (by dsimp only; omega)⟩
        · exact absurd ⟨hb1, hb2⟩ hT'.1
  · have hdr : S.2.2.drop i = [] := List.drop_of_length_le (by omega)
    rw [hdr] at hT
    have hat : (trimL S).length ≤ at_ := List.drop_eq_nil_iff.1 hT
    have hate : at_ = (trimL S).length := by omega
    subst hate
    clear back hT ha hat
    obtain ⟨A, B, C, hrun⟩ := walk_runs (rs := S.2.2) (c.take 10) 0 [] [] 0
    have hw : walkE S (0, 10) c = walkL S.2.2 (c.take 10) 0 := rfl
    have hkept : accB S.2.1 (walkE S (0, 10) c).2 = true → ∀ j, j ∈ (walkE S (0, 10) c).1 → j ∈ (trimE S).2 := by
      rw [hw]
      intro hacc
      have hlt := walk_lt' ko (c.take 10)
      exact (route_kept ko (walkL S.2.2 (c.take 10) 0).1 [] [] 0 0 (reached_zero ko) (by rw [hrun]) (by rw [hrun]; show on (liveE S) (walkL S.2.2 (c.take 10) 0).2.toNat; exact live_acc ko (by omega) (by rw [Int.toNat_of_nonneg hlt.1]; exact hacc))).2
    have hlast : 0 ≤ (walkE S (0, 10) c).2 ∧ (walkE S (0, 10) c).2 < S.1 := walk_lt' ko (c.take 10)
    have hwl := walkE_len S (0, 10) c
    refine ⟨_, k6, fun _ => ?_⟩
    generalize walkE S (0, 10) c = W at hkept hlast hwl
    obtain ⟨l, last⟩ := W
    dsimp only at hkept hlast hwl ⊢
    refine Walks.loopA (X := Nat) (fun (z : Nat) => [(18, .iv (.int .i64) (z : Int)), (19, .any), (20, .any)]) (fun (z : Nat) => []) (fun (z : Nat) => z ≤ l.length) (fun (z : Nat) => l.length - z) 0 ?_; intro b1 b2 hb1 hb2; simp (config := {maxSteps := 4000000}) only [go_sem, Nat.reduceBEq, ↓reduceIte, ↓reduceDIte, Nat.reduceAdd, Nat.reduceSub, Nat.reduceMul, Nat.reduceLeDiff, ← Bool.decide_and, ← Bool.decide_or, ← decide_not, Int.reduceLT, Int.reduceLE, Int.reduceToNat, Int.reduceNeg] at hb1 hb2; subst hb1; subst hb2; refine ⟨(by refine ⟨?_, ?_, rfl, rfl⟩ <;> repeat' (first | exact trivial | exact Or.inl rfl | exact Or.inr rfl | (refine And.intro (Or.inl rfl) ?_) | (refine And.intro (Or.inr (Or.inl rfl)) ?_) | (refine And.intro (Or.inr (Or.inr (Or.inr ⟨rfl, rfl⟩))) ?_) | (refine And.intro (Or.inr (Or.inr (Or.inl ⟨rfl, rfl, trivial⟩))) ?_) | exact ⟨(by show (_ : Nat) < 1000000000; omega), rfl, rfl⟩ | rfl | (refine And.intro (Or.inl ?_) ?_) | (refine And.intro ?_ ?_))), ?_, ?_⟩
    · exact Nat.zero_le _
    intro k hk back
    refine PW_sound env_ok ⟨_, fn_6, rfl⟩ 2000 _ _ (by kernel_rfl) ?_; simp only [go_sem, Nat.reduceBEq, ↓reduceIte, ↓reduceDIte, Nat.reduceAdd, Nat.reduceSub, Nat.reduceMul, Nat.reduceLeDiff, ← Bool.decide_and, ← Bool.decide_or, ← decide_not, Int.reduceLT, Int.reduceLE, Int.reduceToNat, Int.reduceNeg]
    have ka := c_Accepts S last ⟨hlast.1, by omega⟩
    have e3 : trimE (trimE S).1 = ((trimE S).1, (trimE (trimE S).1).2) := Prod.ext hag rfl
    rw [e3] at k3
    have hml : (((trimE (trimE S).1).2.length : Nat) : Int) = (((trimE S).2.length : Nat) : Int) := by rw [← hln2, hln]
    generalize (trimE (trimE S).1).2 = l2 at k3 hml
    refine ⟨fun g1 => ⟨_, ka, ?_⟩, fun g1 => ?_⟩
    · cases hacc : accB S.2.1 last
      · simp only [go_sem, Nat.reduceBEq, ↓reduceIte, ↓reduceDIte, Nat.reduceAdd, Nat.reduceSub, Nat.reduceMul, Nat.reduceLeDiff, ← Bool.decide_and, ← Bool.decide_or, ← decide_not, Int.reduceLT, Int.reduceLE, Int.reduceToNat, Int.reduceNeg]
        refine ⟨_, k3, fun _ => ⟨fun _ => ⟨_, c_Same2 (trimE S).1 (trimE S).1, PK_cast (b' := true) (by simp) ?_⟩, fun h => absurd (by rw [hl2, List.length_map]) h⟩⟩
        simp only [go_sem, Nat.reduceBEq, ↓reduceIte, ↓reduceDIte, Nat.reduceAdd, Nat.reduceSub, Nat.reduceMul, Nat.reduceLeDiff, ← Bool.decide_and, ← Bool.decide_or, ← decide_not, Int.reduceLT, Int.reduceLE, Int.reduceToNat, Int.reduceNeg]
        exact ⟨fun _ => trivial, fun h => absurd hml h⟩
      · simp only [go_sem, Nat.reduceBEq, ↓reduceIte, ↓reduceDIte, Nat.reduceAdd, Nat.reduceSub, Nat.reduceMul, Nat.reduceLeDiff, ← Bool.decide_and, ← Bool.decide_or, ← decide_not, Int.reduceLT, Int.reduceLE, Int.reduceToNat, Int.reduceNeg]
        obtain ⟨j, hj⟩ : ∃ j, l[k]? = some j := get_of_lt (by omega)
        have hjm := hkept hacc j (List.mem_of_getElem? hj)
        have hlm : (trimE S).2.length ≤ 64 := by have := ko.len; rw [hl2, List.length_map]; omega
        generalize (trimE S).2 = l' at *
        refine Walks.loopA (X := Nat × Bool) (fun (z : Nat × Bool) => [(20, .iv (.int .i64) (z.1 : Int)), (19, .iv .bool z.2)]) (fun (z : Nat × Bool) => []) (fun (z : Nat × Bool) => z.1 ≤ l'.length ∧ z.2 = decide (j ∈ l'.take z.1)) (fun (z : Nat × Bool) => l'.length - z.1) (0, false) ?_; intro b1 b2 hb1 hb2; simp (config := {maxSteps := 4000000}) only [go_sem, Nat.reduceBEq, ↓reduceIte, ↓reduceDIte, Nat.reduceAdd, Nat.reduceSub, Nat.reduceMul, Nat.reduceLeDiff, ← Bool.decide_and, ← Bool.decide_or, ← decide_not, Int.reduceLT, Int.reduceLE, Int.reduceToNat, Int.reduceNeg] at hb1 hb2; subst hb1; subst hb2; refine ⟨(by refine ⟨?_, ?_, rfl, rfl⟩ <;> repeat' (first | exact trivial | exact Or.inl rfl | exact Or.inr rfl | (refine And.intro (Or.inl rfl) ?_) | (refine And.intro (Or.inr (Or.inl rfl)) ?_) | (refine And.intro (Or.inr (Or.inr (Or.inr ⟨rfl, rfl⟩))) ?_) | (refine And.intro (Or.inr (Or.inr (Or.inl ⟨rfl, rfl, trivial⟩))) ?_) | exact ⟨(by show (_ : Nat) < 1000000000; omega), rfl, rfl⟩ | rfl | (refine And.intro (Or.inl ?_) ?_) | (refine And.intro ?_ ?_))), ?_, ?_⟩
        · exact ⟨Nat.zero_le _, by simp⟩
        intro ⟨q, th⟩ ⟨hq, hth⟩ back2
        dsimp only at hq hth
        refine PW_sound env_ok ⟨_, fn_6, rfl⟩ 2000 _ _ (by kernel_rfl) ?_; simp only [go_sem, Nat.reduceBEq, ↓reduceIte, ↓reduceDIte, Nat.reduceAdd, Nat.reduceSub, Nat.reduceMul, Nat.reduceLeDiff, ← Bool.decide_and, ← Bool.decide_or, ← decide_not, Int.reduceLT, Int.reduceLE, Int.reduceToNat, Int.reduceNeg]
        refine ⟨fun g2 => ?_, fun g2 => ?_⟩
        · obtain ⟨u, hu⟩ : ∃ u, l'[q]? = some u := get_of_lt (by omega)
          have hnext : decide (j ∈ l'.take (q + 1)) = (th || decide (u = j)) := by
            rw [take_snoc hu, hth]
            by_cases h1 : j ∈ l'.take q <;> by_cases h2 : u = j <;> simp [h1, h2] <;> first | exact h2.symm | exact fun e => h2 e.symm
          cases th
          · simp only [go_sem, Nat.reduceBEq, ↓reduceIte, ↓reduceDIte, Nat.reduceAdd, Nat.reduceSub, Nat.reduceMul, Nat.reduceLeDiff, ← Bool.decide_and, ← Bool.decide_or, ← decide_not, Int.reduceLT, Int.reduceLE, Int.reduceToNat, Int.reduceNeg]
            refine ⟨Int.natCast_nonneg _, u, hu, Int.natCast_nonneg _, j, hj, ?_⟩
            exact ⟨i64_ok (by omega) (by omega), back2 _ (q + 1, decide (u = j)) (by refine ⟨?_, ?_, rfl, rfl⟩ <;> repeat' (first | exact trivial | exact Or.inl rfl | exact Or.inr rfl | (refine And.intro (Or.inl rfl) ?_) | (refine And.intro (Or.inr (Or.inl rfl)) ?_) | (refine And.intro (Or.inr (Or.inr (Or.inr ⟨rfl, rfl⟩))) ?_) | (refine And.intro (Or.inr (Or.inr (Or.inl ⟨rfl, rfl, trivial⟩))) ?_) | exact ⟨(by show (_ : Nat) < 1000000000; omega), rfl, rfl⟩ | rfl | (refine And.intro (Or.inl ?_) ?_) | (refine And.intro ?_ ?_))) ⟨(by first | omega | (show (_ : Int) ≤ _; omega) | (show (_ : Int) < _; omega) | (dsimp only; omega)), by rw [hnext]; rfl⟩ (by dsimp only; omega)⟩
          · simp only [go_sem, Nat.reduceBEq, ↓reduceIte, ↓reduceDIte, Nat.reduceAdd, Nat.reduceSub, Nat.reduceMul, Nat.reduceLeDiff, ← Bool.decide_and, ← Bool.decide_or, ← decide_not, Int.reduceLT, Int.reduceLE, Int.reduceToNat, Int.reduceNeg]
            exact ⟨i64_ok (by omega) (by omega), back2 _ (q + 1, true) (by refine ⟨?_, ?_, rfl, rfl⟩ <;> repeat' (first | exact trivial | exact Or.inl rfl | exact Or.inr rfl | (refine And.intro (Or.inl rfl) ?_) | (refine And.intro (Or.inr (Or.inl rfl)) ?_) | (refine And.intro (Or.inr (Or.inr (Or.inr ⟨rfl, rfl⟩))) ?_) | (refine And.intro (Or.inr (Or.inr (Or.inl ⟨rfl, rfl, trivial⟩))) ?_) | exact ⟨(by show (_ : Nat) < 1000000000; omega), rfl, rfl⟩ | rfl | (refine And.intro (Or.inl ?_) ?_) | (refine And.intro ?_ ?_))) ⟨(by first | omega | (show (_ : Int) ≤ _; omega) | (show (_ : Int) < _; omega) | (dsimp only; omega)), by rw [hnext]; rfl⟩ (by dsimp only; omega)⟩
        · rw [List.take_of_length_le (by omega)] at hth
          rw [decide_eq_true hjm] at hth
          subst hth
          refine PB_cast (b' := false) rfl ?_
          simp only [go_sem, Nat.reduceBEq, ↓reduceIte, ↓reduceDIte, Nat.reduceAdd, Nat.reduceSub, Nat.reduceMul, Nat.reduceLeDiff, ← Bool.decide_and, ← Bool.decide_or, ← decide_not, Int.reduceLT, Int.reduceLE, Int.reduceToNat, Int.reduceNeg]
          exact ⟨i64_ok (by omega) (by omega), back _ (k + 1) (by refine ⟨?_, ?_, rfl, rfl⟩ <;> repeat' (first | exact trivial | exact Or.inl rfl | exact Or.inr rfl | (refine And.intro (Or.inl rfl) ?_) | (refine And.intro (Or.inr (Or.inl rfl)) ?_) | (refine And.intro (Or.inr (Or.inr (Or.inr ⟨rfl, rfl⟩))) ?_) | (refine And.intro (Or.inr (Or.inr (Or.inl ⟨rfl, rfl, trivial⟩))) ?_) | exact ⟨(by show (_ : Nat) < 1000000000; omega), rfl, rfl⟩ | rfl | (refine And.intro (Or.inl ?_) ?_) | (refine And.intro ?_ ?_))) (by omega) (by omega)⟩
    · refine ⟨_, k3, fun _ => ⟨fun _ => ⟨_, c_Same2 (trimE S).1 (trimE S).1, PK_cast (b' := true) (by simp) ?_⟩, fun h => absurd (by rw [hl2, List.length_map]) h⟩⟩
      simp only [go_sem, Nat.reduceBEq, ↓reduceIte, ↓reduceDIte, Nat.reduceAdd, Nat.reduceSub, Nat.reduceMul, Nat.reduceLeDiff, ← Bool.decide_and, ← Bool.decide_or, ← decide_not, Int.reduceLT, Int.reduceLE, Int.reduceToNat, Int.reduceNeg]
      exact ⟨fun _ => trivial, fun h => absurd hml h⟩
end Go.Proofs.Ytaphmhdgpdhpiaa
namespace Go.Proofs.Ytaphmhdgpdhpiaa
open Go.ChangeShapes Go.WideShapes Go.ChangeAt Go.RowKit
theorem own_none : ownKnob Try.prog.godebug = none := by kernel_rfl
theorem laid_out : laidOutB env.P = true := by kernel_rfl
theorem trims_all (xs : List (Sigma Ty.den)) (h : xs.map (·.1) = [RawT, .st (.pair (.int .u8) (.int .u8)), .sl (.int .u8)]) : PC env 6 xs .bool true := by
  match xs, h with
  | [⟨_, y0⟩, ⟨_, y1⟩, ⟨_, y2⟩], h =>
    injection h with h1 h
    injection h with h2 h
    injection h with h3 h
    dsimp only at h1 h2 h3
    subst h1 h2 h3
    exact c_Trims y0 y1 y2
set_option maxRecDepth 100000 in
theorem trims_lifted (os : Os) (started : os.Started) (H : Type) (enc : TypeId × Value → H) :
    ReturnsInHanded {} Try.checked os 6 .any (Rows.routeTrimsSpec.pre6 enc Try.prog Try.f6 Rows.routeTrimsRow.domain false) (Rows.routeTrimsSpec.post enc Try.prog Try.f6 false true false false) := by
  refine returnsInHanded_of_change (C := Try.checked) own_none started (by kernel_rfl) fn_6
    (ChangeSpec.witness6 (enc := enc) (C := Try.checked) false ⟨#[], #[.agg #[.int .u8 0, .int .u8 0, .slice none 0 0], .agg #[.int .u8 0, .int .u8 0], .slice none 0 0], []⟩ 8 (by kernel_rfl) (by kernel_rfl) (by kernel_rfl) (by kernel_rfl)) ?_
  intro W base args ds gs before hval hW _ _
  refine law_calls (E := env) (b0 := base) (Ts := [RawT, .st (.pair (.int .u8) (.int .u8)), .sl (.int .u8)]) (tb := 4) env_ok laid_out (of_decide_eq_true (by kernel_rfl)) rfl rfl rfl (by kernel_rfl) rfl ?_ trims_all (fun g hg => by cases hg) hval hW
  intro ds hds
  match ds, hds with
  | [d0, d1, d2], _ => rfl
theorem trims_holds : Rows.RouteTrimsSaid :=
  OpenClaim.holds_of_wide 6 Try.f6 rfl rfl rfl rfl rfl rfl rfl ⟨rfl, rfl, rfl, rfl, rfl⟩ rfl rfl rfl rfl rfl (by kernel_rfl) fn_6 (by kernel_rfl)
    (of_decide_eq_true (by kernel_rfl)) (by unfold Func.isWrapper; first | (rw [if_pos (by decide +kernel)]; kernel_rfl) | (rw [if_neg (by decide +kernel)]; exact ⟨rfl, rfl⟩))
    (fun os started H enc _ => trims_lifted os started H enc)
end Go.Proofs.Ytaphmhdgpdhpiaa
