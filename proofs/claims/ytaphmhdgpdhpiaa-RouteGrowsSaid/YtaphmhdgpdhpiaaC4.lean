/- Contracts: the program's Least. Nothing here is trusted; no condition. -/
import Derived.Test.YtaphmhdgpdhpiaaC3
set_option linter.unusedSimpArgs false
set_option linter.unusedVariables false
namespace Go.Proofs.Ytaphmhdgpdhpiaa
set_option maxHeartbeats 4000000
set_option maxRecDepth 100000
def unseen (n : Nat) (seen : List Nat) : Nat := ((List.range n).filter fun i => decide (i ∉ seen)).length
theorem unseen_lt {n i : Nat} {seen : List Nat} (hi : i < n) (hn : i ∉ seen) : unseen n (seen ++ [i]) < unseen n seen := by
  unfold unseen
  have e : (List.range n).filter (fun j => decide (j ∉ seen ++ [i])) = ((List.range n).filter fun j => decide (j ∉ seen)).filter (fun j => decide (j ≠ i)) := by
    rw [List.filter_filter]
    congr 1
    funext j
    simp [and_comm]
  rw [e]
  apply List.length_filter_lt_length_iff_exists.2
  exact ⟨i, by simp [hi, hn], by simp⟩
/-- What holds of the marks while rules are looked at, since the pass began with L. -/
structure LiveI (rs : List Rl) (L0 L : List Bool) (ch : Bool) (M : List Bool) (P : Int → Prop) : Prop where
  len : M.length = L0.length
  sound : soundC (edgesL rs) L0 M
  mono : ∀ m, on L0 m → on M m
  cf : cf M + (if ch = true then 1 else 0) ≤ cf L
  shut : ch = false → ∀ i, P i → ∀ r, rs[i.toNat]? = some r → on M r.2.1.toNat → on M r.1.toNat
theorem LiveI.weak {rs : List Rl} {L0 L : List Bool} {ch : Bool} {M : List Bool} {P P' : Int → Prop} (h : LiveI rs L0 L ch M P) (hp : ∀ i, P' i → P i) : LiveI rs L0 L ch M P' :=
  ⟨h.len, h.sound, h.mono, h.cf, fun e i hi => h.shut e i (hp i hi)⟩
theorem LiveI.same {rs : List Rl} {L0 L : List Bool} {ch : Bool} {M : List Bool} {P : Int → Prop} {i : Int} {r : Rl} (h : LiveI rs L0 L ch M P) (hr : rs[i.toNat]? = some r) (hs : ¬ on M r.2.1.toNat ∨ on M r.1.toNat) : LiveI rs L0 L ch M (fun j => P j ∨ j = i) :=
  ⟨h.len, h.sound, h.mono, h.cf, fun e j hj q hq hon => by
    rcases hj with hj | rfl
    · exact h.shut e j hj q hq hon
    · rw [hr] at hq
      injection hq with hq
      subst hq
      rcases hs with hs | hs
      · exact absurd hon hs
      · exact hs⟩
theorem LiveI.put {rs : List Rl} {L0 L : List Bool} {ch : Bool} {M : List Bool} {P P' : Int → Prop} {i : Int} {r : Rl} (h : LiveI rs L0 L ch M P) (hr : rs[i.toNat]? = some r) (h1 : on M r.2.1.toNat) (h2 : M[r.1.toNat]? = some false) : LiveI rs L0 L true (M.set r.1.toNat true) P' := by
  refine ⟨by simpa using h.len, fun m hm => ?_, fun m hm => on_set (h.mono m hm), ?_, fun e => by cases e⟩
  · rcases on_set_cases hm with rfl | hm
    · exact .step _ _ (h.sound _ h1) (List.mem_map.2 ⟨r, List.mem_of_getElem? hr, rfl⟩)
    · exact h.sound m hm
  · have := cf_set h2
    have := h.cf
    rw [if_pos rfl]
    split at this <;> omega
theorem c_Live (s : Sch) (hs : OkS s) : PC env 22 [⟨SchemeT, s⟩] (.sl .bool) (liveE s) := by
  have hs0 := hs
  obtain ⟨n, a, rs⟩ := s
  have h1 := hs.n1
  have h8 := hs.n8
  have hl := hs.len
  have hr := hs.right
  dsimp only at h1 h8 hl hr
  have hE : liveE (n, a, rs) = closC (edgesL rs) n.toNat (startL a n.toNat) := rfl
  rw [hE]
  clear hE
  have hsl := startL_len a n.toNat
  have hlt : ∀ e, e ∈ edgesL rs → e.2 < (startL a n.toNat).length := by
    intro e he
    unfold edgesL at he
    obtain ⟨r, hr', rfl⟩ := List.mem_map.1 he
    have := right_nums (hr r hr')
    rw [hsl]
    show r.1.toNat < _
    omega
  refine PC.of_PW (m := 2000) env_ok fn_22 rfl rfl rfl rfl (by kernel_rfl) ?_; intro hx; simp only [Try.f22]; simp only [go_sem, Nat.reduceBEq, ↓reduceIte, ↓reduceDIte, Nat.reduceAdd, Nat.reduceSub, Nat.reduceMul, Nat.reduceLeDiff, ← Bool.decide_and, ← Bool.decide_or, ← decide_not, Int.reduceLT, Int.reduceLE, Int.reduceToNat, Int.reduceNeg]
  refine ⟨_, _, h_marks (n, a, rs) ⟨by dsimp only; omega, h8⟩, rfl, ?_⟩
  simp only [go_sem, Nat.reduceBEq, ↓reduceIte, ↓reduceDIte, Nat.reduceAdd, Nat.reduceSub, Nat.reduceMul, Nat.reduceLeDiff, ← Bool.decide_and, ← Bool.decide_or, ← decide_not, Int.reduceLT, Int.reduceLE, Int.reduceToNat, Int.reduceNeg]
  intro _
  rw [List.length_replicate]
  generalize hT : closC (edgesL rs) n.toNat (startL a n.toNat) = T
  refine Walks.loopA (X := Nat × List Bool) (fun (z : Nat × List Bool) => [(15, .iv (.int .i64) (z.1 : Int)), (4, .any), (3, .lfull 1300007)]) (fun (z : Nat × List Bool) => [(1300007, .arr .bool z.2)]) (fun (z : Nat × List Bool) => z.1 ≤ n.toNat ∧ z.2.length = n.toNat ∧ z.2.take z.1 = (startL a n.toNat).take z.1) (fun (z : Nat × List Bool) => n.toNat - z.1) (0, List.replicate n.toNat false) ?_; intro b1 b2 hb1 hb2; simp (config := {maxSteps := 4000000}) only [go_sem, Nat.reduceBEq, ↓reduceIte, ↓reduceDIte, Nat.reduceAdd, Nat.reduceSub, Nat.reduceMul, Nat.reduceLeDiff, ← Bool.decide_and, ← Bool.decide_or, ← decide_not, Int.reduceLT, Int.reduceLE, Int.reduceToNat, Int.reduceNeg] at hb1 hb2; subst hb1; subst hb2; refine ⟨(by refine ⟨?_, ?_, rfl, rfl⟩ <;> repeat' (first | exact trivial | exact Or.inl rfl | exact Or.inr rfl | (refine And.intro (Or.inl rfl) ?_) | (refine And.intro (Or.inr (Or.inl rfl)) ?_) | (refine And.intro (Or.inr (Or.inr (Or.inr ⟨rfl, rfl⟩))) ?_) | (refine And.intro (Or.inr (Or.inr (Or.inl ⟨rfl, rfl, trivial⟩))) ?_) | exact ⟨(by show (_ : Nat) < 1000000000; omega), rfl, rfl⟩ | rfl | (refine And.intro (Or.inl ?_) ?_) | (refine And.intro ?_ ?_))), ?_, ?_⟩
  · exact ⟨Nat.zero_le _, by simp, rfl⟩
  intro ⟨k, L⟩ ⟨hk, hL, hb⟩ back
  dsimp only at hk hL hb
  refine PW_sound env_ok ⟨_, fn_22, rfl⟩ 2000 _ _ (by kernel_rfl) ?_; simp only [go_sem, Nat.reduceBEq, ↓reduceIte, ↓reduceDIte, Nat.reduceAdd, Nat.reduceSub, Nat.reduceMul, Nat.reduceLeDiff, ← Bool.decide_and, ← Bool.decide_or, ← decide_not, Int.reduceLT, Int.reduceLE, Int.reduceToNat, Int.reduceNeg]
  refine ⟨fun g1 => ?_, fun g1 => ?_⟩
  · refine ⟨_, c_accepting (n, a, rs) (k : Int) ⟨Int.natCast_nonneg _, by omega⟩, ⟨Int.natCast_nonneg _, by omega⟩, i64_ok (by omega) (by omega), ?_⟩
    exact back _ (k + 1, L.set k (accB a (k : Int))) (by refine ⟨?_, ?_, rfl, rfl⟩ <;> repeat' (first | exact trivial | exact Or.inl rfl | exact Or.inr rfl | (refine And.intro (Or.inl rfl) ?_) | (refine And.intro (Or.inr (Or.inl rfl)) ?_) | (refine And.intro (Or.inr (Or.inr (Or.inr ⟨rfl, rfl⟩))) ?_) | (refine And.intro (Or.inr (Or.inr (Or.inl ⟨rfl, rfl, trivial⟩))) ?_) | exact ⟨(by show (_ : Nat) < 1000000000; omega), rfl, rfl⟩ | rfl | (refine And.intro (Or.inl ?_) ?_) | (refine And.intro ?_ ?_))) ⟨(by first | omega | (show (_ : Int) ≤ _; omega) | (show (_ : Int) < _; omega) | (dsimp only; omega)), by simpa using hL, set_next hb (by omega) (startL_at (by omega))⟩ (by dsimp only; omega)
  · have e : L = startL a n.toNat := by
      rw [List.take_of_length_le (by omega), List.take_of_length_le (by omega)] at hb
      exact hb
    subst e
    clear back hb hL hk g1
    refine ⟨_, c_leaving (n, a, rs) hs0, fun hok => ?_⟩
    refine Walks.loopA (X := Bool × List Bool) (fun (z : Bool × List Bool) => [(6, .iv .bool z.1), (7, .any), (8, .any), (10, .any)]) (fun (z : Bool × List Bool) => [(1300007, .arr .bool z.2)]) (fun (z : Bool × List Bool) => z.2.length = n.toNat ∧ soundC (edgesL rs) (startL a n.toNat) z.2 ∧ (∀ m, on (startL a n.toNat) m → on z.2 m) ∧ (z.1 = false → closedC (edgesL rs) z.2)) (fun (z : Bool × List Bool) => 2 * cf z.2 + (if z.1 = true then 1 else 0)) (true, startL a n.toNat) ?_; intro b1 b2 hb1 hb2; simp (config := {maxSteps := 4000000}) only [go_sem, Nat.reduceBEq, ↓reduceIte, ↓reduceDIte, Nat.reduceAdd, Nat.reduceSub, Nat.reduceMul, Nat.reduceLeDiff, ← Bool.decide_and, ← Bool.decide_or, ← decide_not, Int.reduceLT, Int.reduceLE, Int.reduceToNat, Int.reduceNeg] at hb1 hb2; subst hb1; subst hb2; refine ⟨(by refine ⟨?_, ?_, rfl, rfl⟩ <;> repeat' (first | exact trivial | exact Or.inl rfl | exact Or.inr rfl | (refine And.intro (Or.inl rfl) ?_) | (refine And.intro (Or.inr (Or.inl rfl)) ?_) | (refine And.intro (Or.inr (Or.inr (Or.inr ⟨rfl, rfl⟩))) ?_) | (refine And.intro (Or.inr (Or.inr (Or.inl ⟨rfl, rfl, trivial⟩))) ?_) | exact ⟨(by show (_ : Nat) < 1000000000; omega), rfl, rfl⟩ | rfl | (refine And.intro (Or.inl ?_) ?_) | (refine And.intro ?_ ?_))), ?_, ?_⟩
    · exact ⟨hsl, fun m hm => .base m hm, fun _ h => h, fun h => by cases h⟩
    intro ⟨ch, L⟩ ⟨hL, hS, hM, hC⟩ back
    dsimp only at hL hS hM hC
    refine PW_sound env_ok ⟨_, fn_22, rfl⟩ 2000 _ _ (by kernel_rfl) ?_; simp only [go_sem, Nat.reduceBEq, ↓reduceIte, ↓reduceDIte, Nat.reduceAdd, Nat.reduceSub, Nat.reduceMul, Nat.reduceLeDiff, ← Bool.decide_and, ← Bool.decide_or, ← decide_not, Int.reduceLT, Int.reduceLE, Int.reduceToNat, Int.reduceNeg]
    cases ch
    · simp only [go_sem, Nat.reduceBEq, ↓reduceIte, ↓reduceDIte, Nat.reduceAdd, Nat.reduceSub, Nat.reduceMul, Nat.reduceLeDiff, ← Bool.decide_and, ← Bool.decide_or, ← decide_not, Int.reduceLT, Int.reduceLE, Int.reduceToNat, Int.reduceNeg]
      have hT2 := clos_uniq (E := edgesL rs) (L0 := startL a n.toNat) (k := n.toNat) hlt (by rw [hsl]; exact Nat.le_refl _) (by rw [hL, hsl]) hS (hC rfl) hM
      rw [← hT, ← hT2]
    · simp only [go_sem, Nat.reduceBEq, ↓reduceIte, ↓reduceDIte, Nat.reduceAdd, Nat.reduceSub, Nat.reduceMul, Nat.reduceLeDiff, ← Bool.decide_and, ← Bool.decide_or, ← decide_not, Int.reduceLT, Int.reduceLE, Int.reduceToNat, Int.reduceNeg]
      refine Walks.loopA (X := List Nat × Bool × List Bool) (fun (z : List Nat × Bool × List Bool) => [(6, .iv .bool z.2.1), (7, .any), (8, .any), (10, .any)]) (fun (z : List Nat × Bool × List Bool) => [(29, .it [.iv (.mp (.int .i64) (.sl (.int .i64))) (leavE rs)] (leavE rs).length z.1), (1300007, .arr .bool z.2.2)]) (fun (z : List Nat × Bool × List Bool) => LiveI rs (startL a n.toNat) L z.2.1 z.2.2 (fun i => ∃ p x, p ∈ z.1 ∧ (leavE rs)[p]? = some x ∧ i ∈ x.2)) (fun (z : List Nat × Bool × List Bool) => unseen (leavE rs).length z.1) ([], false, L) ?_; intro b1 b2 hb1 hb2; simp (config := {maxSteps := 4000000}) only [go_sem, Nat.reduceBEq, ↓reduceIte, ↓reduceDIte, Nat.reduceAdd, Nat.reduceSub, Nat.reduceMul, Nat.reduceLeDiff, ← Bool.decide_and, ← Bool.decide_or, ← decide_not, Int.reduceLT, Int.reduceLE, Int.reduceToNat, Int.reduceNeg] at hb1 hb2; subst hb1; subst hb2; refine ⟨(by refine ⟨?_, ?_, rfl, rfl⟩ <;> repeat' (first | exact trivial | exact Or.inl rfl | exact Or.inr rfl | (refine And.intro (Or.inl rfl) ?_) | (refine And.intro (Or.inr (Or.inl rfl)) ?_) | (refine And.intro (Or.inr (Or.inr (Or.inr ⟨rfl, rfl⟩))) ?_) | (refine And.intro (Or.inr (Or.inr (Or.inl ⟨rfl, rfl, trivial⟩))) ?_) | exact ⟨(by show (_ : Nat) < 1000000000; omega), rfl, rfl⟩ | rfl | (refine And.intro (Or.inl ?_) ?_) | (refine And.intro ?_ ?_))), ?_, ?_⟩
      · exact ⟨by rw [hL, hsl], hS, hM, Nat.le_refl _, fun _ i ⟨p, x, hp, _⟩ => by cases hp⟩
      intro ⟨seen, ch, M⟩ hI back2
      dsimp only at hI
      refine PW_sound env_ok ⟨_, fn_22, rfl⟩ 2000 _ _ (by kernel_rfl) ?_; simp only [go_sem, Nat.reduceBEq, ↓reduceIte, ↓reduceDIte, Nat.reduceAdd, Nat.reduceSub, Nat.reduceMul, Nat.reduceLeDiff, ← Bool.decide_and, ← Bool.decide_or, ← decide_not, Int.reduceLT, Int.reduceLE, Int.reduceToNat, Int.reduceNeg]
      refine ⟨fun p hp x hx' => ⟨x, ⟨p, by simp, hx'⟩, ?_⟩, fun hdone => ?_⟩
      · have hxm := List.mem_of_getElem? hx'
        have hxl := (leav_lens rs).2 x hxm
        refine Walks.loopA (X := Nat × Bool × List Bool) (fun (z : Nat × Bool × List Bool) => [(37, .iv (.int .i64) (z.1 : Int)), (6, .iv .bool z.2.1), (10, .any)]) (fun (z : Nat × Bool × List Bool) => [(1300007, .arr .bool z.2.2)]) (fun (z : Nat × Bool × List Bool) => z.1 ≤ x.2.length ∧ LiveI rs (startL a n.toNat) L z.2.1 z.2.2 (fun i => (∃ p x, p ∈ seen ∧ (leavE rs)[p]? = some x ∧ i ∈ x.2) ∨ i ∈ x.2.take z.1)) (fun (z : Nat × Bool × List Bool) => x.2.length - z.1) (0, ch, M) ?_; intro b1 b2 hb1 hb2; simp (config := {maxSteps := 4000000}) only [go_sem, Nat.reduceBEq, ↓reduceIte, ↓reduceDIte, Nat.reduceAdd, Nat.reduceSub, Nat.reduceMul, Nat.reduceLeDiff, ← Bool.decide_and, ← Bool.decide_or, ← decide_not, Int.reduceLT, Int.reduceLE, Int.reduceToNat, Int.reduceNeg] at hb1 hb2; subst hb1; subst hb2; refine ⟨(by refine ⟨?_, ?_, rfl, rfl⟩ <;> repeat' (first | exact trivial | exact Or.inl rfl | exact Or.inr rfl | (refine And.intro (Or.inl rfl) ?_) | (refine And.intro (Or.inr (Or.inl rfl)) ?_) | (refine And.intro (Or.inr (Or.inr (Or.inr ⟨rfl, rfl⟩))) ?_) | (refine And.intro (Or.inr (Or.inr (Or.inl ⟨rfl, rfl, trivial⟩))) ?_) | exact ⟨(by show (_ : Nat) < 1000000000; omega), rfl, rfl⟩ | rfl | (refine And.intro (Or.inl ?_) ?_) | (refine And.intro ?_ ?_))), ?_, ?_⟩
        · exact ⟨Nat.zero_le _, hI.weak fun i hi => by rcases hi with hi | hi; exact hi; simp at hi⟩
        clear hI
        intro ⟨k, ch, M⟩ ⟨hk, hI⟩ back3
        dsimp only at hk hI
        refine PW_sound env_ok ⟨_, fn_22, rfl⟩ 2000 _ _ (by kernel_rfl) ?_; simp only [go_sem, Nat.reduceBEq, ↓reduceIte, ↓reduceDIte, Nat.reduceAdd, Nat.reduceSub, Nat.reduceMul, Nat.reduceLeDiff, ← Bool.decide_and, ← Bool.decide_or, ← decide_not, Int.reduceLT, Int.reduceLE, Int.reduceToNat, Int.reduceNeg]
        refine ⟨fun g2 => ?_, fun g2 => ?_⟩
        · obtain ⟨j, hj⟩ : ∃ j, x.2[k]? = some j := get_of_lt (by omega)
          obtain ⟨i, r, rfl, hri, he⟩ := leav_rule hxm (List.mem_of_getElem? hj)
          have hri' : rs[((i : Int)).toNat]? = some r := by simpa using hri
          have hrn := right_nums (hr r (List.mem_of_getElem? hri))
          have hMl : M.length = n.toNat := by rw [hI.len, hsl]
          obtain ⟨b, hb⟩ : ∃ b, M[r.2.1.toNat]? = some b := get_of_lt (by omega)
          obtain ⟨b2, hb2⟩ : ∃ b, M[r.1.toNat]? = some b := get_of_lt (by omega)
          have next : ∀ {c : Bool} {M' : List Bool}, LiveI rs (startL a n.toNat) L c M' (fun j => ((∃ p x, p ∈ seen ∧ (leavE rs)[p]? = some x ∧ j ∈ x.2) ∨ j ∈ x.2.take k) ∨ j = (i : Int)) → LiveI rs (startL a n.toNat) L c M' (fun j => (∃ p x, p ∈ seen ∧ (leavE rs)[p]? = some x ∧ j ∈ x.2) ∨ j ∈ x.2.take (k + 1)) := fun h => h.weak fun j hj' => by
            rw [take_snoc hj] at hj'
            rcases hj' with hj' | hj'
            · exact .inl (.inl hj')
            · rcases List.mem_append.1 hj' with hj' | hj'
              · exact .inl (.inr hj')
              · exact .inr (by simpa using hj')
          refine ⟨Int.natCast_nonneg _, (i : Int), hj, Int.natCast_nonneg _, r, hri', ⟨by omega, by omega⟩, b, hb, ?_⟩
          cases b
          · simp only [go_sem, Nat.reduceBEq, ↓reduceIte, ↓reduceDIte, Nat.reduceAdd, Nat.reduceSub, Nat.reduceMul, Nat.reduceLeDiff, ← Bool.decide_and, ← Bool.decide_or, ← decide_not, Int.reduceLT, Int.reduceLE, Int.reduceToNat, Int.reduceNeg]
            exact ⟨i64_ok (by omega) (by omega), back3 _ (k + 1, ch, M) (by refine ⟨?_, ?_, rfl, rfl⟩ <;> repeat' (first | exact trivial | exact Or.inl rfl | exact Or.inr rfl | (refine And.intro (Or.inl rfl) ?_) | (refine And.intro (Or.inr (Or.inl rfl)) ?_) | (refine And.intro (Or.inr (Or.inr (Or.inr ⟨rfl, rfl⟩))) ?_) | (refine And.intro (Or.inr (Or.inr (Or.inl ⟨rfl, rfl, trivial⟩))) ?_) | exact ⟨(by show (_ : Nat) < 1000000000; omega), rfl, rfl⟩ | rfl | (refine And.intro (Or.inl ?_) ?_) | (refine And.intro ?_ ?_))) ⟨(by first | omega | (show (_ : Int) ≤ _; omega) | (show (_ : Int) < _; omega) | (dsimp only; omega)), next (hI.same hri' (.inl (by unfold on; rw [hb]; simp)))⟩ (by dsimp only; omega)⟩
          · simp only [go_sem, Nat.reduceBEq, ↓reduceIte, ↓reduceDIte, Nat.reduceAdd, Nat.reduceSub, Nat.reduceMul, Nat.reduceLeDiff, ← Bool.decide_and, ← Bool.decide_or, ← decide_not, Int.reduceLT, Int.reduceLE, Int.reduceToNat, Int.reduceNeg]
            refine ⟨⟨by omega, by omega⟩, b2, by rw [← he]; exact hb2, ?_⟩
            cases b2
            · simp only [go_sem, Nat.reduceBEq, ↓reduceIte, ↓reduceDIte, Nat.reduceAdd, Nat.reduceSub, Nat.reduceMul, Nat.reduceLeDiff, ← Bool.decide_and, ← Bool.decide_or, ← decide_not, Int.reduceLT, Int.reduceLE, Int.reduceToNat, Int.reduceNeg]
              refine ⟨⟨by omega, by omega⟩, i64_ok (by omega) (by omega), ?_⟩
              exact back3 _ (k + 1, true, M.set x.1.toNat true) (by refine ⟨?_, ?_, rfl, rfl⟩ <;> repeat' (first | exact trivial | exact Or.inl rfl | exact Or.inr rfl | (refine And.intro (Or.inl rfl) ?_) | (refine And.intro (Or.inr (Or.inl rfl)) ?_) | (refine And.intro (Or.inr (Or.inr (Or.inr ⟨rfl, rfl⟩))) ?_) | (refine And.intro (Or.inr (Or.inr (Or.inl ⟨rfl, rfl, trivial⟩))) ?_) | exact ⟨(by show (_ : Nat) < 1000000000; omega), rfl, rfl⟩ | rfl | (refine And.intro (Or.inl ?_) ?_) | (refine And.intro ?_ ?_))) ⟨(by first | omega | (show (_ : Int) ≤ _; omega) | (show (_ : Int) < _; omega) | (dsimp only; omega)), by dsimp only; rw [← he]; exact hI.put hri' hb hb2⟩ (by dsimp only; omega)
            · simp only [go_sem, Nat.reduceBEq, ↓reduceIte, ↓reduceDIte, Nat.reduceAdd, Nat.reduceSub, Nat.reduceMul, Nat.reduceLeDiff, ← Bool.decide_and, ← Bool.decide_or, ← decide_not, Int.reduceLT, Int.reduceLE, Int.reduceToNat, Int.reduceNeg]
              exact ⟨i64_ok (by omega) (by omega), back3 _ (k + 1, ch, M) (by refine ⟨?_, ?_, rfl, rfl⟩ <;> repeat' (first | exact trivial | exact Or.inl rfl | exact Or.inr rfl | (refine And.intro (Or.inl rfl) ?_) | (refine And.intro (Or.inr (Or.inl rfl)) ?_) | (refine And.intro (Or.inr (Or.inr (Or.inr ⟨rfl, rfl⟩))) ?_) | (refine And.intro (Or.inr (Or.inr (Or.inl ⟨rfl, rfl, trivial⟩))) ?_) | exact ⟨(by show (_ : Nat) < 1000000000; omega), rfl, rfl⟩ | rfl | (refine And.intro (Or.inl ?_) ?_) | (refine And.intro ?_ ?_))) ⟨(by first | omega | (show (_ : Int) ≤ _; omega) | (show (_ : Int) < _; omega) | (dsimp only; omega)), next (hI.same hri' (.inr hb2))⟩ (by dsimp only; omega)⟩
        · rw [List.take_of_length_le (by omega)] at hI
          refine back2 _ (seen ++ [p], ch, M) (by refine ⟨?_, ?_, rfl, rfl⟩ <;> repeat' (first | exact trivial | exact Or.inl rfl | exact Or.inr rfl | (refine And.intro (Or.inl rfl) ?_) | (refine And.intro (Or.inr (Or.inl rfl)) ?_) | (refine And.intro (Or.inr (Or.inr (Or.inr ⟨rfl, rfl⟩))) ?_) | (refine And.intro (Or.inr (Or.inr (Or.inl ⟨rfl, rfl, trivial⟩))) ?_) | exact ⟨(by show (_ : Nat) < 1000000000; omega), rfl, rfl⟩ | rfl | (refine And.intro (Or.inl ?_) ?_) | (refine And.intro ?_ ?_))) (hI.weak fun i hi => ?_) (unseen_lt hp.1 hp.2)
          obtain ⟨q, y, h1, h2, h3⟩ := hi
          rcases List.mem_append.1 h1 with h1 | h1
          · exact .inl ⟨q, y, h1, h2, h3⟩
          · simp only [List.mem_singleton] at h1
            subst h1
            rw [hx'] at h2
            injection h2 with h2
            subst h2
            exact .inr h3
      · have hMl : M.length = n.toNat := by rw [hI.len, hsl]
        refine back _ (ch, M) (by refine ⟨?_, ?_, rfl, rfl⟩ <;> repeat' (first | exact trivial | exact Or.inl rfl | exact Or.inr rfl | (refine And.intro (Or.inl rfl) ?_) | (refine And.intro (Or.inr (Or.inl rfl)) ?_) | (refine And.intro (Or.inr (Or.inr (Or.inr ⟨rfl, rfl⟩))) ?_) | (refine And.intro (Or.inr (Or.inr (Or.inl ⟨rfl, rfl, trivial⟩))) ?_) | exact ⟨(by show (_ : Nat) < 1000000000; omega), rfl, rfl⟩ | rfl | (refine And.intro (Or.inl ?_) ?_) | (refine And.intro ?_ ?_))) ⟨hMl, hI.sound, hI.mono, fun e x hx => ?_⟩ ?_
        · unfold edgesL at hx
          obtain ⟨r, hrm, rfl⟩ := List.mem_map.1 hx
          obtain ⟨i, hi⟩ := List.getElem?_of_mem hrm
          obtain ⟨p, y, h1, h2, h3⟩ := leav_all hi
          exact hI.shut e (i : Int) ⟨p, y, hdone p (List.getElem?_eq_some_iff.1 h1).1, h1, h3⟩ r (by simpa using hi)
        · have := hI.cf
          dsimp only
          simp only [if_true]
          cases ch <;> simp only [if_true, if_false, Bool.false_eq_true] at this ⊢ <;> omega
end Go.Proofs.Ytaphmhdgpdhpiaa
namespace Go.Proofs.Ytaphmhdgpdhpiaa
set_option maxHeartbeats 4000000
set_option maxRecDepth 100000
theorem n_prices (s : Sch) (L : List Bool) (hs : OkS s) (hL : L.length = s.1.toNat) : PN env 42 [⟨SchemeT, s⟩, ⟨.mp (.int .i64) (.sl (.int .i64)), leavE s.2.2⟩, ⟨.sl .bool, L⟩] (.mp (.int .i64) PriceT) (fun ps => PrI s ps ∧ ∀ r, r ∈ s.2.2 → shutP ps r) := by
  have hs0 := hs
  obtain ⟨n, a, rs⟩ := s
  have h1 := hs.n1
  have h8 := hs.n8
  have hl := hs.len
  have hr := hs.right
  dsimp only at h1 h8 hl hr hL
  refine PN.of_PW (m := 2000) env_ok fn_42 rfl rfl rfl rfl (by kernel_rfl) ?_; intro hx; simp only [Try.f42]; simp only [go_sem, Nat.reduceBEq, ↓reduceIte, ↓reduceDIte, Nat.reduceAdd, Nat.reduceSub, Nat.reduceMul, Nat.reduceLeDiff, ← Bool.decide_and, ← Bool.decide_or, ← decide_not, Int.reduceLT, Int.reduceLE, Int.reduceToNat, Int.reduceNeg]
  have eI : eqB (.int .i64) = eqI := rfl
  refine Walks.loopA (X := Nat × PM) (fun (z : Nat × PM) => [(22, .iv (.int .i64) (z.1 : Int)), (8, .any)]) (fun (z : Nat × PM) => [(19, .mp (.int .i64) PriceT z.2)]) (fun (z : Nat × PM) => z.1 ≤ n.toNat ∧ PrZ (n, a, rs) z.1 z.2) (fun (z : Nat × PM) => n.toNat - z.1) (0, []) ?_; intro b1 b2 hb1 hb2; simp (config := {maxSteps := 4000000}) only [go_sem, Nat.reduceBEq, ↓reduceIte, ↓reduceDIte, Nat.reduceAdd, Nat.reduceSub, Nat.reduceMul, Nat.reduceLeDiff, ← Bool.decide_and, ← Bool.decide_or, ← decide_not, Int.reduceLT, Int.reduceLE, Int.reduceToNat, Int.reduceNeg] at hb1 hb2; subst hb1; subst hb2; refine ⟨(by refine ⟨?_, ?_, rfl, rfl⟩ <;> repeat' (first | exact trivial | exact Or.inl rfl | exact Or.inr rfl | (refine And.intro (Or.inl rfl) ?_) | (refine And.intro (Or.inr (Or.inl rfl)) ?_) | (refine And.intro (Or.inr (Or.inr (Or.inr ⟨rfl, rfl⟩))) ?_) | (refine And.intro (Or.inr (Or.inr (Or.inl ⟨rfl, rfl, trivial⟩))) ?_) | exact ⟨(by show (_ : Nat) < 1000000000; omega), rfl, rfl⟩ | rfl | (refine And.intro (Or.inl ?_) ?_) | (refine And.intro ?_ ?_))), ?_, ?_⟩
  · exact ⟨Nat.zero_le _, fun m => by rw [if_neg (by dsimp only; omega)]; rfl, List.nodup_nil⟩
  intro ⟨k, ps⟩ ⟨hk, hz⟩ back
  dsimp only at hk hz
  refine PW_sound env_ok ⟨_, fn_42, rfl⟩ 2000 _ _ (by kernel_rfl) ?_; simp only [go_sem, Nat.reduceBEq, ↓reduceIte, ↓reduceDIte, Nat.reduceAdd, Nat.reduceSub, Nat.reduceMul, Nat.reduceLeDiff, ← Bool.decide_and, ← Bool.decide_or, ← decide_not, Int.reduceLT, Int.reduceLE, Int.reduceToNat, Int.reduceNeg]
  refine ⟨fun g1 => ?_, fun g1 => ?_⟩
  · refine ⟨_, c_accepting (n, a, rs) (k : Int) ⟨Int.natCast_nonneg _, by omega⟩, ?_⟩
    have hkk : k < n.toNat := by omega
    cases hacc : accB (n, a, rs).2.1 (k : Int)
    · simp only [go_sem, Nat.reduceBEq, ↓reduceIte, ↓reduceDIte, Nat.reduceAdd, Nat.reduceSub, Nat.reduceMul, Nat.reduceLeDiff, ← Bool.decide_and, ← Bool.decide_or, ← decide_not, Int.reduceLT, Int.reduceLE, Int.reduceToNat, Int.reduceNeg]
      exact ⟨i64_ok (by omega) (by omega), back _ (k + 1, ps) (by refine ⟨?_, ?_, rfl, rfl⟩ <;> repeat' (first | exact trivial | exact Or.inl rfl | exact Or.inr rfl | (refine And.intro (Or.inl rfl) ?_) | (refine And.intro (Or.inr (Or.inl rfl)) ?_) | (refine And.intro (Or.inr (Or.inr (Or.inr ⟨rfl, rfl⟩))) ?_) | (refine And.intro (Or.inr (Or.inr (Or.inl ⟨rfl, rfl, trivial⟩))) ?_) | exact ⟨(by show (_ : Nat) < 1000000000; omega), rfl, rfl⟩ | rfl | (refine And.intro (Or.inl ?_) ?_) | (refine And.intro ?_ ?_))) ⟨(by first | omega | (show (_ : Int) ≤ _; omega) | (show (_ : Int) < _; omega) | (dsimp only; omega)), hz.skip hacc⟩ (by dsimp only; omega)⟩
    · simp only [go_sem, Nat.reduceBEq, ↓reduceIte, ↓reduceDIte, Nat.reduceAdd, Nat.reduceSub, Nat.reduceMul, Nat.reduceLeDiff, ← Bool.decide_and, ← Bool.decide_or, ← decide_not, Int.reduceLT, Int.reduceLE, Int.reduceToNat, Int.reduceNeg]
      have hz2 := hz.next hacc
      have := hz2.few
      refine ⟨?_, i64_ok (by omega) (by omega), back _ (k + 1, mset eqI ps (k : Int) ((0, 0) : Pr)) (by refine ⟨?_, ?_, rfl, rfl⟩ <;> repeat' (first | exact trivial | exact Or.inl rfl | exact Or.inr rfl | (refine And.intro (Or.inl rfl) ?_) | (refine And.intro (Or.inr (Or.inl rfl)) ?_) | (refine And.intro (Or.inr (Or.inr (Or.inr ⟨rfl, rfl⟩))) ?_) | (refine And.intro (Or.inr (Or.inr (Or.inl ⟨rfl, rfl, trivial⟩))) ?_) | exact ⟨(by show (_ : Nat) < 1000000000; omega), rfl, rfl⟩ | rfl | (refine And.intro (Or.inl ?_) ?_) | (refine And.intro ?_ ?_))) ⟨(by first | omega | (show (_ : Int) ≤ _; omega) | (show (_ : Int) < _; omega) | (dsimp only; omega)), hz2⟩ (by dsimp only; omega)⟩
      rw [eI]
      show (mset eqI ps (k : Int) ((0, 0) : Pr)).length ≤ _
      omega
  · have e : k = n.toNat := by omega
    subst e
    have hI0 : PrI (n, a, rs) ps := hz.ok hs0
    have hO0 := hz.once
    clear back hz hk g1
    refine Walks.loopA (X := Bool × PM) (fun (z : Bool × PM) => [(9, .iv .bool z.1), (10, .any), (11, .any), (13, .any), (14, .any), (15, .any), (16, .any), (17, .any), (18, .any)]) (fun (z : Bool × PM) => [(19, .mp (.int .i64) PriceT z.2)]) (fun (z : Bool × PM) => PrI (n, a, rs) z.2 ∧ (z.2.map (·.1)).Nodup ∧ (z.1 = false → ∀ r, r ∈ rs → shutP z.2 r)) (fun (z : Bool × PM) => 2 * measP n.toNat z.2 + (if z.1 = true then 1 else 0)) (true, ps) ?_; intro b1 b2 hb1 hb2; simp (config := {maxSteps := 4000000}) only [go_sem, Nat.reduceBEq, ↓reduceIte, ↓reduceDIte, Nat.reduceAdd, Nat.reduceSub, Nat.reduceMul, Nat.reduceLeDiff, ← Bool.decide_and, ← Bool.decide_or, ← decide_not, Int.reduceLT, Int.reduceLE, Int.reduceToNat, Int.reduceNeg] at hb1 hb2; subst hb1; subst hb2; refine ⟨(by refine ⟨?_, ?_, rfl, rfl⟩ <;> repeat' (first | exact trivial | exact Or.inl rfl | exact Or.inr rfl | (refine And.intro (Or.inl rfl) ?_) | (refine And.intro (Or.inr (Or.inl rfl)) ?_) | (refine And.intro (Or.inr (Or.inr (Or.inr ⟨rfl, rfl⟩))) ?_) | (refine And.intro (Or.inr (Or.inr (Or.inl ⟨rfl, rfl, trivial⟩))) ?_) | exact ⟨(by show (_ : Nat) < 1000000000; omega), rfl, rfl⟩ | rfl | (refine And.intro (Or.inl ?_) ?_) | (refine And.intro ?_ ?_))), ?_, ?_⟩
    · exact ⟨hI0, hO0, fun h => by cases h⟩
    clear hI0 hO0
    intro ⟨ch, p0⟩ ⟨hI0, hO0, hC⟩ back
    dsimp only at hI0 hO0 hC
    refine PW_sound env_ok ⟨_, fn_42, rfl⟩ 2000 _ _ (by kernel_rfl) ?_; simp only [go_sem, Nat.reduceBEq, ↓reduceIte, ↓reduceDIte, Nat.reduceAdd, Nat.reduceSub, Nat.reduceMul, Nat.reduceLeDiff, ← Bool.decide_and, ← Bool.decide_or, ← decide_not, Int.reduceLT, Int.reduceLE, Int.reduceToNat, Int.reduceNeg]
    cases ch
    · simp only [go_sem, Nat.reduceBEq, ↓reduceIte, ↓reduceDIte, Nat.reduceAdd, Nat.reduceSub, Nat.reduceMul, Nat.reduceLeDiff, ← Bool.decide_and, ← Bool.decide_or, ← decide_not, Int.reduceLT, Int.reduceLE, Int.reduceToNat, Int.reduceNeg]
      exact ⟨p0, ⟨hI0, hC rfl⟩, rfl⟩
    · simp only [go_sem, Nat.reduceBEq, ↓reduceIte, ↓reduceDIte, Nat.reduceAdd, Nat.reduceSub, Nat.reduceMul, Nat.reduceLeDiff, ← Bool.decide_and, ← Bool.decide_or, ← decide_not, Int.reduceLT, Int.reduceLE, Int.reduceToNat, Int.reduceNeg]
      refine Walks.loopA (X := List Nat × Bool × PM) (fun (z : List Nat × Bool × PM) => [(9, .iv .bool z.2.1), (10, .any), (11, .any), (13, .any), (14, .any), (15, .any), (16, .any), (17, .any), (18, .any)]) (fun (z : List Nat × Bool × PM) => [(34, .it [.iv (.mp (.int .i64) (.sl (.int .i64))) (leavE rs)] (leavE rs).length z.1), (19, .mp (.int .i64) PriceT z.2.2)]) (fun (z : List Nat × Bool × PM) => PrL (n, a, rs) p0 z.2.1 z.2.2 (fun i => ∃ p x, p ∈ z.1 ∧ (leavE rs)[p]? = some x ∧ i ∈ x.2)) (fun (z : List Nat × Bool × PM) => unseen (leavE rs).length z.1) ([], false, p0) ?_; intro b1 b2 hb1 hb2; simp (config := {maxSteps := 4000000}) only [go_sem, Nat.reduceBEq, ↓reduceIte, ↓reduceDIte, Nat.reduceAdd, Nat.reduceSub, Nat.reduceMul, Nat.reduceLeDiff, ← Bool.decide_and, ← Bool.decide_or, ← decide_not, Int.reduceLT, Int.reduceLE, Int.reduceToNat, Int.reduceNeg] at hb1 hb2; subst hb1; subst hb2; refine ⟨(by refine ⟨?_, ?_, rfl, rfl⟩ <;> repeat' (first | exact trivial | exact Or.inl rfl | exact Or.inr rfl | (refine And.intro (Or.inl rfl) ?_) | (refine And.intro (Or.inr (Or.inl rfl)) ?_) | (refine And.intro (Or.inr (Or.inr (Or.inr ⟨rfl, rfl⟩))) ?_) | (refine And.intro (Or.inr (Or.inr (Or.inl ⟨rfl, rfl, trivial⟩))) ?_) | exact ⟨(by show (_ : Nat) < 1000000000; omega), rfl, rfl⟩ | rfl | (refine And.intro (Or.inl ?_) ?_) | (refine And.intro ?_ ?_))), ?_, ?_⟩
      · exact ⟨hI0, hO0, Nat.le_refl _, fun _ i ⟨p, x, hp, _⟩ => by cases hp⟩
      clear hI0 hO0 hC
      intro ⟨seen, ch, ps⟩ hI back2
      dsimp only at hI
      refine PW_sound env_ok ⟨_, fn_42, rfl⟩ 2000 _ _ (by kernel_rfl) ?_; simp only [go_sem, Nat.reduceBEq, ↓reduceIte, ↓reduceDIte, Nat.reduceAdd, Nat.reduceSub, Nat.reduceMul, Nat.reduceLeDiff, ← Bool.decide_and, ← Bool.decide_or, ← decide_not, Int.reduceLT, Int.reduceLE, Int.reduceToNat, Int.reduceNeg]
      refine ⟨fun p hp x hx' => ⟨x, ⟨p, by simp, hx'⟩, ?_⟩, fun hdone => ?_⟩
      · have hxm := List.mem_of_getElem? hx'
        have hxl := (leav_lens rs).2 x hxm
        refine Walks.loopA (X := Nat × Bool × PM) (fun (z : Nat × Bool × PM) => [(42, .iv (.int .i64) (z.1 : Int)), (9, .iv .bool z.2.1), (13, .any), (14, .any), (15, .any), (16, .any), (17, .any), (18, .any)]) (fun (z : Nat × Bool × PM) => [(19, .mp (.int .i64) PriceT z.2.2)]) (fun (z : Nat × Bool × PM) => z.1 ≤ x.2.length ∧ PrL (n, a, rs) p0 z.2.1 z.2.2 (fun i => (∃ p x, p ∈ seen ∧ (leavE rs)[p]? = some x ∧ i ∈ x.2) ∨ i ∈ x.2.take z.1)) (fun (z : Nat × Bool × PM) => x.2.length - z.1) (0, ch, ps) ?_; intro b1 b2 hb1 hb2; simp (config := {maxSteps := 4000000}) only [go_sem, Nat.reduceBEq, ↓reduceIte, ↓reduceDIte, Nat.reduceAdd, Nat.reduceSub, Nat.reduceMul, Nat.reduceLeDiff, ← Bool.decide_and, ← Bool.decide_or, ← decide_not, Int.reduceLT, Int.reduceLE, Int.reduceToNat, Int.reduceNeg] at hb1 hb2; subst hb1; subst hb2; refine ⟨(by refine ⟨?_, ?_, rfl, rfl⟩ <;> repeat' (first | exact trivial | exact Or.inl rfl | exact Or.inr rfl | (refine And.intro (Or.inl rfl) ?_) | (refine And.intro (Or.inr (Or.inl rfl)) ?_) | (refine And.intro (Or.inr (Or.inr (Or.inr ⟨rfl, rfl⟩))) ?_) | (refine And.intro (Or.inr (Or.inr (Or.inl ⟨rfl, rfl, trivial⟩))) ?_) | exact ⟨(by show (_ : Nat) < 1000000000; omega), rfl, rfl⟩ | rfl | (refine And.intro (Or.inl ?_) ?_) | (refine And.intro ?_ ?_))), ?_, ?_⟩
        · exact ⟨Nat.zero_le _, hI.weak fun i hi => by rcases hi with hi | hi; exact hi; simp at hi⟩
        clear hI
        intro ⟨k, ch, ps⟩ ⟨hk, hI⟩ back3
        dsimp only at hk hI
        refine PW_sound env_ok ⟨_, fn_42, rfl⟩ 2000 _ _ (by kernel_rfl) ?_; simp only [go_sem, Nat.reduceBEq, ↓reduceIte, ↓reduceDIte, Nat.reduceAdd, Nat.reduceSub, Nat.reduceMul, Nat.reduceLeDiff, ← Bool.decide_and, ← Bool.decide_or, ← decide_not, Int.reduceLT, Int.reduceLE, Int.reduceToNat, Int.reduceNeg]
        refine ⟨fun g2 => ?_, fun g2 => ?_⟩
        · obtain ⟨j, hj⟩ : ∃ j, x.2[k]? = some j := get_of_lt (by omega)
          obtain ⟨i, r, rfl, hri, he⟩ := leav_rule hxm (List.mem_of_getElem? hj)
          have hri' : rs[((i : Int)).toNat]? = some r := by simpa using hri
          have hrn := right_nums (hr r (List.mem_of_getElem? hri))
          have next : ∀ {c : Bool} {M' : PM}, PrL (n, a, rs) p0 c M' (fun j => ((∃ p x, p ∈ seen ∧ (leavE rs)[p]? = some x ∧ j ∈ x.2) ∨ j ∈ x.2.take k) ∨ j = (i : Int)) → PrL (n, a, rs) p0 c M' (fun j => (∃ p x, p ∈ seen ∧ (leavE rs)[p]? = some x ∧ j ∈ x.2) ∨ j ∈ x.2.take (k + 1)) := fun h => h.weak fun j hj' => by
            rw [take_snoc hj] at hj'
            rcases hj' with hj' | hj'
            · exact .inl (.inl hj')
            · rcases List.mem_append.1 hj' with hj' | hj'
              · exact .inl (.inr hj')
              · exact .inr (by simpa using hj')
          refine ⟨Int.natCast_nonneg _, (i : Int), hj, Int.natCast_nonneg _, r, hri', fun q hq => ?_, fun hq => ?_⟩
          · rw [eI] at hq
            have hqb := (hI.ok.sound _ _ hq).bound hs0
            have hup : (∀ p, mfind eqI ps r.1 = some p → lessP (withP q r.2.2.2.2) p = true) → (mset eqI ps x.1 (withP q r.2.2.2.2)).length ≤ 9223372036854775807 ∧ PrL (n, a, rs) p0 true (mset eqI ps x.1 (withP q r.2.2.2.2)) (fun j => (∃ p x, p ∈ seen ∧ (leavE rs)[p]? = some x ∧ j ∈ x.2) ∨ j ∈ x.2.take (k + 1)) := fun h => by
              rw [← he]
              have hp := hI.put (P' := (fun j => (∃ p x, p ∈ seen ∧ (leavE rs)[p]? = some x ∧ j ∈ x.2) ∨ j ∈ x.2.take (k + 1))) hs0 hri hq h
              have := hp.ok.few hs0 hp.once
              exact ⟨by omega, hp⟩
            have hm8 := hI.ok.few hs0 hI.once
            refine ⟨Int.natCast_nonneg _, r, hri', _, c_with q r.2.2.2.2 ⟨by omega, by omega⟩ (by omega), fun _ => ⟨fun old hold => ?_, fun hold => ?_⟩⟩
            · rw [eI] at hold
              refine ⟨_, c_less (withP q r.2.2.2.2) old, ?_⟩
              cases hlt : lessP (withP q r.2.2.2.2) old
              · simp only [go_sem, Nat.reduceBEq, ↓reduceIte, ↓reduceDIte, Nat.reduceAdd, Nat.reduceSub, Nat.reduceMul, Nat.reduceLeDiff, ← Bool.decide_and, ← Bool.decide_or, ← decide_not, Int.reduceLT, Int.reduceLE, Int.reduceToNat, Int.reduceNeg]
                exact ⟨i64_ok (by omega) (by omega), back3 _ (k + 1, ch, ps) (by refine ⟨?_, ?_, rfl, rfl⟩ <;> repeat' (first | exact trivial | exact Or.inl rfl | exact Or.inr rfl | (refine And.intro (Or.inl rfl) ?_) | (refine And.intro (Or.inr (Or.inl rfl)) ?_) | (refine And.intro (Or.inr (Or.inr (Or.inr ⟨rfl, rfl⟩))) ?_) | (refine And.intro (Or.inr (Or.inr (Or.inl ⟨rfl, rfl, trivial⟩))) ?_) | exact ⟨(by show (_ : Nat) < 1000000000; omega), rfl, rfl⟩ | rfl | (refine And.intro (Or.inl ?_) ?_) | (refine And.intro ?_ ?_))) ⟨(by first | omega | (show (_ : Int) ≤ _; omega) | (show (_ : Int) < _; omega) | (dsimp only; omega)), next (hI.same hri' (fun q' hq' => ⟨old, by rw [he]; exact hold, by rw [hq] at hq'; injection hq' with hq'; rw [← hq']; exact hlt⟩))⟩ (by dsimp only; omega)⟩
              · simp only [go_sem, Nat.reduceBEq, ↓reduceIte, ↓reduceDIte, Nat.reduceAdd, Nat.reduceSub, Nat.reduceMul, Nat.reduceLeDiff, ← Bool.decide_and, ← Bool.decide_or, ← decide_not, Int.reduceLT, Int.reduceLE, Int.reduceToNat, Int.reduceNeg]
                obtain ⟨u1, u2⟩ := hup (fun p hp => by rw [he, hold] at hp; injection hp with hp; rw [← hp]; exact hlt)
                exact ⟨u1, i64_ok (by omega) (by omega), back3 _ (k + 1, true, mset eqI ps x.1 (withP q r.2.2.2.2)) (by refine ⟨?_, ?_, rfl, rfl⟩ <;> repeat' (first | exact trivial | exact Or.inl rfl | exact Or.inr rfl | (refine And.intro (Or.inl rfl) ?_) | (refine And.intro (Or.inr (Or.inl rfl)) ?_) | (refine And.intro (Or.inr (Or.inr (Or.inr ⟨rfl, rfl⟩))) ?_) | (refine And.intro (Or.inr (Or.inr (Or.inl ⟨rfl, rfl, trivial⟩))) ?_) | exact ⟨(by show (_ : Nat) < 1000000000; omega), rfl, rfl⟩ | rfl | (refine And.intro (Or.inl ?_) ?_) | (refine And.intro ?_ ?_))) ⟨(by first | omega | (show (_ : Int) ≤ _; omega) | (show (_ : Int) < _; omega) | (dsimp only; omega)), u2⟩ (by dsimp only; omega)⟩
            · rw [eI] at hold
              obtain ⟨u1, u2⟩ := hup (fun p hp => by rw [he, hold] at hp; cases hp)
              exact ⟨u1, i64_ok (by omega) (by omega), back3 _ (k + 1, true, mset eqI ps x.1 (withP q r.2.2.2.2)) (by refine ⟨?_, ?_, rfl, rfl⟩ <;> repeat' (first | exact trivial | exact Or.inl rfl | exact Or.inr rfl | (refine And.intro (Or.inl rfl) ?_) | (refine And.intro (Or.inr (Or.inl rfl)) ?_) | (refine And.intro (Or.inr (Or.inr (Or.inr ⟨rfl, rfl⟩))) ?_) | (refine And.intro (Or.inr (Or.inr (Or.inl ⟨rfl, rfl, trivial⟩))) ?_) | exact ⟨(by show (_ : Nat) < 1000000000; omega), rfl, rfl⟩ | rfl | (refine And.intro (Or.inl ?_) ?_) | (refine And.intro ?_ ?_))) ⟨(by first | omega | (show (_ : Int) ≤ _; omega) | (show (_ : Int) < _; omega) | (dsimp only; omega)), u2⟩ (by dsimp only; omega)⟩
          · rw [eI] at hq
            exact ⟨i64_ok (by omega) (by omega), back3 _ (k + 1, ch, ps) (by refine ⟨?_, ?_, rfl, rfl⟩ <;> repeat' (first | exact trivial | exact Or.inl rfl | exact Or.inr rfl | (refine And.intro (Or.inl rfl) ?_) | (refine And.intro (Or.inr (Or.inl rfl)) ?_) | (refine And.intro (Or.inr (Or.inr (Or.inr ⟨rfl, rfl⟩))) ?_) | (refine And.intro (Or.inr (Or.inr (Or.inl ⟨rfl, rfl, trivial⟩))) ?_) | exact ⟨(by show (_ : Nat) < 1000000000; omega), rfl, rfl⟩ | rfl | (refine And.intro (Or.inl ?_) ?_) | (refine And.intro ?_ ?_))) ⟨(by first | omega | (show (_ : Int) ≤ _; omega) | (show (_ : Int) < _; omega) | (dsimp only; omega)), next (hI.same hri' (fun q' hq' => by rw [hq] at hq'; cases hq'))⟩ (by dsimp only; omega)⟩
        · rw [List.take_of_length_le (by omega)] at hI
          refine back2 _ (seen ++ [p], ch, ps) (by refine ⟨?_, ?_, rfl, rfl⟩ <;> repeat' (first | exact trivial | exact Or.inl rfl | exact Or.inr rfl | (refine And.intro (Or.inl rfl) ?_) | (refine And.intro (Or.inr (Or.inl rfl)) ?_) | (refine And.intro (Or.inr (Or.inr (Or.inr ⟨rfl, rfl⟩))) ?_) | (refine And.intro (Or.inr (Or.inr (Or.inl ⟨rfl, rfl, trivial⟩))) ?_) | exact ⟨(by show (_ : Nat) < 1000000000; omega), rfl, rfl⟩ | rfl | (refine And.intro (Or.inl ?_) ?_) | (refine And.intro ?_ ?_))) (hI.weak fun i hi => ?_) (unseen_lt hp.1 hp.2)
          obtain ⟨q, y, h1, h2, h3⟩ := hi
          rcases List.mem_append.1 h1 with h1 | h1
          · exact .inl ⟨q, y, h1, h2, h3⟩
          · simp only [List.mem_singleton] at h1
            subst h1
            rw [hx'] at h2
            injection h2 with h2
            subst h2
            exact .inr h3
      · refine back _ (ch, ps) (by refine ⟨?_, ?_, rfl, rfl⟩ <;> repeat' (first | exact trivial | exact Or.inl rfl | exact Or.inr rfl | (refine And.intro (Or.inl rfl) ?_) | (refine And.intro (Or.inr (Or.inl rfl)) ?_) | (refine And.intro (Or.inr (Or.inr (Or.inr ⟨rfl, rfl⟩))) ?_) | (refine And.intro (Or.inr (Or.inr (Or.inl ⟨rfl, rfl, trivial⟩))) ?_) | exact ⟨(by show (_ : Nat) < 1000000000; omega), rfl, rfl⟩ | rfl | (refine And.intro (Or.inl ?_) ?_) | (refine And.intro ?_ ?_))) ⟨hI.ok, hI.once, fun e r hrm => ?_⟩ ?_
        · obtain ⟨i, hi⟩ := List.getElem?_of_mem hrm
          obtain ⟨p, y, h1, h2, h3⟩ := leav_all hi
          exact hI.shut e (i : Int) ⟨p, y, hdone p (List.getElem?_eq_some_iff.1 h1).1, h1, h3⟩ r (by simpa using hi)
        · have := hI.fall
          dsimp only at this ⊢
          simp only [if_true]
          cases ch <;> simp only [if_true, if_false, Bool.false_eq_true] at this ⊢ <;> omega
end Go.Proofs.Ytaphmhdgpdhpiaa
--SET+ endP, endB, St.ren, permF
namespace Go.Proofs.Ytaphmhdgpdhpiaa
set_option maxHeartbeats 4000000
set_option maxRecDepth 100000
def endP : List Int → PV
  | [] => .nilsl | _ :: _ => .lfull 82
def endB : List Int → List (Nat × Blk)
  | [] => [] | x :: r => [(82, .arr (.int .i64) (x :: r))]
theorem nexts_sorted (m : Int) : ∀ (rs : List Rl) (i : Nat), (nexts m rs i).Pairwise (· < ·)
  | [], _ => List.Pairwise.nil
  | r :: rs, i => by
    have e : nexts m (r :: rs) i = if r.1 = m then (i : Int) :: nexts m rs (i + 1) else nexts m rs (i + 1) := rfl
    rw [e]
    split
    · refine List.Pairwise.cons (fun x hx => ?_) (nexts_sorted m rs (i + 1))
      obtain ⟨j, _, _, _, h⟩ := nexts_mem.1 hx
      omega
    · exact nexts_sorted m rs (i + 1)
/-- Which rule the first end begins with: the first whose price fits. -/
theorem first_rule {s : Sch} {ps : PM} (hI : PrI s ps) (hC : ∀ r, r ∈ s.2.2 → shutP ps r) {m i0 : Int} {l : List Int} (hL : Least s m (i0 :: l)) {i : Nat} {r : Rl} (hr : s.2.2[i]? = some r) (hm : r.1 = m) {q : Pr} (hq : mfind eqI ps r.2.1 = some q)
    (he : withP q r.2.2.2.2 = prc s (i0 :: l)) : i0 ≤ (i : Int) := by
  obtain ⟨l', h1, h2, _, _⟩ := hI.sound _ _ hq
  have hend : isEnd s m ((i : Int) :: l') := ⟨r, Int.natCast_nonneg _, by simpa using hr, hm, h1⟩
  have hc : costI s (i : Int) = r.2.2.2.2 := by unfold costI; rw [Int.toNat_natCast, hr]
  rw [h2] at he
  simp only [withP, prc, Prod.mk.injEq, costL, List.length_cons] at he
  rcases hL.le _ hend with e | hb
  · injection e with e _
    omega
  · rw [befE_iff] at hb
    simp only [costL, hc, List.length_cons] at hb
    rcases hb with hb | ⟨_, hb | ⟨_, hb⟩⟩
    · omega
    · omega
    · simp only [lexL] at hb
      by_cases h : i0 = (i : Int)
      · omega
      · simp at hb
        omega
theorem leastR_off {s : Sch} {m : Int} (h : ¬ (0 ≤ m ∧ m < s.1)) : leastR s m = ([], 0, 30) := by unfold leastR; rw [if_neg h]
theorem leastR_none {s : Sch} (hs : OkS s) {m : Int} (h : 0 ≤ m ∧ m < s.1) (hl : ¬ on (liveE s) m.toNat) : leastR s m = ([], 0, 50) := by
  unfold leastR
  rw [if_pos h, if_neg]
  intro he
  refine hl ((live_iff hs _).2 ⟨(endAt s m).1, ?_⟩)
  rw [show ((m.toNat : Nat) : Int) = m by omega]
  exact (endAt_is hs h he).1.is
theorem leastR_some {s : Sch} (hs : OkS s) {m : Int} (h : 0 ≤ m ∧ m < s.1) (hl : on (liveE s) m.toNat) : ∃ l, Least s m l ∧ l.length < 8 ∧ leastR s m = (l, costL s l, 0) := by
  obtain ⟨l, hl⟩ := (live_iff hs _).1 hl
  rw [show ((m.toNat : Nat) : Int) = m by omega] at hl
  have he : (endAt s m).2.2 = true := by
    cases he : (endAt s m).2.2 with
    | true => rfl
    | false => exact absurd hl ((endAt_no hs h he).2.2 l)
  obtain ⟨g1, g2, g3⟩ := endAt_is hs h he
  refine ⟨(endAt s m).1, g1, ?_, ?_⟩
  · have := hs.n8; have := hs.n1; omega
  · unfold leastR
    rw [if_pos h, if_pos he, g2]
theorem c_Least (s : Sch) (m : Int) (hs : OkS s) : PC env 24 [⟨SchemeT, s⟩, ⟨.int .i64, m⟩] (.tup (.sl (.int .i64)) (.tup (.int .i64) (.int .i64))) (leastR s m) := by
  have hs0 := hs
  obtain ⟨n, a, rs⟩ := s
  have h1 := hs.n1
  have h8 := hs.n8
  have hl := hs.len
  have hr := hs.right
  dsimp only at h1 h8 hl hr
  refine PC.of_PW (m := 2000) env_ok fn_24 rfl rfl rfl rfl (by kernel_rfl) ?_; intro hx; simp only [Try.f24]; simp only [go_sem, Nat.reduceBEq, ↓reduceIte, ↓reduceDIte, Nat.reduceAdd, Nat.reduceSub, Nat.reduceMul, Nat.reduceLeDiff, ← Bool.decide_and, ← Bool.decide_or, ← decide_not, Int.reduceLT, Int.reduceLE, Int.reduceToNat, Int.reduceNeg, endP, endB, St.ren, permF]
  have eI : eqB (.int .i64) = eqI := rfl
  refine ⟨_, c_isMode (n, a, rs) m, ?_⟩
  cases hm : modeB n m
  · simp only [go_sem, Nat.reduceBEq, ↓reduceIte, ↓reduceDIte, Nat.reduceAdd, Nat.reduceSub, Nat.reduceMul, Nat.reduceLeDiff, ← Bool.decide_and, ← Bool.decide_or, ← decide_not, Int.reduceLT, Int.reduceLE, Int.reduceToNat, Int.reduceNeg, endP, endB, St.ren, permF]
    rw [leastR_off (by intro h; simp [modeB] at hm; dsimp only at h; omega)]
  · have hmm : 0 ≤ m ∧ m < n := by simp [modeB] at hm; omega
    simp only [go_sem, Nat.reduceBEq, ↓reduceIte, ↓reduceDIte, Nat.reduceAdd, Nat.reduceSub, Nat.reduceMul, Nat.reduceLeDiff, ← Bool.decide_and, ← Bool.decide_or, ← decide_not, Int.reduceLT, Int.reduceLE, Int.reduceToNat, Int.reduceNeg, endP, endB, St.ren, permF]
    refine ⟨_, c_Live (n, a, rs) hs0, fun _ => ?_⟩
    have hlen : (liveE (n, a, rs)).length = n.toNat := by unfold liveE; rw [closC_len, startL_len]
    obtain ⟨b, hb⟩ : ∃ b, (liveE (n, a, rs))[m.toNat]? = some b := get_of_lt (by omega)
    refine ⟨by omega, b, hb, ?_⟩
    cases b
    · simp only [go_sem, Nat.reduceBEq, ↓reduceIte, ↓reduceDIte, Nat.reduceAdd, Nat.reduceSub, Nat.reduceMul, Nat.reduceLeDiff, ← Bool.decide_and, ← Bool.decide_or, ← decide_not, Int.reduceLT, Int.reduceLE, Int.reduceToNat, Int.reduceNeg, endP, endB, St.ren, permF]
      rw [leastR_none hs0 hmm (by unfold on; rw [hb]; simp)]
    · obtain ⟨l, hL, hl8, hR⟩ := leastR_some hs0 hmm hb
      rw [hR]
      simp only [go_sem, Nat.reduceBEq, ↓reduceIte, ↓reduceDIte, Nat.reduceAdd, Nat.reduceSub, Nat.reduceMul, Nat.reduceLeDiff, ← Bool.decide_and, ← Bool.decide_or, ← decide_not, Int.reduceLT, Int.reduceLE, Int.reduceToNat, Int.reduceNeg, endP, endB, St.ren, permF]
      refine ⟨_, c_leaving (n, a, rs) hs0, fun _ => ?_⟩
      refine ⟨_, n_prices (n, a, rs) _ hs0 hlen, fun ps hps hok => ?_⟩
      obtain ⟨hI, hC⟩ := hps
      dsimp only at hC
      have hp := price_is hI hC hL
      rw [eI, hp]
      simp only [Option.getD_some, prc]
      refine Walks.ren [(12, 1000), (1000, 12)] rfl ?_
      simp only [go_sem, Nat.reduceBEq, ↓reduceIte, ↓reduceDIte, Nat.reduceAdd, Nat.reduceSub, Nat.reduceMul, Nat.reduceLeDiff, ← Bool.decide_and, ← Bool.decide_or, ← decide_not, Int.reduceLT, Int.reduceLE, Int.reduceToNat, Int.reduceNeg, endP, endB, St.ren, permF]
      refine Walks.loopA (X := List Int × Int × List Int) (fun (z : List Int × Int × List Int) => [(1, .iv (.int .i64) z.2.1), (10, endP z.1), (14, .any), (15, .any), (16, .any), (12, .ref 1000 0)]) (fun (z : List Int × Int × List Int) => ((1000, .box [.iv (.int .i64) (costL (n, a, rs) z.2.2), .iv (.int .i64) (z.2.2.length : Int)]) :: endB z.1)) (fun (z : List Int × Int × List Int) => z.1 ++ z.2.2 = l ∧ Least (n, a, rs) z.2.1 z.2.2) (fun (z : List Int × Int × List Int) => z.2.2.length) ([], m, l) ?_; intro b1 b2 hb1 hb2; simp (config := {maxSteps := 4000000}) only [go_sem, Nat.reduceBEq, ↓reduceIte, ↓reduceDIte, Nat.reduceAdd, Nat.reduceSub, Nat.reduceMul, Nat.reduceLeDiff, ← Bool.decide_and, ← Bool.decide_or, ← decide_not, Int.reduceLT, Int.reduceLE, Int.reduceToNat, Int.reduceNeg, endP, endB, St.ren, permF] at hb1 hb2; subst hb1; subst hb2; refine ⟨(by refine ⟨?_, ?_, rfl, rfl⟩ <;> repeat' (first | exact trivial | exact Or.inl rfl | exact Or.inr rfl | (refine And.intro (Or.inl rfl) ?_) | (refine And.intro (Or.inr (Or.inl rfl)) ?_) | (refine And.intro (Or.inr (Or.inr (Or.inr ⟨rfl, rfl⟩))) ?_) | (refine And.intro (Or.inr (Or.inr (Or.inl ⟨rfl, rfl, trivial⟩))) ?_) | exact ⟨(by show (_ : Nat) < 1000000000; omega), rfl, rfl⟩ | rfl | (refine And.intro (Or.inl ?_) ?_) | (refine And.intro ?_ ?_))), ?_, ?_⟩
      · exact ⟨rfl, hL⟩
      intro ⟨acc, μ, l'⟩ ⟨hac, hL'⟩ back
      dsimp only at hac hL'
      cases l' with
      | nil =>
        rw [List.append_nil] at hac
        subst hac
        cases acc
        · refine PW_sound env_ok ⟨_, fn_24, rfl⟩ 2000 _ _ (by kernel_rfl) ?_; simp only [go_sem, Nat.reduceBEq, ↓reduceIte, ↓reduceDIte, Nat.reduceAdd, Nat.reduceSub, Nat.reduceMul, Nat.reduceLeDiff, ← Bool.decide_and, ← Bool.decide_or, ← decide_not, Int.reduceLT, Int.reduceLE, Int.reduceToNat, Int.reduceNeg, endP, endB, St.ren, permF]
        · refine PW_sound env_ok ⟨_, fn_24, rfl⟩ 2000 _ _ (by kernel_rfl) ?_; simp only [go_sem, Nat.reduceBEq, ↓reduceIte, ↓reduceDIte, Nat.reduceAdd, Nat.reduceSub, Nat.reduceMul, Nat.reduceLeDiff, ← Bool.decide_and, ← Bool.decide_or, ← decide_not, Int.reduceLT, Int.reduceLE, Int.reduceToNat, Int.reduceNeg, endP, endB, St.ren, permF]
      | cons i0 l'' =>
        have hLs := hL'
        obtain ⟨r0, h00, hr0, hm0, hend0⟩ := hL'.is
        have hmem : i0 ∈ nexts μ rs 0 := nexts_mem.2 ⟨i0.toNat, r0, hr0, hm0, by omega⟩
        have htail := hL'.tail hr0
        have hsort := nexts_sorted μ rs 0
        have hq0 := price_is hI hC htail
        have hnl := nexts_len μ rs 0
        have hc0 : costI (n, a, rs) i0 = r0.2.2.2.2 := by unfold costI; dsimp only at hr0 ⊢; rw [hr0]
        have hrn0 := right_nums (hr r0 (List.mem_of_getElem? hr0))
        rcases acc with _ | ⟨e0, acc⟩
        · refine PW_sound env_ok ⟨_, fn_24, rfl⟩ 2000 _ _ (by kernel_rfl) ?_; simp only [go_sem, Nat.reduceBEq, ↓reduceIte, ↓reduceDIte, Nat.reduceAdd, Nat.reduceSub, Nat.reduceMul, Nat.reduceLeDiff, ← Bool.decide_and, ← Bool.decide_or, ← decide_not, Int.reduceLT, Int.reduceLE, Int.reduceToNat, Int.reduceNeg, endP, endB, St.ren, permF]
          refine ⟨fun _ => ?_, fun g => absurd g (by omega)⟩
          rw [show (mfind (eqB (.int .i64)) (leavE rs) μ).getD [] = nexts μ rs 0 from leav_get rs μ]
          refine Walks.loopA (X := Nat) (fun (z : Nat) => [(51, .iv (.int .i64) (z : Int)), (1, .iv (.int .i64) μ), (10, .nilsl), (14, .any), (15, .any), (16, .any), (82, .any)]) (fun (z : Nat) => []) (fun (z : Nat) => z ≤ (nexts μ rs 0).length ∧ i0 ∈ (nexts μ rs 0).drop z) (fun (z : Nat) => (nexts μ rs 0).length - z) 0 ?_; intro b1 b2 hb1 hb2; simp (config := {maxSteps := 4000000}) only [go_sem, Nat.reduceBEq, ↓reduceIte, ↓reduceDIte, Nat.reduceAdd, Nat.reduceSub, Nat.reduceMul, Nat.reduceLeDiff, ← Bool.decide_and, ← Bool.decide_or, ← decide_not, Int.reduceLT, Int.reduceLE, Int.reduceToNat, Int.reduceNeg, endP, endB, St.ren, permF] at hb1 hb2; subst hb1; subst hb2; refine ⟨(by refine ⟨?_, ?_, rfl, rfl⟩ <;> repeat' (first | exact trivial | exact Or.inl rfl | exact Or.inr rfl | (refine And.intro (Or.inl rfl) ?_) | (refine And.intro (Or.inr (Or.inl rfl)) ?_) | (refine And.intro (Or.inr (Or.inr (Or.inr ⟨rfl, rfl⟩))) ?_) | (refine And.intro (Or.inr (Or.inr (Or.inl ⟨rfl, rfl, trivial⟩))) ?_) | exact ⟨(by show (_ : Nat) < 1000000000; omega), rfl, rfl⟩ | rfl | (refine And.intro (Or.inl ?_) ?_) | (refine And.intro ?_ ?_))), ?_, ?_⟩
          · exact ⟨Nat.zero_le _, hmem⟩
          intro k ⟨hk, hin⟩ back2
          refine PW_sound env_ok ⟨_, fn_24, rfl⟩ 2000 _ _ (by kernel_rfl) ?_; simp only [go_sem, Nat.reduceBEq, ↓reduceIte, ↓reduceDIte, Nat.reduceAdd, Nat.reduceSub, Nat.reduceMul, Nat.reduceLeDiff, ← Bool.decide_and, ← Bool.decide_or, ← decide_not, Int.reduceLT, Int.reduceLE, Int.reduceToNat, Int.reduceNeg, endP, endB, St.ren, permF]
          refine ⟨fun g2 => ?_, fun g2 => ?_⟩
          · obtain ⟨j, hj⟩ : ∃ j, (nexts μ rs 0)[k]? = some j := get_of_lt (by omega)
            obtain ⟨i, r, hri, hrm, hji⟩ := nexts_mem.1 (List.mem_of_getElem? hj)
            rw [Nat.zero_add] at hji
            subst hji
            have hri' : rs[((i : Int)).toNat]? = some r := by simpa using hri
            have hrn := right_nums (hr r (List.mem_of_getElem? hri))
            have hnext : i0 ≠ (i : Int) → i0 ∈ (nexts μ rs 0).drop (k + 1) := fun hne => by
              rw [drop_cons hj] at hin
              rcases List.mem_cons.1 hin with e | e
              · exact absurd e hne
              · exact e
            have hle : (i : Int) ≤ i0 := by
              rw [drop_cons hj] at hin
              rcases List.mem_cons.1 hin with e | e
              · omega
              · have := hsort.drop (i := k)
                rw [drop_cons hj] at this
                exact Int.le_of_lt ((List.pairwise_cons.1 this).1 _ e)
            have hsame : ∀ q, mfind eqI ps r.2.1 = some q → i0 = (i : Int) → withP q r.2.2.2.2 = prc (n, a, rs) (i0 :: l'') := fun q hq e => by
              have er : r0 = r := by
                dsimp only at hr0
                rw [e, hri'] at hr0
                injection hr0 with hr0
                exact hr0.symm
              subst er
              rw [hq0] at hq
              injection hq with hq
              rw [← hq]
              simp only [withP, prc, costL, hc0, List.length_cons]
              rw [Int.add_comm]
              simp
            refine ⟨Int.natCast_nonneg _, (i : Int), hj, Int.natCast_nonneg _, r, hri', fun q hq => ?_, fun hq => ?_⟩
            · rw [eI] at hq
              have hqb := (hI.sound _ _ hq).bound hs0
              refine ⟨Int.natCast_nonneg _, r, hri', _, c_with q r.2.2.2.2 ⟨by omega, by omega⟩ (by omega), fun _ => ⟨fun he => ?_, fun he => ?_⟩⟩
              · have hei : i0 = (i : Int) := by
                  have := first_rule hI hC hLs hri hrm hq (by rw [← Prod.eta (withP q r.2.2.2.2), he.1, he.2]; rfl)
                  omega
                have hqe : q = prc (n, a, rs) l'' := by
                  have er : r0 = r := by
                    dsimp only at hr0
                    rw [hei, hri'] at hr0
                    injection hr0 with hr0
                    exact hr0.symm
                  subst er
                  rw [hq0] at hq
                  injection hq with hq
                  exact hq.symm
                have htl : Least (n, a, rs) r.2.1 l'' := hLs.tail (by rw [hei]; exact hri')
                have hlen2 : l.length = 0 + (l''.length + 1) := by rw [← hac]; simp
                refine ⟨Int.natCast_nonneg _, r, hri', ?_⟩
                rw [eI, hq, hqe]
                simp only [Option.getD_some, prc]
                refine Walks.ren [(12, 1000), (1000, 12)] rfl ?_
                simp only [go_sem, Nat.reduceBEq, ↓reduceIte, ↓reduceDIte, Nat.reduceAdd, Nat.reduceSub, Nat.reduceMul, Nat.reduceLeDiff, ← Bool.decide_and, ← Bool.decide_or, ← decide_not, Int.reduceLT, Int.reduceLE, Int.reduceToNat, Int.reduceNeg, endP, endB, St.ren, permF]
                exact back _ ([] ++ [(i : Int)], r.2.1, l'') (by refine ⟨?_, ?_, rfl, rfl⟩ <;> repeat' (first | exact trivial | exact Or.inl rfl | exact Or.inr rfl | (refine And.intro (Or.inl rfl) ?_) | (refine And.intro (Or.inr (Or.inl rfl)) ?_) | (refine And.intro (Or.inr (Or.inr (Or.inr ⟨rfl, rfl⟩))) ?_) | (refine And.intro (Or.inr (Or.inr (Or.inl ⟨rfl, rfl, trivial⟩))) ?_) | exact ⟨(by show (_ : Nat) < 1000000000; omega), rfl, rfl⟩ | rfl | (refine And.intro (Or.inl ?_) ?_) | (refine And.intro ?_ ?_))) ⟨by rw [← hac, hei]; simp, htl⟩ (by simp)
              · refine ⟨i64_ok (by omega) (by omega), back2 _ (k + 1) (by refine ⟨?_, ?_, rfl, rfl⟩ <;> repeat' (first | exact trivial | exact Or.inl rfl | exact Or.inr rfl | (refine And.intro (Or.inl rfl) ?_) | (refine And.intro (Or.inr (Or.inl rfl)) ?_) | (refine And.intro (Or.inr (Or.inr (Or.inr ⟨rfl, rfl⟩))) ?_) | (refine And.intro (Or.inr (Or.inr (Or.inl ⟨rfl, rfl, trivial⟩))) ?_) | exact ⟨(by show (_ : Nat) < 1000000000; omega), rfl, rfl⟩ | rfl | (refine And.intro (Or.inl ?_) ?_) | (refine And.intro ?_ ?_))) ⟨by omega, hnext fun e => ?_⟩ (by omega)⟩
                have hw := hsame q hq e
                exact he (by rw [hw]; exact ⟨rfl, rfl⟩)
            · rw [eI] at hq
              refine ⟨i64_ok (by omega) (by omega), back2 _ (k + 1) (by refine ⟨?_, ?_, rfl, rfl⟩ <;> repeat' (first | exact trivial | exact Or.inl rfl | exact Or.inr rfl | (refine And.intro (Or.inl rfl) ?_) | (refine And.intro (Or.inr (Or.inl rfl)) ?_) | (refine And.intro (Or.inr (Or.inr (Or.inr ⟨rfl, rfl⟩))) ?_) | (refine And.intro (Or.inr (Or.inr (Or.inl ⟨rfl, rfl, trivial⟩))) ?_) | exact ⟨(by show (_ : Nat) < 1000000000; omega), rfl, rfl⟩ | rfl | (refine And.intro (Or.inl ?_) ?_) | (refine And.intro ?_ ?_))) ⟨by omega, hnext fun e => ?_⟩ (by omega)⟩
              have er : r0 = r := by
                dsimp only at hr0
                rw [e, hri'] at hr0
                injection hr0 with hr0
                exact hr0.symm
              subst er
              rw [hq0] at hq
              cases hq
          · rw [List.drop_of_length_le (by omega)] at hin
            cases hin
        · refine PW_sound env_ok ⟨_, fn_24, rfl⟩ 2000 _ _ (by kernel_rfl) ?_; simp only [go_sem, Nat.reduceBEq, ↓reduceIte, ↓reduceDIte, Nat.reduceAdd, Nat.reduceSub, Nat.reduceMul, Nat.reduceLeDiff, ← Bool.decide_and, ← Bool.decide_or, ← decide_not, Int.reduceLT, Int.reduceLE, Int.reduceToNat, Int.reduceNeg, endP, endB, St.ren, permF]
          refine ⟨fun _ => ?_, fun g => absurd g (by omega)⟩
          rw [show (mfind (eqB (.int .i64)) (leavE rs) μ).getD [] = nexts μ rs 0 from leav_get rs μ]
          refine Walks.loopA (X := Nat) (fun (z : Nat) => [(51, .iv (.int .i64) (z : Int)), (1, .iv (.int .i64) μ), (10, .lfull 82), (14, .any), (15, .any), (16, .any), (82, .any)]) (fun (z : Nat) => []) (fun (z : Nat) => z ≤ (nexts μ rs 0).length ∧ i0 ∈ (nexts μ rs 0).drop z) (fun (z : Nat) => (nexts μ rs 0).length - z) 0 ?_; intro b1 b2 hb1 hb2; simp (config := {maxSteps := 4000000}) only [go_sem, Nat.reduceBEq, ↓reduceIte, ↓reduceDIte, Nat.reduceAdd, Nat.reduceSub, Nat.reduceMul, Nat.reduceLeDiff, ← Bool.decide_and, ← Bool.decide_or, ← decide_not, Int.reduceLT, Int.reduceLE, Int.reduceToNat, Int.reduceNeg, endP, endB, St.ren, permF] at hb1 hb2; subst hb1; subst hb2; refine ⟨(by refine ⟨?_, ?_, rfl, rfl⟩ <;> repeat' (first | exact trivial | exact Or.inl rfl | exact Or.inr rfl | (refine And.intro (Or.inl rfl) ?_) | (refine And.intro (Or.inr (Or.inl rfl)) ?_) | (refine And.intro (Or.inr (Or.inr (Or.inr ⟨rfl, rfl⟩))) ?_) | (refine And.intro (Or.inr (Or.inr (Or.inl ⟨rfl, rfl, trivial⟩))) ?_) | exact ⟨(by show (_ : Nat) < 1000000000; omega), rfl, rfl⟩ | rfl | (refine And.intro (Or.inl ?_) ?_) | (refine And.intro ?_ ?_))), ?_, ?_⟩
          · exact ⟨Nat.zero_le _, hmem⟩
          intro k ⟨hk, hin⟩ back2
          refine PW_sound env_ok ⟨_, fn_24, rfl⟩ 2000 _ _ (by kernel_rfl) ?_; simp only [go_sem, Nat.reduceBEq, ↓reduceIte, ↓reduceDIte, Nat.reduceAdd, Nat.reduceSub, Nat.reduceMul, Nat.reduceLeDiff, ← Bool.decide_and, ← Bool.decide_or, ← decide_not, Int.reduceLT, Int.reduceLE, Int.reduceToNat, Int.reduceNeg, endP, endB, St.ren, permF]
          refine ⟨fun g2 => ?_, fun g2 => ?_⟩
          · obtain ⟨j, hj⟩ : ∃ j, (nexts μ rs 0)[k]? = some j := get_of_lt (by omega)
            obtain ⟨i, r, hri, hrm, hji⟩ := nexts_mem.1 (List.mem_of_getElem? hj)
            rw [Nat.zero_add] at hji
            subst hji
            have hri' : rs[((i : Int)).toNat]? = some r := by simpa using hri
            have hrn := right_nums (hr r (List.mem_of_getElem? hri))
            have hnext : i0 ≠ (i : Int) → i0 ∈ (nexts μ rs 0).drop (k + 1) := fun hne => by
              rw [drop_cons hj] at hin
              rcases List.mem_cons.1 hin with e | e
              · exact absurd e hne
              · exact e
            have hle : (i : Int) ≤ i0 := by
              rw [drop_cons hj] at hin
              rcases List.mem_cons.1 hin with e | e
              · omega
              · have := hsort.drop (i := k)
                rw [drop_cons hj] at this
                exact Int.le_of_lt ((List.pairwise_cons.1 this).1 _ e)
            have hsame : ∀ q, mfind eqI ps r.2.1 = some q → i0 = (i : Int) → withP q r.2.2.2.2 = prc (n, a, rs) (i0 :: l'') := fun q hq e => by
              have er : r0 = r := by
                dsimp only at hr0
                rw [e, hri'] at hr0
                injection hr0 with hr0
                exact hr0.symm
              subst er
              rw [hq0] at hq
              injection hq with hq
              rw [← hq]
              simp only [withP, prc, costL, hc0, List.length_cons]
              rw [Int.add_comm]
              simp
            refine ⟨Int.natCast_nonneg _, (i : Int), hj, Int.natCast_nonneg _, r, hri', fun q hq => ?_, fun hq => ?_⟩
            · rw [eI] at hq
              have hqb := (hI.sound _ _ hq).bound hs0
              refine ⟨Int.natCast_nonneg _, r, hri', _, c_with q r.2.2.2.2 ⟨by omega, by omega⟩ (by omega), fun _ => ⟨fun he => ?_, fun he => ?_⟩⟩
              · have hei : i0 = (i : Int) := by
                  have := first_rule hI hC hLs hri hrm hq (by rw [← Prod.eta (withP q r.2.2.2.2), he.1, he.2]; rfl)
                  omega
                have hqe : q = prc (n, a, rs) l'' := by
                  have er : r0 = r := by
                    dsimp only at hr0
                    rw [hei, hri'] at hr0
                    injection hr0 with hr0
                    exact hr0.symm
                  subst er
                  rw [hq0] at hq
                  injection hq with hq
                  exact hq.symm
                have htl : Least (n, a, rs) r.2.1 l'' := hLs.tail (by rw [hei]; exact hri')
                have hlen2 : l.length = (acc.length + 1) + (l''.length + 1) := by rw [← hac]; simp; omega
                refine ⟨by omega, ⟨Int.natCast_nonneg _, r, hri', ?_⟩⟩
                rw [eI, hq, hqe]
                simp only [Option.getD_some, prc]
                refine Walks.ren [(12, 1000), (1000, 12)] rfl ?_
                simp only [go_sem, Nat.reduceBEq, ↓reduceIte, ↓reduceDIte, Nat.reduceAdd, Nat.reduceSub, Nat.reduceMul, Nat.reduceLeDiff, ← Bool.decide_and, ← Bool.decide_or, ← decide_not, Int.reduceLT, Int.reduceLE, Int.reduceToNat, Int.reduceNeg, endP, endB, St.ren, permF]
                exact back _ ((e0 :: acc) ++ [(i : Int)], r.2.1, l'') (by refine ⟨?_, ?_, rfl, rfl⟩ <;> repeat' (first | exact trivial | exact Or.inl rfl | exact Or.inr rfl | (refine And.intro (Or.inl rfl) ?_) | (refine And.intro (Or.inr (Or.inl rfl)) ?_) | (refine And.intro (Or.inr (Or.inr (Or.inr ⟨rfl, rfl⟩))) ?_) | (refine And.intro (Or.inr (Or.inr (Or.inl ⟨rfl, rfl, trivial⟩))) ?_) | exact ⟨(by show (_ : Nat) < 1000000000; omega), rfl, rfl⟩ | rfl | (refine And.intro (Or.inl ?_) ?_) | (refine And.intro ?_ ?_))) ⟨by rw [← hac, hei]; simp, htl⟩ (by simp)
              · refine ⟨i64_ok (by omega) (by omega), back2 _ (k + 1) (by refine ⟨?_, ?_, rfl, rfl⟩ <;> repeat' (first | exact trivial | exact Or.inl rfl | exact Or.inr rfl | (refine And.intro (Or.inl rfl) ?_) | (refine And.intro (Or.inr (Or.inl rfl)) ?_) | (refine And.intro (Or.inr (Or.inr (Or.inr ⟨rfl, rfl⟩))) ?_) | (refine And.intro (Or.inr (Or.inr (Or.inl ⟨rfl, rfl, trivial⟩))) ?_) | exact ⟨(by show (_ : Nat) < 1000000000; omega), rfl, rfl⟩ | rfl | (refine And.intro (Or.inl ?_) ?_) | (refine And.intro ?_ ?_))) ⟨by omega, hnext fun e => ?_⟩ (by omega)⟩
                have hw := hsame q hq e
                exact he (by rw [hw]; exact ⟨rfl, rfl⟩)
            · rw [eI] at hq
              refine ⟨i64_ok (by omega) (by omega), back2 _ (k + 1) (by refine ⟨?_, ?_, rfl, rfl⟩ <;> repeat' (first | exact trivial | exact Or.inl rfl | exact Or.inr rfl | (refine And.intro (Or.inl rfl) ?_) | (refine And.intro (Or.inr (Or.inl rfl)) ?_) | (refine And.intro (Or.inr (Or.inr (Or.inr ⟨rfl, rfl⟩))) ?_) | (refine And.intro (Or.inr (Or.inr (Or.inl ⟨rfl, rfl, trivial⟩))) ?_) | exact ⟨(by show (_ : Nat) < 1000000000; omega), rfl, rfl⟩ | rfl | (refine And.intro (Or.inl ?_) ?_) | (refine And.intro ?_ ?_))) ⟨by omega, hnext fun e => ?_⟩ (by omega)⟩
              have er : r0 = r := by
                dsimp only at hr0
                rw [e, hri'] at hr0
                injection hr0 with hr0
                exact hr0.symm
              subst er
              rw [hq0] at hq
              cases hq
          · rw [List.drop_of_length_le (by omega)] at hin
            cases hin
end Go.Proofs.Ytaphmhdgpdhpiaa
