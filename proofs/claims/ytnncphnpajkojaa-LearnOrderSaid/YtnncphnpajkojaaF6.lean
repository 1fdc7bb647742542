/- The law LearnOrder holds for every input. No condition. -/
import Derived.Test.YtnncphnpajkojaaB5
import Derived.Test.YtnncphnpajkojaaRows
set_option linter.unusedSimpArgs false
set_option linter.unusedVariables false
namespace Go.Proofs.Ytnncphnpajkojaa
set_option maxHeartbeats 4000000
set_option maxRecDepth 100000
theorem c_Order9 (l : List Raw6) (k : Int) : PC env 9 [⟨.sl RawT, l⟩, ⟨.int .u8, k⟩] .bool true := by
  refine PC.of_PW (m := 2000) env_ok fn_9 rfl rfl rfl rfl (by kernel_rfl) ?_; intro hx; simp only [Try.f9]; simp only [go_sem, Nat.reduceBEq, ↓reduceIte, ↓reduceDIte, Nat.reduceAdd, Nat.reduceSub, Nat.reduceMul, Nat.reduceLeDiff, ← Bool.decide_and, ← Bool.decide_or, ← decide_not, Int.reduceLT, Int.reduceLE, Int.reduceToNat, Int.reduceNeg]
  refine ⟨_, c_sanity, ?_⟩
  have hk := u8_of hx.2.1
  dsimp only at hk
  have hLo : ∀ x, x ∈ List.take (min (l.length : Int) 14).toNat l → RawT.ok x := fun x h => hx.1.2 x (List.mem_of_mem_take h)
  have hL14 : (List.take (min (l.length : Int) 14).toNat l).length ≤ 14 := by rw [List.length_take]; omega
  refine ⟨⟨by omega, by omega⟩, ?_⟩
  generalize List.take (min (l.length : Int) 14).toNat l = L at hLo hL14
  refine And.intro (by omega) ?_
  apply Walks.shareX (X := List Raw6) (fun T => ⟨[(10, .iv (.int .i64) (0 : Int)), (6, .iv (.sl RawT) T), (8, .ref 8 0), (9, .ref 9 0), (5, .iv .bool true), (0, .iv (.sl RawT) L)], [(8, .box [.nilsl, .nilsl, .iv (.int .i64) (0 : Int), .iv (.int .i64) (0 : Int), .iv (.int .i64) (0 : Int), .iv (.int .i64) (0 : Int), .iv (.int .i64) (0 : Int), .iv (.int .i64) (0 : Int), .iv (.int .i64) (0 : Int), .iv (.int .i64) (0 : Int)]), (9, .box [.nilsl, .nilsl, .iv (.int .i64) (0 : Int), .iv (.int .i64) (0 : Int), .iv (.int .i64) (0 : Int), .iv (.int .i64) (0 : Int), .iv (.int .i64) (0 : Int), .iv (.int .i64) (0 : Int), .iv (.int .i64) (0 : Int), .iv (.int .i64) (0 : Int)])]⟩) (fun T => madeU T = madeU L ∧ T.length = L.length ∧ ∀ z, z ∈ T → RawT.ok z)
  · intro key
    refine ⟨fun h1 => ?_, fun h1 => ?_⟩
    · obtain ⟨m, hm, hml⟩ : ∃ m : Nat, k.tmod ((L.length : Int) - 1) = (m : Int) ∧ m + 1 < L.length := by
        rw [Int.tmod_eq_emod_of_nonneg hk.1]
        have a0 := Int.emod_nonneg k (show (L.length : Int) - 1 ≠ 0 by omega)
        have a1 := Int.emod_lt_of_pos k (show (0 : Int) < (L.length : Int) - 1 by omega)
        exact ⟨(k % ((L.length : Int) - 1)).toNat, by omega, by omega⟩
      rw [hm]
      have e1 : ((m : Int) + 1).toNat = m + 1 := by omega
      rw [Int.toNat_natCast, e1]
      obtain ⟨x, hxi⟩ : ∃ x, L[m]? = some x := get_of_lt (by omega)
      obtain ⟨y, hyi⟩ : ∃ y, L[m + 1]? = some y := get_of_lt (by omega)
      refine ⟨i64_ok (by omega) (by omega), show (0 : Int) < (L.length : Int) - 1 by omega, Int.natCast_nonneg _, x, hxi, i64_ok (by omega) (by omega), by omega, y, hyi, fun hne => ?_, fun he => ?_⟩
      · have hd : devS x ≠ devS y := fun e => hne (by rw [Int.tmod_eq_emod_of_nonneg (raw_pos (hLo x (List.mem_of_getElem? hxi))).2.1, Int.tmod_eq_emod_of_nonneg (raw_pos (hLo y (List.mem_of_getElem? hyi))).2.1]; exact e)
        refine ⟨i64_ok (by omega) (by omega), i64_ok (by omega) (by omega), by omega, y, hyi, Int.natCast_nonneg _, x, hxi, ⟨by omega, by omega⟩, ⟨by omega, by rw [List.length_set]; exact_mod_cast hml⟩, ?_⟩
        refine Walks.sealw [25] ?_
        simp only [go_sem, Nat.reduceBEq, ↓reduceIte, ↓reduceDIte, Nat.reduceAdd, Nat.reduceSub, Nat.reduceMul, Nat.reduceLeDiff, ← Bool.decide_and, ← Bool.decide_or, ← decide_not, Int.reduceLT, Int.reduceLE, Int.reduceToNat, Int.reduceNeg]
        exact key _ ((L.set m y).set (m + 1) x) (turn_made hLo hL14 hxi hyi hd) (by refine ⟨?_, ?_, rfl, rfl⟩ <;> repeat' (first | exact trivial | (refine And.intro (Or.inl rfl) ?_) | (refine And.intro (Or.inr (Or.inl rfl)) ?_) | (refine And.intro (Or.inr (Or.inr (Or.inr ⟨rfl, rfl⟩))) ?_) | rfl | (refine And.intro (Or.inl ?_) ?_) | (refine And.intro ?_ ?_)))
      · refine Walks.sealw [25] ?_
        simp only [go_sem, Nat.reduceBEq, ↓reduceIte, ↓reduceDIte, Nat.reduceAdd, Nat.reduceSub, Nat.reduceMul, Nat.reduceLeDiff, ← Bool.decide_and, ← Bool.decide_or, ← decide_not, Int.reduceLT, Int.reduceLE, Int.reduceToNat, Int.reduceNeg]
        exact key _ L ⟨rfl, rfl, hLo⟩ (by refine ⟨?_, ?_, rfl, rfl⟩ <;> repeat' (first | exact trivial | (refine And.intro (Or.inl rfl) ?_) | (refine And.intro (Or.inr (Or.inl rfl)) ?_) | (refine And.intro (Or.inr (Or.inr (Or.inr ⟨rfl, rfl⟩))) ?_) | rfl | (refine And.intro (Or.inl ?_) ?_) | (refine And.intro ?_ ?_)))
    · refine Walks.sealw [25] ?_
      simp only [go_sem, Nat.reduceBEq, ↓reduceIte, ↓reduceDIte, Nat.reduceAdd, Nat.reduceSub, Nat.reduceMul, Nat.reduceLeDiff, ← Bool.decide_and, ← Bool.decide_or, ← decide_not, Int.reduceLT, Int.reduceLE, Int.reduceToNat, Int.reduceNeg]
      exact key _ L ⟨rfl, rfl, hLo⟩ (by refine ⟨?_, ?_, rfl, rfl⟩ <;> repeat' (first | exact trivial | (refine And.intro (Or.inl rfl) ?_) | (refine And.intro (Or.inr (Or.inl rfl)) ?_) | (refine And.intro (Or.inr (Or.inr (Or.inr ⟨rfl, rfl⟩))) ?_) | rfl | (refine And.intro (Or.inl ?_) ?_) | (refine And.intro ?_ ?_)))
  intro T ⟨hTm, hTl, hTo⟩
  refine Walks.loopA (X := Nat × Usr × Usr) (fun (z : Nat × Usr × Usr) => [(10, .iv (.int .i64) (z.1 : Int))]) (fun (z : Nat × Usr × Usr) => [(8, .box [.iv (.sl RecordT) z.2.1.1, .iv (.sl OrderT) z.2.1.2.1, .iv (.int .i64) z.2.1.2.2.1, .iv (.int .i64) z.2.1.2.2.2.1, .iv (.int .i64) z.2.1.2.2.2.2.1, .iv (.int .i64) z.2.1.2.2.2.2.2.1, .iv (.int .i64) z.2.1.2.2.2.2.2.2.1, .iv (.int .i64) z.2.1.2.2.2.2.2.2.2.1, .iv (.int .i64) z.2.1.2.2.2.2.2.2.2.2.1, .iv (.int .i64) z.2.1.2.2.2.2.2.2.2.2.2]), (9, .box [.iv (.sl RecordT) z.2.2.1, .iv (.sl OrderT) z.2.2.2.1, .iv (.int .i64) z.2.2.2.2.1, .iv (.int .i64) z.2.2.2.2.2.1, .iv (.int .i64) z.2.2.2.2.2.2.1, .iv (.int .i64) z.2.2.2.2.2.2.2.1, .iv (.int .i64) z.2.2.2.2.2.2.2.2.1, .iv (.int .i64) z.2.2.2.2.2.2.2.2.2.1, .iv (.int .i64) z.2.2.2.2.2.2.2.2.2.2.1, .iv (.int .i64) z.2.2.2.2.2.2.2.2.2.2.2])]) (fun (z : Nat × Usr × Usr) => z.1 ≤ L.length ∧ z.2.1 = madeU (L.take z.1) ∧ z.2.2 = madeU (T.take z.1)) (fun (z : Nat × Usr × Usr) => L.length - z.1) (0, exU0, exU0) ?_; intro b1 b2 hb1 hb2; simp (config := {maxSteps := 4000000}) only [go_sem, Nat.reduceBEq, ↓reduceIte, ↓reduceDIte, Nat.reduceAdd, Nat.reduceSub, Nat.reduceMul, Nat.reduceLeDiff, ← Bool.decide_and, ← Bool.decide_or, ← decide_not, Int.reduceLT, Int.reduceLE, Int.reduceToNat, Int.reduceNeg] at hb1 hb2; subst hb1; subst hb2; refine ⟨(by refine ⟨?_, ?_, rfl, rfl⟩ <;> repeat' (first | exact trivial | (refine And.intro (Or.inl rfl) ?_) | (refine And.intro (Or.inr (Or.inl rfl)) ?_) | (refine And.intro (Or.inr (Or.inr (Or.inr ⟨rfl, rfl⟩))) ?_) | rfl | (refine And.intro (Or.inl ?_) ?_) | (refine And.intro ?_ ?_))), ?_, ?_⟩
  · exact ⟨Nat.zero_le _, rfl, rfl⟩
  intro ⟨q, u, v⟩ ⟨hq, hu, hv⟩ back
  dsimp only at hq hu hv
  refine PW_sound env_ok ⟨_, fn_9, rfl⟩ 2000 _ _ (by kernel_rfl) ?_; simp only [go_sem, Nat.reduceBEq, ↓reduceIte, ↓reduceDIte, Nat.reduceAdd, Nat.reduceSub, Nat.reduceMul, Nat.reduceLeDiff, ← Bool.decide_and, ← Bool.decide_or, ← decide_not, Int.reduceLT, Int.reduceLE, Int.reduceToNat, Int.reduceNeg]
  refine ⟨fun h2 => ?_, fun h2 => ?_⟩
  · obtain ⟨x1, hx1⟩ : ∃ x, L[q]? = some x := get_of_lt (by omega)
    obtain ⟨y1, hy1⟩ : ∃ x, T[q]? = some x := get_of_lt (by omega)
    have gu := madeU_good hLo q hq (by omega)
    have gv := madeU_good hTo q (by omega) (by omega)
    rw [← hu] at gu
    rw [← hv] at gv
    have su := (step_good gu (by omega) (hLo x1 (List.mem_of_getElem? hx1))).2
    have sv := (step_good gv (by omega) (hTo y1 (List.mem_of_getElem? hy1))).2
    have lu := gu.2.1
    have lv := gv.2.1
    refine ⟨Int.natCast_nonneg _, x1, hx1, _, c_step u x1 (by omega), fun _ => ⟨Int.natCast_nonneg _, y1, hy1, _, c_step v y1 (by omega), fun _ => ?_⟩⟩
    refine ⟨fun _ => ⟨fun h => absurd sv h, fun _ => ⟨i64_ok (by omega) (by omega), back _ (q + 1, (stepS u x1).1, (stepS v y1).1) (by refine ⟨?_, ?_, rfl, rfl⟩ <;> repeat' (first | exact trivial | (refine And.intro (Or.inl rfl) ?_) | (refine And.intro (Or.inr (Or.inl rfl)) ?_) | (refine And.intro (Or.inr (Or.inr (Or.inr ⟨rfl, rfl⟩))) ?_) | rfl | (refine And.intro (Or.inl ?_) ?_) | (refine And.intro ?_ ?_))) ⟨by dsimp only; omega, by dsimp only; rw [madeU_snoc hx1, hu], by dsimp only; rw [madeU_snoc hy1, hv]⟩ (by dsimp only; omega)⟩⟩, fun h => absurd su h⟩
  have eu : L.take q = L := List.take_of_length_le (by omega)
  have ev : T.take q = T := List.take_of_length_le (by omega)
  rw [eu] at hu
  rw [ev, hTm, ← hu] at hv
  subst hv
  have gu := madeU_good hLo L.length (Nat.le_refl _) (by omega)
  rw [List.take_of_length_le (Nat.le_refl _), ← hu] at gu
  refine ⟨_, c_SeenV v gu.1, fun _ => ?_⟩
  have hss := seen_srt gu.1.sR
  have hsm := isort_mem (lt := ltS) v.1
  have hsl := isort_length (lt := ltS) v.1
  have hvl := gu.2.1
  change SrtL ltS (seenS v.1) at hss
  change ∀ y, y ∈ seenS v.1 ↔ y ∈ v.1 at hsm
  change (seenS v.1).length = v.1.length at hsl
  generalize seenS v.1 = S at hss hsm hsl
  refine Walks.weaken (t := ⟨[(16, .iv (.int .i64) (0 : Int)), (15, .iv (.sl RecordT) S), (8, .ref 8 0), (9, .ref 9 0), (5, .iv .bool true)], [(8, .box [.iv (.sl RecordT) v.1, .iv (.sl OrderT) v.2.1, .iv (.int .i64) v.2.2.1, .iv (.int .i64) v.2.2.2.1, .iv (.int .i64) v.2.2.2.2.1, .iv (.int .i64) v.2.2.2.2.2.1, .iv (.int .i64) v.2.2.2.2.2.2.1, .iv (.int .i64) v.2.2.2.2.2.2.2.1, .iv (.int .i64) v.2.2.2.2.2.2.2.2.1, .iv (.int .i64) v.2.2.2.2.2.2.2.2.2]), (9, .box [.iv (.sl RecordT) v.1, .iv (.sl OrderT) v.2.1, .iv (.int .i64) v.2.2.1, .iv (.int .i64) v.2.2.2.1, .iv (.int .i64) v.2.2.2.2.1, .iv (.int .i64) v.2.2.2.2.2.1, .iv (.int .i64) v.2.2.2.2.2.2.1, .iv (.int .i64) v.2.2.2.2.2.2.2.1, .iv (.int .i64) v.2.2.2.2.2.2.2.2.1, .iv (.int .i64) v.2.2.2.2.2.2.2.2.2])]⟩) (by refine ⟨?_, ?_, rfl, rfl⟩ <;> repeat' (first | exact trivial | (refine And.intro (Or.inl rfl) ?_) | (refine And.intro (Or.inr (Or.inl rfl)) ?_) | (refine And.intro (Or.inr (Or.inr (Or.inr ⟨rfl, rfl⟩))) ?_) | rfl | (refine And.intro (Or.inl ?_) ?_) | (refine And.intro ?_ ?_))) ?_
  refine Walks.loopA (X := Nat) (fun (i : Nat) => [(16, .iv (.int .i64) (i : Int))]) (fun (i : Nat) => []) (fun (i : Nat) => i ≤ S.length) (fun (i : Nat) => S.length - i) 0 ?_; intro b1 b2 hb1 hb2; simp (config := {maxSteps := 4000000}) only [go_sem, Nat.reduceBEq, ↓reduceIte, ↓reduceDIte, Nat.reduceAdd, Nat.reduceSub, Nat.reduceMul, Nat.reduceLeDiff, ← Bool.decide_and, ← Bool.decide_or, ← decide_not, Int.reduceLT, Int.reduceLE, Int.reduceToNat, Int.reduceNeg] at hb1 hb2; subst hb1; subst hb2; refine ⟨(by refine ⟨?_, ?_, rfl, rfl⟩ <;> repeat' (first | exact trivial | (refine And.intro (Or.inl rfl) ?_) | (refine And.intro (Or.inr (Or.inl rfl)) ?_) | (refine And.intro (Or.inr (Or.inr (Or.inr ⟨rfl, rfl⟩))) ?_) | rfl | (refine And.intro (Or.inl ?_) ?_) | (refine And.intro ?_ ?_))), ?_, ?_⟩
  · exact Nat.zero_le _
  intro i hi back2
  refine PW_sound env_ok ⟨_, fn_9, rfl⟩ 2000 _ _ (by kernel_rfl) ?_; simp only [go_sem, Nat.reduceBEq, ↓reduceIte, ↓reduceDIte, Nat.reduceAdd, Nat.reduceSub, Nat.reduceMul, Nat.reduceLeDiff, ← Bool.decide_and, ← Bool.decide_or, ← decide_not, Int.reduceLT, Int.reduceLE, Int.reduceToNat, Int.reduceNeg]
  refine ⟨fun h3 => ?_, fun h3 => ?_⟩
  · obtain ⟨s, hs⟩ : ∃ x, S[i]? = some x := get_of_lt (by omega)
    apply Walks.shareX (X := Unit) (fun _ => ⟨[(18, .iv (.int .i64) (0 : Int)), (17, .iv .bool false), (16, .iv (.int .i64) (i : Int)), (15, .iv (.sl RecordT) S), (8, .ref 8 0), (9, .ref 9 0), (5, .iv .bool true)], [(8, .box [.iv (.sl RecordT) v.1, .iv (.sl OrderT) v.2.1, .iv (.int .i64) v.2.2.1, .iv (.int .i64) v.2.2.2.1, .iv (.int .i64) v.2.2.2.2.1, .iv (.int .i64) v.2.2.2.2.2.1, .iv (.int .i64) v.2.2.2.2.2.2.1, .iv (.int .i64) v.2.2.2.2.2.2.2.1, .iv (.int .i64) v.2.2.2.2.2.2.2.2.1, .iv (.int .i64) v.2.2.2.2.2.2.2.2.2]), (9, .box [.iv (.sl RecordT) v.1, .iv (.sl OrderT) v.2.1, .iv (.int .i64) v.2.2.1, .iv (.int .i64) v.2.2.2.1, .iv (.int .i64) v.2.2.2.2.1, .iv (.int .i64) v.2.2.2.2.2.1, .iv (.int .i64) v.2.2.2.2.2.2.1, .iv (.int .i64) v.2.2.2.2.2.2.2.1, .iv (.int .i64) v.2.2.2.2.2.2.2.2.1, .iv (.int .i64) v.2.2.2.2.2.2.2.2.2])]⟩) (fun _ => True)
    · intro key
      refine ⟨fun h4 => ?_, fun _ => key _ () trivial (by refine ⟨?_, ?_, rfl, rfl⟩ <;> repeat' (first | exact trivial | (refine And.intro (Or.inl rfl) ?_) | (refine And.intro (Or.inr (Or.inl rfl)) ?_) | (refine And.intro (Or.inr (Or.inr (Or.inr ⟨rfl, rfl⟩))) ?_) | rfl | (refine And.intro (Or.inl ?_) ?_) | (refine And.intro ?_ ?_)))⟩
      obtain ⟨i, rfl⟩ : ∃ j, i = j + 1 := ⟨i - 1, by omega⟩
      obtain ⟨p, hp⟩ : ∃ x, S[i]? = some x := get_of_lt (by omega)
      have hps := cmpS_neg.1 (srtL_get hss hp hs (Nat.lt_succ_self _))
      have ei : (((i + 1 : Nat) : Int) - 1).toNat = i := by omega
      rw [ei]
      rcases hps with hps | ⟨hpe, hps⟩
      · refine ⟨Int.natCast_nonneg _, s, hs, i64_ok (by omega) (by omega), by omega, p, hp, fun _ => ⟨Int.natCast_nonneg _, s, hs, i64_ok (by omega) (by omega), by omega, p, hp, fun h => absurd h (by omega), fun _ => key _ () trivial (by refine ⟨?_, ?_, rfl, rfl⟩ <;> repeat' (first | exact trivial | (refine And.intro (Or.inl rfl) ?_) | (refine And.intro (Or.inr (Or.inl rfl)) ?_) | (refine And.intro (Or.inr (Or.inr (Or.inr ⟨rfl, rfl⟩))) ?_) | rfl | (refine And.intro (Or.inl ?_) ?_) | (refine And.intro ?_ ?_)))⟩, fun h => absurd h (by omega)⟩
      · rcases befB_iff.1 hps with hpd | ⟨hpd, hpq⟩
        · change p.1 < s.1 at hpd
          refine ⟨Int.natCast_nonneg _, s, hs, i64_ok (by omega) (by omega), by omega, p, hp, fun _ => ⟨Int.natCast_nonneg _, s, hs, i64_ok (by omega) (by omega), by omega, p, hp, fun _ => ⟨Int.natCast_nonneg _, s, hs, i64_ok (by omega) (by omega), by omega, p, hp, fun _ => ⟨Int.natCast_nonneg _, s, hs, i64_ok (by omega) (by omega), by omega, p, hp, fun h => absurd h (by omega), fun _ => key _ () trivial (by refine ⟨?_, ?_, rfl, rfl⟩ <;> repeat' (first | exact trivial | (refine And.intro (Or.inl rfl) ?_) | (refine And.intro (Or.inr (Or.inl rfl)) ?_) | (refine And.intro (Or.inr (Or.inr (Or.inr ⟨rfl, rfl⟩))) ?_) | rfl | (refine And.intro (Or.inl ?_) ?_) | (refine And.intro ?_ ?_)))⟩, fun h => absurd h (by omega)⟩, fun h => absurd hpe.symm h⟩, fun h => absurd h (by omega)⟩
        · change p.1 = s.1 at hpd
          change p.2.1 < s.2.1 at hpq
          refine ⟨Int.natCast_nonneg _, s, hs, i64_ok (by omega) (by omega), by omega, p, hp, fun _ => ⟨Int.natCast_nonneg _, s, hs, i64_ok (by omega) (by omega), by omega, p, hp, fun _ => ⟨Int.natCast_nonneg _, s, hs, i64_ok (by omega) (by omega), by omega, p, hp, fun _ => ⟨Int.natCast_nonneg _, s, hs, i64_ok (by omega) (by omega), by omega, p, hp, fun _ => ⟨Int.natCast_nonneg _, s, hs, i64_ok (by omega) (by omega), by omega, p, hp, fun h => absurd h (by omega), fun _ => key _ () trivial (by refine ⟨?_, ?_, rfl, rfl⟩ <;> repeat' (first | exact trivial | (refine And.intro (Or.inl rfl) ?_) | (refine And.intro (Or.inr (Or.inl rfl)) ?_) | (refine And.intro (Or.inr (Or.inr (Or.inr ⟨rfl, rfl⟩))) ?_) | rfl | (refine And.intro (Or.inl ?_) ?_) | (refine And.intro ?_ ?_)))⟩, fun h => absurd hpd.symm h⟩, fun h => absurd h (by omega)⟩, fun h => absurd hpe.symm h⟩, fun h => absurd h (by omega)⟩
    intro _ _
    refine Walks.loopA (X := Nat × Bool) (fun (z : Nat × Bool) => [(18, .iv (.int .i64) (z.1 : Int)), (17, .iv .bool z.2)]) (fun (z : Nat × Bool) => []) (fun (z : Nat × Bool) => z.1 ≤ v.1.length ∧ z.2 = (v.1.take z.1).any (fun r => decide (r = s))) (fun (z : Nat × Bool) => v.1.length - z.1) (0, false) ?_; intro b1 b2 hb1 hb2; simp (config := {maxSteps := 4000000}) only [go_sem, Nat.reduceBEq, ↓reduceIte, ↓reduceDIte, Nat.reduceAdd, Nat.reduceSub, Nat.reduceMul, Nat.reduceLeDiff, ← Bool.decide_and, ← Bool.decide_or, ← decide_not, Int.reduceLT, Int.reduceLE, Int.reduceToNat, Int.reduceNeg] at hb1 hb2; subst hb1; subst hb2; refine ⟨(by refine ⟨?_, ?_, rfl, rfl⟩ <;> repeat' (first | exact trivial | (refine And.intro (Or.inl rfl) ?_) | (refine And.intro (Or.inr (Or.inl rfl)) ?_) | (refine And.intro (Or.inr (Or.inr (Or.inr ⟨rfl, rfl⟩))) ?_) | rfl | (refine And.intro (Or.inl ?_) ?_) | (refine And.intro ?_ ?_))), ?_, ?_⟩
    · exact ⟨Nat.zero_le _, rfl⟩
    intro ⟨j, b⟩ ⟨hj, hb⟩ backj
    dsimp only at hj hb
    cases b
    · refine PW_sound env_ok ⟨_, fn_9, rfl⟩ 2000 _ _ (by kernel_rfl) ?_; simp only [go_sem, Nat.reduceBEq, ↓reduceIte, ↓reduceDIte, Nat.reduceAdd, Nat.reduceSub, Nat.reduceMul, Nat.reduceLeDiff, ← Bool.decide_and, ← Bool.decide_or, ← decide_not, Int.reduceLT, Int.reduceLE, Int.reduceToNat, Int.reduceNeg]
      refine ⟨fun h5 => ?_, fun h5 => ?_⟩
      · obtain ⟨r, hr⟩ : ∃ r, v.1[j]? = some r := get_of_lt (by omega)
        have hst := any_step (p := fun r => decide (r = s)) hr
        rw [← hb, Bool.false_or] at hst
        refine ⟨Int.natCast_nonneg _, r, hr, Int.natCast_nonneg _, s, hs, ?_⟩
        refine ⟨i64_ok (by omega) (by omega), backj _ (j + 1, _) (by refine ⟨?_, ?_, rfl, rfl⟩ <;> repeat' (first | exact trivial | (refine And.intro (Or.inl rfl) ?_) | (refine And.intro (Or.inr (Or.inl rfl)) ?_) | (refine And.intro (Or.inr (Or.inr (Or.inr ⟨rfl, rfl⟩))) ?_) | rfl | (refine And.intro (Or.inl ?_) ?_) | (refine And.intro ?_ ?_))) ⟨by dsimp only; omega, by dsimp only; rw [hst]; exact decide_eq_decide.2 ⟨fun ⟨a, b, c, d, e, f⟩ => Prod.ext a (Prod.ext b (Prod.ext c (Prod.ext d (Prod.ext e f)))), fun e => by subst e; exact ⟨rfl, rfl, rfl, rfl, rfl, rfl⟩⟩⟩ (by dsimp only; omega)⟩
      · exfalso
        have ev1 : v.1.take j = v.1 := List.take_of_length_le (by omega)
        rw [ev1] at hb
        have : v.1.any (fun r => decide (r = s)) = true := List.any_eq_true.2 ⟨s, (hsm s).1 (List.mem_of_getElem? hs), decide_eq_true rfl⟩
        rw [this] at hb; cases hb
    · refine PW_sound env_ok ⟨_, fn_9, rfl⟩ 2000 _ _ (by kernel_rfl) ?_; simp only [go_sem, Nat.reduceBEq, ↓reduceIte, ↓reduceDIte, Nat.reduceAdd, Nat.reduceSub, Nat.reduceMul, Nat.reduceLeDiff, ← Bool.decide_and, ← Bool.decide_or, ← decide_not, Int.reduceLT, Int.reduceLE, Int.reduceToNat, Int.reduceNeg]
      refine ⟨fun h5 => ?_, fun h5 => ?_⟩
      · obtain ⟨r, hr⟩ : ∃ r, v.1[j]? = some r := get_of_lt (by omega)
        have hst := any_step (p := fun r => decide (r = s)) hr
        rw [← hb, Bool.true_or] at hst
        exact ⟨i64_ok (by omega) (by omega), backj _ (j + 1, true) (by refine ⟨?_, ?_, rfl, rfl⟩ <;> repeat' (first | exact trivial | (refine And.intro (Or.inl rfl) ?_) | (refine And.intro (Or.inr (Or.inl rfl)) ?_) | (refine And.intro (Or.inr (Or.inr (Or.inr ⟨rfl, rfl⟩))) ?_) | rfl | (refine And.intro (Or.inl ?_) ?_) | (refine And.intro ?_ ?_))) ⟨by dsimp only; omega, by dsimp only; rw [hst]⟩ (by dsimp only; omega)⟩
      · exact ⟨i64_ok (by omega) (by omega), back2 _ (i + 1) (by refine ⟨?_, ?_, rfl, rfl⟩ <;> repeat' (first | exact trivial | (refine And.intro (Or.inl rfl) ?_) | (refine And.intro (Or.inr (Or.inl rfl)) ?_) | (refine And.intro (Or.inr (Or.inr (Or.inr ⟨rfl, rfl⟩))) ?_) | rfl | (refine And.intro (Or.inl ?_) ?_) | (refine And.intro ?_ ?_))) (by omega) (by omega)⟩
  · have cs := c_Same v v
    rw [eqP_t rfl] at cs
    refine ⟨_, cs, ?_⟩
    simp only [go_sem, Nat.reduceBEq, ↓reduceIte, ↓reduceDIte, Nat.reduceAdd, Nat.reduceSub, Nat.reduceMul, Nat.reduceLeDiff, ← Bool.decide_and, ← Bool.decide_or, ← decide_not, Int.reduceLT, Int.reduceLE, Int.reduceToNat, Int.reduceNeg]
    exact ⟨fun _ => trivial, fun h => absurd (by rw [hsl]) h⟩
end Go.Proofs.Ytnncphnpajkojaa
namespace Go.Proofs.Ytnncphnpajkojaa
open Go.ChangeShapes Go.WideShapes Go.ChangeAt Go.RowKit
theorem own_none : ownKnob Try.prog.godebug = none := by kernel_rfl
theorem laid_out : laidOutB env.P = true := by kernel_rfl
theorem order_all (xs : List (Sigma Ty.den)) (h : xs.map (·.1) = [.sl RawT, .int .u8]) : PC env 9 xs .bool true := by
  match xs, h with
  | [⟨_, y0⟩, ⟨_, y1⟩], h =>
    injection h with h1 h
    injection h with h2 h
    dsimp only at h1 h2
    subst h1 h2
    exact c_Order9 y0 y1
set_option maxRecDepth 100000 in
theorem order_lifted (os : Os) (started : os.Started) (H : Type) (enc : TypeId × Value → H) :
    ReturnsInHanded {} Try.checked os 9 .any (Rows.learnOrderSpec.pre6 enc Try.prog Try.f9 Rows.learnOrderRow.domain false) (Rows.learnOrderSpec.post enc Try.prog Try.f9 false true false false) := by
  refine returnsInHanded_of_change (C := Try.checked) own_none started (by kernel_rfl) fn_9
    (ChangeSpec.witness6 (enc := enc) (C := Try.checked) false ⟨#[], #[.slice none 0 0, .int .u8 0], []⟩ 8 (by kernel_rfl) (by kernel_rfl) (by kernel_rfl) (by kernel_rfl)) ?_
  intro W base args ds gs before hval hW _ _
  refine law_calls (E := env) (b0 := base) (Ts := [.sl RawT, .int .u8]) (tb := 4) env_ok laid_out (of_decide_eq_true (by kernel_rfl)) rfl rfl rfl (by kernel_rfl) rfl ?_ order_all hval hW
  intro ds hds
  match ds, hds with
  | [d0, d1], _ => rfl
theorem order_holds : Rows.LearnOrderSaid :=
  OpenClaim.holds_of_wide 9 Try.f9 rfl rfl rfl rfl rfl rfl rfl ⟨rfl, rfl, rfl, rfl, rfl⟩ rfl rfl rfl rfl rfl (by kernel_rfl) fn_9 (by kernel_rfl)
    (of_decide_eq_true (by kernel_rfl)) (by unfold Func.isWrapper; first | (rw [if_pos (by decide +kernel)]; kernel_rfl) | (rw [if_neg (by decide +kernel)]; exact ⟨rfl, rfl⟩))
    (fun os started H enc _ => order_lifted os started H enc)
end Go.Proofs.Ytnncphnpajkojaa
