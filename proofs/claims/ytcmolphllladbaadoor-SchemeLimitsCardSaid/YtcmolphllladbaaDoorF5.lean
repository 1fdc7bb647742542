/- The law SchemeLimits holds for every input. No condition. -/
import Derived.Test.YtcmolphllladbaaDoorB6
import Derived.Test.YtcmolphllladbaaDoorCards
import Derived.Test.YtcmolphllladbaaDoorTie
import Derived.SevenTiedAt
set_option linter.unusedSimpArgs false
set_option linter.unusedVariables false
--SET+ by32, by10, Int.reduceEq, not_true_eq_false, not_false_eq_true, false_implies, St.ren, permF
namespace Go.Proofs.YtcmolphllladbaaDoor
open Go.Lib
set_option maxHeartbeats 4000000
set_option maxRecDepth 100000
theorem u8_rng (x : Int) : 0 ≤ IntKind.u8.wrap x ∧ IntKind.u8.wrap x ≤ 255 := by
  unfold IntKind.wrap
  simp only [IntKind.signed, IntKind.bits]
  simp
  omega
def capR (i : Nat) : Rl := (0, 0, [97], [], (i : Int))
def manyL (n : Nat) : List Rl := (List.range n).map capR
theorem many_len (n : Nat) : (manyL n).length = n := by simp [manyL]
theorem many_succ (n : Nat) : manyL (n + 1) = manyL n ++ [capR n] := by simp [manyL, List.range_succ]
theorem many_get {n i : Nat} (h : i < n) : (manyL n)[i]? = some (capR i) := by simp [manyL, h]
theorem many_right {n i : Nat} (h : i < n) (hn : n ≤ 66) : rightAt 1 (manyL n) i = true := by
  unfold rightAt
  rw [many_get h]
  dsimp only
  rw [Bool.and_eq_true, decide_eq_true_eq]
  refine ⟨fun hm => ?_, ?_⟩
  · obtain ⟨j, hj⟩ := List.getElem?_of_mem hm
    rw [List.getElem?_take] at hj
    split at hj
    · rename_i hji
      rw [many_get (by omega)] at hj
      injection hj with hj
      have : (j : Int) = i := congrArg (fun r : Rl => r.2.2.2.2) hj
      omega
    · simp at hj
  · have e1 : inB (capR i).1 0 (1 - 1) = true := rfl
    have e2 : inB (capR i).2.1 0 (1 - 1) = true := rfl
    have e3 : inB (capR i).2.2.2.2 0 1000 = true := decide_eq_true ⟨Int.natCast_nonneg i, by show (i : Int) ≤ 1000; omega⟩
    unfold rightR
    rw [e1, e2, e3]
    rfl
theorem many_valid {n : Nat} (hn : n ≤ 66) : decide ((checkE (1, 1, manyL n)).2 = 0) = decide (n ≤ 64) := by
  have hh : headB (1, 1, manyL n) = decide (n ≤ 64) := by
    unfold headB
    dsimp only
    rw [many_len]
    rfl
  unfold checkE
  rw [hh]
  by_cases h : n ≤ 64
  · rw [if_pos (decide_eq_true h)]
    dsimp only
    rw [chkL_all fun j _ hj => many_right (by rw [many_len] at hj; omega) hn]
    simp [h]
  · rw [if_neg (by simp [h])]
    simp [h]
theorem valid_head (x a : Int) : decide ((checkE (x, a, [])).2 = 0) = (inB x 1 8 && inB a 1 (2 ^ x.toNat - 1)) := by
  have hh : headB (x, a, []) = (inB x 1 8 && inB a 1 (2 ^ x.toNat - 1)) := by unfold headB; simp
  unfold checkE
  rw [hh]
  cases (inB x 1 8 && inB a 1 (2 ^ x.toNat - 1)) <;> rfl
theorem valid_one (x a : Int) (i o : Str) (c : Int) (hi : i.all low = true) (ho : o.all aln = true) : decide ((checkE (x, a, [(0, 0, i, o, c)])).2 = 0) = ((inB x 1 8 && inB a 1 (2 ^ x.toNat - 1)) && (decide (i.length ≤ 4) && decide (o.length ≤ 4) && inB c 0 1000)) := by
  have hh : headB (x, a, [(0, 0, i, o, c)]) = (inB x 1 8 && inB a 1 (2 ^ x.toNat - 1)) := by unfold headB; simp
  unfold checkE
  rw [hh]
  by_cases h : (inB x 1 8 && inB a 1 (2 ^ x.toNat - 1)) = true
  · rw [if_pos h, h, Bool.true_and]
    dsimp only
    have hx : 1 ≤ x := by simp [inB] at h; omega
    have hr : rightAt x [(0, 0, i, o, c)] 0 = (decide (i.length ≤ 4) && decide (o.length ≤ 4) && inB c 0 1000) := by
      unfold rightAt rightR
      simp only [List.getElem?_cons_zero, List.take_zero, List.not_mem_nil, not_false_eq_true, decide_true, Bool.true_and]
      have e : inB 0 0 (x - 1) = true := decide_eq_true ⟨by omega, by omega⟩
      rw [e, hi, ho]
      simp
    show decide ((chkL x [(0, 0, i, o, c)] 1 0).2 = 0) = _
    unfold chkL
    rw [hr]
    cases (decide (i.length ≤ 4) && decide (o.length ≤ 4) && inB c 0 1000) <;> rfl
  · have h' := Bool.eq_false_iff.2 h
    rw [if_neg h, h', Bool.false_and]
    rfl
theorem ne_no {b c : Bool} (h : b = c) : (!b == c) = false := by rw [bne_dec]; simp [h]
theorem c_Limits (w : Int × Int × Int × Int × Int) (cost : Int) : PC env 7 [⟨.st (.pair (.int .i8) (.pair (.int .i8) (.pair (.int .i8) (.pair (.int .i8) (.int .i8))))), w⟩, ⟨.int .i16, cost⟩] .bool true := by
  obtain ⟨x, w1, w2, w3, w4⟩ := w
  refine PC.of_PW (m := 2000) env_ok fn_7 rfl rfl rfl rfl (by kernel_rfl) ?_; intro hx; simp only [Tryd.f7]; simp only [go_sem, Nat.reduceBEq, ↓reduceIte, ↓reduceDIte, Nat.reduceAdd, Nat.reduceSub, Nat.reduceMul, Nat.reduceLeDiff, ← Bool.decide_and, ← Bool.decide_or, ← decide_not, Int.reduceLT, Int.reduceLE, Int.reduceToNat, Int.reduceNeg, by32, by10, Int.reduceEq, not_true_eq_false, not_false_eq_true, false_implies, St.ren, permF]
  have a1 := u8_rng w1
  have a2 := u8_rng w2
  have a3 := u8_rng w3
  have a4 := u8_rng w4
  have t2 : Int.tmod (IntKind.u8.wrap w2) 67 = IntKind.u8.wrap w2 % 67 := Int.tmod_eq_emod_of_nonneg a2.1
  have t3 : Int.tmod (IntKind.u8.wrap w3) 7 = IntKind.u8.wrap w3 % 7 := Int.tmod_eq_emod_of_nonneg a3.1
  have t4 : Int.tmod (IntKind.u8.wrap w4) 7 = IntKind.u8.wrap w4 % 7 := Int.tmod_eq_emod_of_nonneg a4.1
  have hin : ((bytesOf ⟨#[97, 97, 97, 97, 97, 97]⟩).take (Int.tmod (IntKind.u8.wrap w3) 7).toNat).all low = true := List.all_eq_true.2 fun y hy => by
    have : y ∈ ([97, 97, 97, 97, 97, 97] : Str) := List.mem_of_mem_take hy
    simp at this
    rw [this]; rfl
  have hout : ((bytesOf ⟨#[90, 57, 122, 90, 57, 122]⟩).take (Int.tmod (IntKind.u8.wrap w4) 7).toNat).all aln = true := List.all_eq_true.2 fun y hy => by
    have : y ∈ ([90, 57, 122, 90, 57, 122] : Str) := List.mem_of_mem_take hy
    simp only [List.mem_cons, List.not_mem_nil, or_false] at this
    rcases this with h | h | h | h | h | h <;> rw [h] <;> rfl
  apply Walks.shareX (X := Unit) (fun _ => ⟨[(15, .iv (.int .i64) (0 : Int)), (14, .ref 14 0), (8, .iv (.int .i64) (Int.tmod (IntKind.u8.wrap w2) 67)), (5, .iv .bool true)], [(14, .box [.iv (.int .i64) (1 : Int), .iv (.int .u8) (1 : Int), .nilsl])]⟩) (fun _ => True)
  · intro key
    refine ⟨_, c_sanity, _, rfl, _, rfl, _, rfl, _, rfl, ⟨by omega, ?_⟩, _, rfl, ⟨by omega, ?_⟩, ?_⟩
    · rw [t3]; show _ ≤ (6 : Int); omega
    · rw [t4]; show _ ≤ (6 : Int); omega
    have hmax : (max x 0).toNat = x.toNat := by omega
    rw [hmax]
    have p8 : x = 8 → (2 : Int) ^ x.toNat = 256 := fun h => by rw [h]; rfl
    have pb : x ≤ 8 → (2 : Int) ^ x.toNat ≤ 256 := fun h => pow256 _ (by omega)
    have pp : (0 : Int) < 2 ^ x.toNat := Int.pow_pos (by decide)
    have v0 := c_Valid (x, IntKind.u8.wrap w1, [])
    have v1 := c_Valid (x, IntKind.u8.wrap w1, [(0, 0, (bytesOf ⟨#[97, 97, 97, 97, 97, 97]⟩).take (Int.tmod (IntKind.u8.wrap w3) 7).toNat, (bytesOf ⟨#[90, 57, 122, 90, 57, 122]⟩).take (Int.tmod (IntKind.u8.wrap w4) 7).toNat, cost)])
    rw [valid_head] at v0
    rw [valid_one _ _ _ _ _ hin hout] at v1
    generalize (2 : Int) ^ x.toNat = p at p8 pb pp v0 v1 ⊢
    generalize (bytesOf ⟨#[97, 97, 97, 97, 97, 97]⟩).take (Int.tmod (IntKind.u8.wrap w3) 7).toNat = is at v1 ⊢
    generalize (bytesOf ⟨#[90, 57, 122, 90, 57, 122]⟩).take (Int.tmod (IntKind.u8.wrap w4) 7).toNat = os at v1 ⊢
    refine ⟨fun h1 => ⟨fun h2 => ⟨fun h3 => ⟨fun h4 => ⟨⟨by omega, by omega⟩, ⟨by omega, by omega⟩, _, v0, PB_cast (b' := false) ?_ ?_⟩, fun h4 => ⟨_, v0, PB_cast (b' := false) ?_ ?_⟩⟩, fun h3 => ⟨_, v0, PB_cast (b' := false) ?_ ?_⟩⟩, fun h2 => ⟨_, v0, PB_cast (b' := false) ?_ ?_⟩⟩, fun h1 => ⟨_, v0, PB_cast (b' := false) ?_ ?_⟩⟩
    case refine_1 => exact ne_no (by rw [Bool.eq_iff_iff]; simp [inB]; omega)
    case refine_3 => exact ne_no (by simp [inB]; omega)
    case refine_5 => exact ne_no (by simp [inB]; omega)
    case refine_7 => exact ne_no (by simp [inB]; omega)
    case refine_9 => exact ne_no (by simp [inB]; omega)
    case refine_2 =>
      have e0 : (inB x 1 8 && inB (IntKind.u8.wrap w1) 1 (p - 1)) = decide (IntKind.u8.wrap w1 < 1 * p) := by rw [Bool.eq_iff_iff]; simp [inB]; omega
      rw [e0] at v1
      simp only [go_sem, Nat.reduceBEq, ↓reduceIte, ↓reduceDIte, Nat.reduceAdd, Nat.reduceSub, Nat.reduceMul, Nat.reduceLeDiff, ← Bool.decide_and, ← Bool.decide_or, ← decide_not, Int.reduceLT, Int.reduceLE, Int.reduceToNat, Int.reduceNeg, by32, by10, Int.reduceEq, not_true_eq_false, not_false_eq_true, false_implies, St.ren, permF]
      refine ⟨fun g1 => ⟨fun g2 => ⟨fun g3 => ⟨_, v1, fun g => PB_cast (b' := false) (ne_no (by rw [Bool.eq_iff_iff]; simp [inB]; omega)) ?_, fun g => PB_cast (b' := false) (ne_no (by rw [Bool.eq_iff_iff]; simp [inB]; omega)) ?_⟩, fun g3 => ⟨_, v1, fun g => PB_cast (b' := false) (ne_no (by rw [Bool.eq_iff_iff]; simp [inB]; omega)) ?_, fun g => PB_cast (b' := false) (ne_no (by rw [Bool.eq_iff_iff]; simp [inB]; omega)) ?_⟩⟩, fun g2 => ⟨_, v1, fun g => PB_cast (b' := false) (ne_no (by rw [Bool.eq_iff_iff]; simp [inB]; omega)) ?_, fun g => PB_cast (b' := false) (ne_no (by rw [Bool.eq_iff_iff]; simp [inB]; omega)) ?_⟩⟩, fun g1 => ⟨_, v1, fun g => PB_cast (b' := false) (ne_no (by rw [Bool.eq_iff_iff]; simp [inB]; omega)) ?_, fun g => PB_cast (b' := false) (ne_no (by rw [Bool.eq_iff_iff]; simp [inB]; omega)) ?_⟩⟩
      all_goals
        simp only [go_sem, Nat.reduceBEq, ↓reduceIte, ↓reduceDIte, Nat.reduceAdd, Nat.reduceSub, Nat.reduceMul, Nat.reduceLeDiff, ← Bool.decide_and, ← Bool.decide_or, ← decide_not, Int.reduceLT, Int.reduceLE, Int.reduceToNat, Int.reduceNeg, by32, by10, Int.reduceEq, not_true_eq_false, not_false_eq_true, false_implies, St.ren, permF]
        exact key _ () trivial (by refine ⟨?_, ?_, rfl, rfl⟩ <;> repeat' (first | exact trivial | exact Or.inl rfl | exact Or.inr rfl | (refine And.intro (Or.inl rfl) ?_) | (refine And.intro (Or.inr (Or.inl rfl)) ?_) | (refine And.intro (Or.inr (Or.inr (Or.inr ⟨rfl, rfl⟩))) ?_) | (refine And.intro (Or.inr (Or.inr (Or.inl ⟨rfl, rfl, trivial⟩))) ?_) | exact ⟨(by show (_ : Nat) < 1000000000; omega), rfl, rfl⟩ | rfl | (refine And.intro (Or.inl ?_) ?_) | (refine And.intro ?_ ?_)))
    case refine_4 =>
      have e0 : (inB x 1 8 && inB (IntKind.u8.wrap w1) 1 (p - 1)) = true := by simp [inB]; omega
      rw [e0] at v1
      simp only [go_sem, Nat.reduceBEq, ↓reduceIte, ↓reduceDIte, Nat.reduceAdd, Nat.reduceSub, Nat.reduceMul, Nat.reduceLeDiff, ← Bool.decide_and, ← Bool.decide_or, ← decide_not, Int.reduceLT, Int.reduceLE, Int.reduceToNat, Int.reduceNeg, by32, by10, Int.reduceEq, not_true_eq_false, not_false_eq_true, false_implies, St.ren, permF]
      refine ⟨fun g1 => ⟨fun g2 => ⟨fun g3 => ⟨_, v1, PB_cast (b' := false) (ne_no (by rw [Bool.eq_iff_iff]; simp [inB]; omega)) ?_⟩, fun g3 => ⟨_, v1, PB_cast (b' := false) (ne_no (by rw [Bool.eq_iff_iff]; simp [inB]; omega)) ?_⟩⟩, fun g2 => ⟨_, v1, PB_cast (b' := false) (ne_no (by rw [Bool.eq_iff_iff]; simp [inB]; omega)) ?_⟩⟩, fun g1 => ⟨_, v1, PB_cast (b' := false) (ne_no (by rw [Bool.eq_iff_iff]; simp [inB]; omega)) ?_⟩⟩
      all_goals
        simp only [go_sem, Nat.reduceBEq, ↓reduceIte, ↓reduceDIte, Nat.reduceAdd, Nat.reduceSub, Nat.reduceMul, Nat.reduceLeDiff, ← Bool.decide_and, ← Bool.decide_or, ← decide_not, Int.reduceLT, Int.reduceLE, Int.reduceToNat, Int.reduceNeg, by32, by10, Int.reduceEq, not_true_eq_false, not_false_eq_true, false_implies, St.ren, permF]
        exact key _ () trivial (by refine ⟨?_, ?_, rfl, rfl⟩ <;> repeat' (first | exact trivial | exact Or.inl rfl | exact Or.inr rfl | (refine And.intro (Or.inl rfl) ?_) | (refine And.intro (Or.inr (Or.inl rfl)) ?_) | (refine And.intro (Or.inr (Or.inr (Or.inr ⟨rfl, rfl⟩))) ?_) | (refine And.intro (Or.inr (Or.inr (Or.inl ⟨rfl, rfl, trivial⟩))) ?_) | exact ⟨(by show (_ : Nat) < 1000000000; omega), rfl, rfl⟩ | rfl | (refine And.intro (Or.inl ?_) ?_) | (refine And.intro ?_ ?_)))
    all_goals
      have e0 : (inB x 1 8 && inB (IntKind.u8.wrap w1) 1 (p - 1)) = false := by simp [inB]; omega
      rw [e0, Bool.false_and] at v1
      simp only [go_sem, Nat.reduceBEq, ↓reduceIte, ↓reduceDIte, Nat.reduceAdd, Nat.reduceSub, Nat.reduceMul, Nat.reduceLeDiff, ← Bool.decide_and, ← Bool.decide_or, ← decide_not, Int.reduceLT, Int.reduceLE, Int.reduceToNat, Int.reduceNeg, by32, by10, Int.reduceEq, not_true_eq_false, not_false_eq_true, false_implies, St.ren, permF]
      refine ⟨fun g1 => ⟨fun g2 => ⟨fun g3 => ⟨_, v1, PB_cast (b' := false) rfl ?_⟩, fun g3 => ⟨_, v1, PB_cast (b' := false) rfl ?_⟩⟩, fun g2 => ⟨_, v1, PB_cast (b' := false) rfl ?_⟩⟩, fun g1 => ⟨_, v1, PB_cast (b' := false) rfl ?_⟩⟩
      all_goals
        simp only [go_sem, Nat.reduceBEq, ↓reduceIte, ↓reduceDIte, Nat.reduceAdd, Nat.reduceSub, Nat.reduceMul, Nat.reduceLeDiff, ← Bool.decide_and, ← Bool.decide_or, ← decide_not, Int.reduceLT, Int.reduceLE, Int.reduceToNat, Int.reduceNeg, by32, by10, Int.reduceEq, not_true_eq_false, not_false_eq_true, false_implies, St.ren, permF]
        exact key _ () trivial (by refine ⟨?_, ?_, rfl, rfl⟩ <;> repeat' (first | exact trivial | exact Or.inl rfl | exact Or.inr rfl | (refine And.intro (Or.inl rfl) ?_) | (refine And.intro (Or.inr (Or.inl rfl)) ?_) | (refine And.intro (Or.inr (Or.inr (Or.inr ⟨rfl, rfl⟩))) ?_) | (refine And.intro (Or.inr (Or.inr (Or.inl ⟨rfl, rfl, trivial⟩))) ?_) | exact ⟨(by show (_ : Nat) < 1000000000; omega), rfl, rfl⟩ | rfl | (refine And.intro (Or.inl ?_) ?_) | (refine And.intro ?_ ?_)))
  intro _ _
  rw [t2]
  have hm1 := Int.emod_nonneg (IntKind.u8.wrap w2) (b := 67) (by decide)
  have hm2 := Int.emod_lt_of_pos (IntKind.u8.wrap w2) (b := 67) (by decide)
  clear hin hout t2 t3 t4
  obtain ⟨n, hn⟩ := Int.eq_ofNat_of_zero_le hm1
  rw [hn] at hm2 ⊢
  clear hn hm1
  refine Walks.loopA (X := Nat × List Rl) (fun (z : Nat × List Rl) => [(15, .iv (.int .i64) (z.1 : Int))]) (fun (z : Nat × List Rl) => (14, .box [.iv (.int .i64) (1 : Int), .iv (.int .u8) (1 : Int), rP z.2]) :: rB z.2) (fun (z : Nat × List Rl) => z.1 ≤ n ∧ z.2 = manyL z.1) (fun (z : Nat × List Rl) => n - z.1) (0, []) ?_; intro b1 b2 hb1 hb2; simp (config := {maxSteps := 4000000}) only [go_sem, Nat.reduceBEq, ↓reduceIte, ↓reduceDIte, Nat.reduceAdd, Nat.reduceSub, Nat.reduceMul, Nat.reduceLeDiff, ← Bool.decide_and, ← Bool.decide_or, ← decide_not, Int.reduceLT, Int.reduceLE, Int.reduceToNat, Int.reduceNeg, by32, by10, Int.reduceEq, not_true_eq_false, not_false_eq_true, false_implies, St.ren, permF] at hb1 hb2; subst hb1; subst hb2; refine ⟨(by refine ⟨?_, ?_, rfl, rfl⟩ <;> repeat' (first | exact trivial | exact Or.inl rfl | exact Or.inr rfl | (refine And.intro (Or.inl rfl) ?_) | (refine And.intro (Or.inr (Or.inl rfl)) ?_) | (refine And.intro (Or.inr (Or.inr (Or.inr ⟨rfl, rfl⟩))) ?_) | (refine And.intro (Or.inr (Or.inr (Or.inl ⟨rfl, rfl, trivial⟩))) ?_) | exact ⟨(by show (_ : Nat) < 1000000000; omega), rfl, rfl⟩ | rfl | (refine And.intro (Or.inl ?_) ?_) | (refine And.intro ?_ ?_))), ?_, ?_⟩
  · exact ⟨Nat.zero_le _, rfl⟩
  intro ⟨i, acc⟩ ⟨hi, hacc⟩ back
  dsimp only at hi hacc
  have hln : acc.length = i := by rw [hacc, many_len]
  have hst : manyL (i + 1) = acc ++ [(0, 0, [97], [], (i : Int))] := by rw [many_succ, hacc]; rfl
  have kv := c_Valid (1, 1, acc)
  have hv : i = n → decide ((checkE (1, 1, acc)).2 = 0) = decide ((n : Int) ≤ 64) := fun h => by rw [hacc, many_valid (by omega), h]; exact decide_eq_decide.2 (by omega)
  cases acc with
  | nil =>
    dsimp only [rP, rB]
    refine PW_sound env_ok ⟨_, fn_7, rfl⟩ 2000 _ _ (by kernel_rfl) ?_; simp only [go_sem, Nat.reduceBEq, ↓reduceIte, ↓reduceDIte, Nat.reduceAdd, Nat.reduceSub, Nat.reduceMul, Nat.reduceLeDiff, ← Bool.decide_and, ← Bool.decide_or, ← decide_not, Int.reduceLT, Int.reduceLE, Int.reduceToNat, Int.reduceNeg, by32, by10, Int.reduceEq, not_true_eq_false, not_false_eq_true, false_implies, St.ren, permF]
    refine ⟨fun g => ⟨i64_ok (by omega) (by omega), ?_⟩, fun g => ⟨_, kv, PK_cast (b' := true) (by rw [hv (by omega)]; simp) ?_⟩⟩
    · refine Walks.ren [(108, 1000), (1000, 108)] rfl ?_
      simp only [go_sem, Nat.reduceBEq, ↓reduceIte, ↓reduceDIte, Nat.reduceAdd, Nat.reduceSub, Nat.reduceMul, Nat.reduceLeDiff, ← Bool.decide_and, ← Bool.decide_or, ← decide_not, Int.reduceLT, Int.reduceLE, Int.reduceToNat, Int.reduceNeg, by32, by10, Int.reduceEq, not_true_eq_false, not_false_eq_true, false_implies, St.ren, permF]
      exact back _ (i + 1, [(0, 0, [97], [], (i : Int))]) (by refine ⟨?_, ?_, rfl, rfl⟩ <;> repeat' (first | exact trivial | exact Or.inl rfl | exact Or.inr rfl | (refine And.intro (Or.inl rfl) ?_) | (refine And.intro (Or.inr (Or.inl rfl)) ?_) | (refine And.intro (Or.inr (Or.inr (Or.inr ⟨rfl, rfl⟩))) ?_) | (refine And.intro (Or.inr (Or.inr (Or.inl ⟨rfl, rfl, trivial⟩))) ?_) | exact ⟨(by show (_ : Nat) < 1000000000; omega), rfl, rfl⟩ | rfl | (refine And.intro (Or.inl ?_) ?_) | (refine And.intro ?_ ?_))) ⟨by dsimp only; omega, by dsimp only; rw [hst]; rfl⟩ (by dsimp only; omega)
    · simp only [go_sem, Nat.reduceBEq, ↓reduceIte, ↓reduceDIte, Nat.reduceAdd, Nat.reduceSub, Nat.reduceMul, Nat.reduceLeDiff, ← Bool.decide_and, ← Bool.decide_or, ← decide_not, Int.reduceLT, Int.reduceLE, Int.reduceToNat, Int.reduceNeg, by32, by10, Int.reduceEq, not_true_eq_false, not_false_eq_true, false_implies, St.ren, permF]
  | cons y acc =>
    dsimp only [rP, rB]
    refine PW_sound env_ok ⟨_, fn_7, rfl⟩ 2000 _ _ (by kernel_rfl) ?_; simp only [go_sem, Nat.reduceBEq, ↓reduceIte, ↓reduceDIte, Nat.reduceAdd, Nat.reduceSub, Nat.reduceMul, Nat.reduceLeDiff, ← Bool.decide_and, ← Bool.decide_or, ← decide_not, Int.reduceLT, Int.reduceLE, Int.reduceToNat, Int.reduceNeg, by32, by10, Int.reduceEq, not_true_eq_false, not_false_eq_true, false_implies, St.ren, permF]
    refine ⟨fun g => ⟨by simp at hln; omega, i64_ok (by omega) (by omega), ?_⟩, fun g => ⟨_, kv, PK_cast (b' := true) (by rw [hv (by omega)]; simp) ?_⟩⟩
    · exact back _ (i + 1, y :: (acc ++ [(0, 0, [97], [], (i : Int))])) (by refine ⟨?_, ?_, rfl, rfl⟩ <;> repeat' (first | exact trivial | exact Or.inl rfl | exact Or.inr rfl | (refine And.intro (Or.inl rfl) ?_) | (refine And.intro (Or.inr (Or.inl rfl)) ?_) | (refine And.intro (Or.inr (Or.inr (Or.inr ⟨rfl, rfl⟩))) ?_) | (refine And.intro (Or.inr (Or.inr (Or.inl ⟨rfl, rfl, trivial⟩))) ?_) | exact ⟨(by show (_ : Nat) < 1000000000; omega), rfl, rfl⟩ | rfl | (refine And.intro (Or.inl ?_) ?_) | (refine And.intro ?_ ?_))) ⟨by dsimp only; omega, by dsimp only; rw [hst]; rfl⟩ (by dsimp only; omega)
    · simp only [go_sem, Nat.reduceBEq, ↓reduceIte, ↓reduceDIte, Nat.reduceAdd, Nat.reduceSub, Nat.reduceMul, Nat.reduceLeDiff, ← Bool.decide_and, ← Bool.decide_or, ← decide_not, Int.reduceLT, Int.reduceLE, Int.reduceToNat, Int.reduceNeg, by32, by10, Int.reduceEq, not_true_eq_false, not_false_eq_true, false_implies, St.ren, permF]
end Go.Proofs.YtcmolphllladbaaDoor
namespace Go.Proofs.YtcmolphllladbaaDoor
open Go.ChangeShapes Go.WideShapes Go.ChangeAt Go.RowKit
theorem limits_all (xs : List (Sigma Ty.den)) (h : xs.map (·.1) = [.st (.pair (.int .i8) (.pair (.int .i8) (.pair (.int .i8) (.pair (.int .i8) (.int .i8))))), .int .i16]) : PC env 7 xs .bool true := by
  match xs, h with
  | [⟨_, y0⟩, ⟨_, y1⟩], h =>
    injection h with h1 h
    injection h with h2 h
    dsimp only at h1 h2
    subst h1 h2
    exact c_Limits y0 y1
set_option maxRecDepth 100000 in
theorem limits_lifted (os : Os) (started : os.Started) (H : Type) (enc : TypeId × Value → H) :
    ReturnsInHanded {} Tryd.checked os 7 .any (Rows.schemeLimitsRow.pre enc Tryd.prog Tryd.f7 (OpenSpec.ofChange Rows.schemeLimitsSpec)) (Rows.schemeLimitsSpec.post enc Tryd.prog Tryd.f7 false true false false) := by
  rw [pre_laid (c := Rows.schemeLimitsRow) (s := Rows.schemeLimitsSpec) rfl]
  refine lift_laid (C := Tryd.checked) (X := fun w _ => laidMet Tryd.prog laidL w) laid_heap own_none started (by kernel_rfl) fn_7
    (ChangeSpec.witness_at (enc := enc) (C := Tryd.checked) (X := fun w _ => laidMet Tryd.prog laidL w) false (laidWorld os) #[.agg #[.int .i8 0, .int .i8 0, .int .i8 0, .int .i8 0, .int .i8 0], .int .i16 0] 8 (by kernel_rfl) (by kernel_rfl) (by kernel_rfl) (by kernel_rfl) (by kernel_rfl) (by kernel_rfl) (laid_met os _)) ?_
  intro W base args ds gs before hval hW hx hsh
  refine law_calls (E := env) (b0 := base) (Ts := [.st (.pair (.int .i8) (.pair (.int .i8) (.pair (.int .i8) (.pair (.int .i8) (.int .i8))))), .int .i16]) (tb := 4) env_ok laid_out (of_decide_eq_true (by kernel_rfl)) rfl rfl rfl (by kernel_rfl) rfl ?_ limits_all (tabs_of hsh hx) hval hW
  intro ds hds
  match ds, hds with
  | [d0, d1], _ => rfl
theorem limits_holds : Rows.SchemeLimitsSaid :=
  OpenClaim.holds_of_wide 7 Tryd.f7 rfl rfl rfl rfl rfl rfl rfl ⟨rfl, rfl, rfl, rfl, rfl⟩ rfl rfl rfl rfl rfl (by kernel_rfl) fn_7 (by kernel_rfl)
    (of_decide_eq_true (by kernel_rfl)) (by unfold Func.isWrapper; first | (rw [if_pos (by decide +kernel)]; kernel_rfl) | (rw [if_neg (by decide +kernel)]; exact ⟨rfl, rfl⟩))
    (fun os started H enc _ => limits_lifted os started H enc)
theorem limits_card : Rows.SchemeLimitsCardSaid :=
  Claim7.holds_tied_plain_at .later [] [.data, .data, .data, .data, .pinned] true (true, "34baf661d054b563b50d6273a2529c45ae94fe38806658fc0c33bd088ca5fb84") false
    limits_holds (fun _ h => by cases h) (by kernel_rfl) (fun _ h => by cases h) schemeLimits_row_tie rfl ⟨rfl, rfl⟩ (by kernel_rfl) rfl
    (fun f fn hf hfn => by
      obtain rfl : f = 7 := Option.some.inj ((show Tryd.prog.funcNamed "syllabary/syllabarylaw02.SchemeLimits" = some 7 by kernel_rfl).symm.trans hf) |>.symm
      obtain rfl : fn = Tryd.f7 := (Option.some.inj (fn_7.symm.trans hfn)).symm
      exact ⟨by kernel_rfl, fun j t ht => by
        have hall : (Tryd.f7.params.toList.all fun u => !Tryd.prog.wantsStandIn u) = true := by kernel_rfl
        have hm : t ∈ Tryd.f7.params.toList := Array.mem_toList_iff.2 (Array.mem_of_getElem? ht)
        exact (show Tryd.prog.wantsStandIn t = false by simpa using List.all_eq_true.1 hall t hm)⟩)
    (by kernel_rfl)
end Go.Proofs.YtcmolphllladbaaDoor
