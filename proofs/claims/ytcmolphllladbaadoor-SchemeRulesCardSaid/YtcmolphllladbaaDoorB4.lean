/- Contracts: what the laws lean on. Nothing here is trusted; no condition. -/
import Derived.Test.YtcmolphllladbaaDoorB3
set_option linter.unusedSimpArgs false
set_option linter.unusedVariables false
--SET+ by32, by10, St.ren, permF, Int.reduceEq, not_true_eq_false, not_false_eq_true, false_implies
namespace Go.Proofs.YtcmolphllladbaaDoor
open Go.Lib
set_option maxHeartbeats 4000000
set_option maxRecDepth 100000
def endL (r : Rl) : Str := ruleL r ++ [10]
theorem joinC_end : ∀ (l : List Str), l ≠ [] → joinC 10 (l ++ [[]]) = l.flatMap fun x => x ++ [10]
  | [x], _ => by simp [joinC]
  | x :: y :: l, _ => by
    have ih := joinC_end (y :: l) (by simp)
    rw [List.cons_append, joinC_cons 10 x (by simp), ih]
    simp [List.flatMap_cons]
theorem textE_eq (s : Sch) : textE s = headL s ++ [10] ++ s.2.2.flatMap endL := by
  have h := joinC_end (headL s :: s.2.2.map ruleL) (by simp)
  unfold textE
  rw [List.cons_append] at h
  rw [h, List.flatMap_cons, List.flatMap_map]
  rfl
theorem itoa_len4 {n : Int} (h0 : 0 ≤ n) (h1 : n ≤ 9999) : (itoa n).length ≤ 4 := by
  rw [itoa_dec h0]; exact dec_len 3 n.toNat (by omega)
theorem wrF_len {s : Str} (h : s.length ≤ 4) : (wrF s).length ≤ 4 := by
  unfold wrF; split
  · simp
  · exact h
theorem ruleL_eq (r : Rl) : ruleL r = ruleW ++ 32 :: (itoa r.1 ++ 32 :: (itoa r.2.1 ++ 32 :: (wrF r.2.2.1 ++ 32 :: (wrF r.2.2.2.1 ++ 32 :: itoa r.2.2.2.2)))) := rfl
theorem headL_eq (s : Sch) : headL s = schemeW ++ 32 :: (itoa s.1 ++ 32 :: itoa s.2.1) := rfl
theorem ruleL_len {n : Int} {r : Rl} (h : rightR n r = true) (hn : n ≤ 8) : (ruleL r).length ≤ 40 := by
  obtain ⟨h1, h2, h3, h4, _, _, h7, h8⟩ := right_facts h hn
  have hr := right_nums h
  have a1 := itoa_len4 h1 h2
  have a2 := itoa_len4 h3 h4
  have a3 := itoa_len4 h7 h8
  have a4 := wrF_len hr.2.2.2.2.2.2.1
  have a5 := wrF_len hr.2.2.2.2.2.2.2
  rw [ruleL_eq]
  simp only [List.length_append, List.length_cons, ruleW]
  simp only [List.length_nil]
  omega
theorem headL_len {s : Sch} (hs : OkS s) : (headL s).length ≤ 40 := by
  have hpow := pow256 s.1.toNat (by have := hs.n8; have := hs.n1; omega)
  have h1 := hs.n1
  have h8 := hs.n8
  have ha := hs.a1
  have hb := hs.a2
  have a1 := itoa_len4 (n := s.1) (by omega) (by omega)
  have a2 := itoa_len4 (n := s.2.1) (by omega) (by omega)
  rw [headL_eq]
  simp only [List.length_append, List.length_cons, schemeW]
  simp only [List.length_nil]
  omega
theorem endL_len {n : Int} {l : List Rl} (h : ∀ r, r ∈ l → rightR n r = true) (hn : n ≤ 8) : (l.flatMap endL).length ≤ 41 * l.length := by
  induction l with
  | nil => simp
  | cons r l ih =>
    have := ih fun x hx => h x (List.mem_cons_of_mem _ hx)
    have h2 := ruleL_len (h r (List.mem_cons_self ..)) hn
    simp only [List.flatMap_cons, List.length_append, List.length_cons, endL, List.length_nil] at this ⊢
    omega
theorem c_Print2 (s : Sch) : PC env 16 [⟨SchemeT, s⟩] .str (printE s) := by
  refine PC.of_PW (m := 2000) env_ok fn_16 rfl rfl rfl rfl (by kernel_rfl) ?_; intro hx; simp only [Tryd.f16]; simp only [go_sem, Nat.reduceBEq, ↓reduceIte, ↓reduceDIte, Nat.reduceAdd, Nat.reduceSub, Nat.reduceMul, Nat.reduceLeDiff, ← Bool.decide_and, ← Bool.decide_or, ← decide_not, Int.reduceLT, Int.reduceLE, Int.reduceToNat, Int.reduceNeg, by32, by10, St.ren, permF, Int.reduceEq, not_true_eq_false, not_false_eq_true, false_implies]
  refine ⟨_, c_Valid2 s, ?_⟩
  by_cases hv : (checkE s).2 = 0
  · rw [decide_eq_true hv]
    refine PB_cast (b' := false) rfl ?_
    simp only [go_sem, Nat.reduceBEq, ↓reduceIte, ↓reduceDIte, Nat.reduceAdd, Nat.reduceSub, Nat.reduceMul, Nat.reduceLeDiff, ← Bool.decide_and, ← Bool.decide_or, ← decide_not, Int.reduceLT, Int.reduceLE, Int.reduceToNat, Int.reduceNeg, by32, by10, St.ren, permF, Int.reduceEq, not_true_eq_false, not_false_eq_true, false_implies]
    have hs := check_ok hv
    have hE : printE s = headL s ++ [10] ++ s.2.2.flatMap endL := by unfold printE; rw [if_pos hv, textE_eq]
    rw [hE]
    have h1 := hs.n1
    have h8 := hs.n8
    have ha := hs.a1
    have hb := hs.a2
    have hpow := pow256 s.1.toNat (by omega)
    have b1 := itoa_len4 (n := s.1) (by omega) (by omega)
    have b2 := itoa_len4 (n := s.2.1) (by omega) (by omega)
    have e7 : (bytesOf ⟨#[115, 99, 104, 101, 109, 101, 32]⟩).length = 7 := rfl
    refine ⟨_, c_Decimal (n := s.1) (by omega) (by omega), fun _ => ⟨by omega, by rw [List.length_append]; omega, _, c_Decimal (n := s.2.1) (by omega) (by omega), fun _ => ⟨by simp only [List.length_append, List.length_cons, List.length_nil]; omega, by simp only [List.length_append, List.length_cons, List.length_nil]; omega, ?_⟩⟩⟩
    have hE1 : bytesOf ⟨#[115, 99, 104, 101, 109, 101, 32]⟩ ++ itoa s.1 ++ [32] ++ itoa s.2.1 ++ [10] = headL s ++ [10] := by
      rw [headL_eq, show bytesOf ⟨#[115, 99, 104, 101, 109, 101, 32]⟩ = schemeW ++ [32] from rfl]
      simp
    have hE0 : headL s ++ [10] = headL s ++ [10] ++ (s.2.2.take 0).flatMap endL := by simp
    rw [hE1]
    rw [hE0]
    have hhl := headL_len hs
    have hlen := hs.len
    refine Walks.loopA (X := Nat) (fun (z : Nat) => [(4, .iv (.int .i64) (z : Int)), (3, .iv .str (headL s ++ [10] ++ (s.2.2.take z).flatMap endL)), (5, .any)]) (fun (z : Nat) => []) (fun (z : Nat) => z ≤ s.2.2.length) (fun (z : Nat) => s.2.2.length - z) 0 ?_; intro b1 b2 hb1 hb2; simp (config := {maxSteps := 4000000}) only [go_sem, Nat.reduceBEq, ↓reduceIte, ↓reduceDIte, Nat.reduceAdd, Nat.reduceSub, Nat.reduceMul, Nat.reduceLeDiff, ← Bool.decide_and, ← Bool.decide_or, ← decide_not, Int.reduceLT, Int.reduceLE, Int.reduceToNat, Int.reduceNeg, by32, by10, St.ren, permF, Int.reduceEq, not_true_eq_false, not_false_eq_true, false_implies] at hb1 hb2; subst hb1; subst hb2; refine ⟨(by refine ⟨?_, ?_, rfl, rfl⟩ <;> repeat' (first | exact trivial | exact Or.inl rfl | exact Or.inr rfl | (refine And.intro (Or.inl rfl) ?_) | (refine And.intro (Or.inr (Or.inl rfl)) ?_) | (refine And.intro (Or.inr (Or.inr (Or.inr ⟨rfl, rfl⟩))) ?_) | (refine And.intro (Or.inr (Or.inr (Or.inl ⟨rfl, rfl, trivial⟩))) ?_) | exact ⟨(by show (_ : Nat) < 1000000000; omega), rfl, rfl⟩ | rfl | (refine And.intro (Or.inl ?_) ?_) | (refine And.intro ?_ ?_))), ?_, ?_⟩
    · exact Nat.zero_le _
    intro i hi back
    refine PW_sound env_ok ⟨_, fn_16, rfl⟩ 2000 _ _ (by kernel_rfl) ?_; simp only [go_sem, Nat.reduceBEq, ↓reduceIte, ↓reduceDIte, Nat.reduceAdd, Nat.reduceSub, Nat.reduceMul, Nat.reduceLeDiff, ← Bool.decide_and, ← Bool.decide_or, ← decide_not, Int.reduceLT, Int.reduceLE, Int.reduceToNat, Int.reduceNeg, by32, by10, St.ren, permF, Int.reduceEq, not_true_eq_false, not_false_eq_true, false_implies]
    refine ⟨fun g => ?_, fun g => ?_⟩
    · obtain ⟨r, hr⟩ : ∃ r, s.2.2[i]? = some r := get_of_lt (by omega)
      have hrr := hs.right r (List.mem_of_getElem? hr)
      obtain ⟨k1, k2, k3, k4, k5, k6, k7, k8⟩ := right_facts hrr h8
      have hll := endL_len (l := s.2.2.take i) (fun x hx => hs.right x (List.mem_of_mem_take hx)) h8
      have htl := List.length_take_le i s.2.2
      refine ⟨Int.natCast_nonneg _, r, hr, _, c_Decimal (n := r.1) k1 (by omega), fun _ => ?_⟩
      have a1 := itoa_len4 (n := r.1) k1 k2
      have a2 := itoa_len4 (n := r.2.1) k3 k4
      have a3 := itoa_len4 (n := r.2.2.2.2) k7 k8
      have rn := right_nums hrr
      have a4 := wrF_len rn.2.2.2.2.2.2.1
      have a5 := wrF_len rn.2.2.2.2.2.2.2
      have e5 : (bytesOf ⟨#[114, 117, 108, 101, 32]⟩).length = 5 := rfl
      have hE2 : (headL s ++ [10] ++ (s.2.2.take i).flatMap endL) ++ (bytesOf ⟨#[114, 117, 108, 101, 32]⟩ ++ itoa r.1 ++ [32] ++ itoa r.2.1 ++ [32] ++ wrF r.2.2.1 ++ [32] ++ wrF r.2.2.2.1 ++ [32] ++ itoa r.2.2.2.2 ++ [10]) = headL s ++ [10] ++ (s.2.2.take (i + 1)).flatMap endL := by
        rw [take_snoc hr, List.flatMap_append, show bytesOf ⟨#[114, 117, 108, 101, 32]⟩ = ruleW ++ [32] from rfl]
        simp [endL, ruleL_eq]
      refine ⟨by omega, by simp only [List.length_append, List.length_cons, List.length_nil]; omega, _, c_Decimal (n := r.2.1) k3 (by omega), fun _ => ⟨by simp only [List.length_append, List.length_cons, List.length_nil]; omega, by simp only [List.length_append, List.length_cons, List.length_nil]; omega, _, c_field r.2.2.1, fun _ => ⟨by simp only [List.length_append, List.length_cons, List.length_nil]; omega, by simp only [List.length_append, List.length_cons, List.length_nil]; omega, _, c_field r.2.2.2.1, fun _ => ⟨by simp only [List.length_append, List.length_cons, List.length_nil]; omega, by simp only [List.length_append, List.length_cons, List.length_nil]; omega, _, c_Decimal (n := r.2.2.2.2) k7 (by omega), fun _ => ?_⟩⟩⟩⟩
      refine ⟨by simp only [List.length_append, List.length_cons, List.length_nil]; omega, by simp only [List.length_append, List.length_cons, List.length_nil]; omega, by simp only [List.length_append, List.length_cons, List.length_nil]; omega, i64_ok (by omega) (by omega), ?_⟩
      rw [hE2]
      exact back _ (i + 1) (by refine ⟨?_, ?_, rfl, rfl⟩ <;> repeat' (first | exact trivial | exact Or.inl rfl | exact Or.inr rfl | (refine And.intro (Or.inl rfl) ?_) | (refine And.intro (Or.inr (Or.inl rfl)) ?_) | (refine And.intro (Or.inr (Or.inr (Or.inr ⟨rfl, rfl⟩))) ?_) | (refine And.intro (Or.inr (Or.inr (Or.inl ⟨rfl, rfl, trivial⟩))) ?_) | exact ⟨(by show (_ : Nat) < 1000000000; omega), rfl, rfl⟩ | rfl | (refine And.intro (Or.inl ?_) ?_) | (refine And.intro ?_ ?_))) (by omega) (by omega)
    · rw [List.take_of_length_le (by omega)]
      simp
  · rw [decide_eq_false hv]
    refine PB_cast (b' := true) rfl ?_
    simp only [go_sem, Nat.reduceBEq, ↓reduceIte, ↓reduceDIte, Nat.reduceAdd, Nat.reduceSub, Nat.reduceMul, Nat.reduceLeDiff, ← Bool.decide_and, ← Bool.decide_or, ← decide_not, Int.reduceLT, Int.reduceLE, Int.reduceToNat, Int.reduceNeg, by32, by10, St.ren, permF, Int.reduceEq, not_true_eq_false, not_false_eq_true, false_implies]
    unfold printE
    rw [if_neg hv]
    rfl
theorem c_Print (s : Sch) : PC env 15 [⟨SchemeT, s⟩] .str (printE s) := by
  refine PC.of_PW (m := 2000) env_ok fn_15 rfl rfl rfl rfl (by kernel_rfl) ?_; intro hx; simp only [Tryd.f15]; simp only [go_sem, Nat.reduceBEq, ↓reduceIte, ↓reduceDIte, Nat.reduceAdd, Nat.reduceSub, Nat.reduceMul, Nat.reduceLeDiff, ← Bool.decide_and, ← Bool.decide_or, ← decide_not, Int.reduceLT, Int.reduceLE, Int.reduceToNat, Int.reduceNeg, by32, by10, St.ren, permF, Int.reduceEq, not_true_eq_false, not_false_eq_true, false_implies]
  refine ⟨_, c_Valid s, ?_⟩
  by_cases hv : (checkE s).2 = 0
  · rw [decide_eq_true hv]
    refine PB_cast (b' := false) rfl ?_
    simp only [go_sem, Nat.reduceBEq, ↓reduceIte, ↓reduceDIte, Nat.reduceAdd, Nat.reduceSub, Nat.reduceMul, Nat.reduceLeDiff, ← Bool.decide_and, ← Bool.decide_or, ← decide_not, Int.reduceLT, Int.reduceLE, Int.reduceToNat, Int.reduceNeg, by32, by10, St.ren, permF, Int.reduceEq, not_true_eq_false, not_false_eq_true, false_implies]
    have hs := check_ok hv
    have hE : printE s = headL s ++ [10] ++ s.2.2.flatMap endL := by unfold printE; rw [if_pos hv, textE_eq]
    rw [hE]
    have h1 := hs.n1
    have h8 := hs.n8
    have ha := hs.a1
    have hb := hs.a2
    have hpow := pow256 s.1.toNat (by omega)
    have b1 := itoa_len4 (n := s.1) (by omega) (by omega)
    have b2 := itoa_len4 (n := s.2.1) (by omega) (by omega)
    have e7 : (bytesOf ⟨#[115, 99, 104, 101, 109, 101, 32]⟩).length = 7 := rfl
    have hX : (bytesOf ⟨#[115, 99, 104, 101, 109, 101, 32]⟩ ++ itoa s.1 ++ [32] ++ itoa s.2.1 ++ [10]).length ≤ 1000000000 := by simp only [List.length_append, List.length_cons, List.length_nil]; omega
    have hE1 : bytesOf ⟨#[115, 99, 104, 101, 109, 101, 32]⟩ ++ itoa s.1 ++ [32] ++ itoa s.2.1 ++ [10] = headL s ++ [10] := by
      rw [headL_eq, show bytesOf ⟨#[115, 99, 104, 101, 109, 101, 32]⟩ = schemeW ++ [32] from rfl]
      simp
    have kW := h_writeF _ hX
    have kI1 := c_Itoa s.1
    have kI2 := c_Itoa s.2.1
    apply Walks.shareX (X := Unit) (fun _ => ⟨[(25, .iv (.int .i64) (0 : Int)), (24, .iv (.int .i64) (s.2.2.length : Int)), (23, .iv (.sl RuleT) s.2.2), (3, .ref 3 0), (1, .ref 1 0), (2, .iv .str ([] : Str))], [(3, .box [.ref 3 0, .lfull 2200014] (some 70)), (2200014, .arr (.int .u8) (toI (bytesOf ⟨#[115, 99, 104, 101, 109, 101, 32]⟩ ++ itoa s.1 ++ [32] ++ itoa s.2.1 ++ [10])) (some 5)), (1, .box [.iv (.int .i64) s.1, .iv (.int .u8) s.2.1, .iv (.sl RuleT) s.2.2])]⟩) (fun _ => True)
    · intro key
      repeat' (first | (with_reducible intro _) | (with_reducible apply And.intro) | (with_reducible refine ⟨_, kI1, ?_⟩; try simp only [go_sem, Nat.reduceBEq, ↓reduceIte, ↓reduceDIte, Nat.reduceAdd, Nat.reduceSub, Nat.reduceMul, Nat.reduceLeDiff, ← Bool.decide_and, ← Bool.decide_or, ← decide_not, Int.reduceLT, Int.reduceLE, Int.reduceToNat, Int.reduceNeg, by32, by10, St.ren, permF, Int.reduceEq, not_true_eq_false, not_false_eq_true, false_implies]) | (with_reducible refine ⟨_, kI2, ?_⟩; try simp only [go_sem, Nat.reduceBEq, ↓reduceIte, ↓reduceDIte, Nat.reduceAdd, Nat.reduceSub, Nat.reduceMul, Nat.reduceLeDiff, ← Bool.decide_and, ← Bool.decide_or, ← decide_not, Int.reduceLT, Int.reduceLE, Int.reduceToNat, Int.reduceNeg, by32, by10, St.ren, permF, Int.reduceEq, not_true_eq_false, not_false_eq_true, false_implies]) | (with_reducible refine ⟨_, _, kW, rfl, ?_⟩; try simp only [go_sem, Nat.reduceBEq, ↓reduceIte, ↓reduceDIte, Nat.reduceAdd, Nat.reduceSub, Nat.reduceMul, Nat.reduceLeDiff, ← Bool.decide_and, ← Bool.decide_or, ← decide_not, Int.reduceLT, Int.reduceLE, Int.reduceToNat, Int.reduceNeg, by32, by10, St.ren, permF, Int.reduceEq, not_true_eq_false, not_false_eq_true, false_implies]) | fail)
      all_goals first
        | omega
        | (simp only [List.length_append, List.length_cons, List.length_nil]; omega)
        | exact key _ () trivial (by refine ⟨?_, ?_, rfl, rfl⟩ <;> repeat' (first | exact trivial | exact Or.inl rfl | exact Or.inr rfl | (refine And.intro (Or.inl rfl) ?_) | (refine And.intro (Or.inr (Or.inl rfl)) ?_) | (refine And.intro (Or.inr (Or.inr (Or.inr ⟨rfl, rfl⟩))) ?_) | (refine And.intro (Or.inr (Or.inr (Or.inl ⟨rfl, rfl, trivial⟩))) ?_) | exact ⟨(by show (_ : Nat) < 1000000000; omega), rfl, rfl⟩ | rfl | (refine And.intro (Or.inl ?_) ?_) | (refine And.intro ?_ ?_)))
        | skip
    intro _ _
    rw [hE1]
    have hE0 : headL s ++ [10] = headL s ++ [10] ++ (s.2.2.take 0).flatMap endL := by simp
    have hhl := headL_len hs
    have hlen := hs.len
    refine Walks.ren [(2200014, 1000), (1000, 2200014)] rfl ?_
    simp only [go_sem, Nat.reduceBEq, ↓reduceIte, ↓reduceDIte, Nat.reduceAdd, Nat.reduceSub, Nat.reduceMul, Nat.reduceLeDiff, ← Bool.decide_and, ← Bool.decide_or, ← decide_not, Int.reduceLT, Int.reduceLE, Int.reduceToNat, Int.reduceNeg, by32, by10, St.ren, permF, Int.reduceEq, not_true_eq_false, not_false_eq_true, false_implies]
    obtain ⟨T, hT⟩ : ∃ T, T = headL s ++ [10] ++ s.2.2.flatMap endL := ⟨_, rfl⟩
    rw [← hT, hE0]
    refine Walks.loopA (X := Nat) (fun (z : Nat) => [(25, .iv (.int .i64) (z : Int)), (5, .any), (6, .any)]) (fun (z : Nat) => [(3, .box [.ref 3 0, .lfull 1000] (some 70)), (1000, .arr (.int .u8) (toI (headL s ++ [10] ++ (s.2.2.take z).flatMap endL)) (some 5))]) (fun (z : Nat) => z ≤ s.2.2.length) (fun (z : Nat) => s.2.2.length - z) 0 ?_; intro b1 b2 hb1 hb2; simp (config := {maxSteps := 4000000}) only [go_sem, Nat.reduceBEq, ↓reduceIte, ↓reduceDIte, Nat.reduceAdd, Nat.reduceSub, Nat.reduceMul, Nat.reduceLeDiff, ← Bool.decide_and, ← Bool.decide_or, ← decide_not, Int.reduceLT, Int.reduceLE, Int.reduceToNat, Int.reduceNeg, by32, by10, St.ren, permF, Int.reduceEq, not_true_eq_false, not_false_eq_true, false_implies] at hb1 hb2; subst hb1; subst hb2; refine ⟨(by refine ⟨?_, ?_, rfl, rfl⟩ <;> repeat' (first | exact trivial | exact Or.inl rfl | exact Or.inr rfl | (refine And.intro (Or.inl rfl) ?_) | (refine And.intro (Or.inr (Or.inl rfl)) ?_) | (refine And.intro (Or.inr (Or.inr (Or.inr ⟨rfl, rfl⟩))) ?_) | (refine And.intro (Or.inr (Or.inr (Or.inl ⟨rfl, rfl, trivial⟩))) ?_) | exact ⟨(by show (_ : Nat) < 1000000000; omega), rfl, rfl⟩ | rfl | (refine And.intro (Or.inl ?_) ?_) | (refine And.intro ?_ ?_))), ?_, ?_⟩
    · exact Nat.zero_le _
    intro i hi back
    refine PW_sound env_ok ⟨_, fn_15, rfl⟩ 2000 _ _ (by kernel_rfl) ?_; simp only [go_sem, Nat.reduceBEq, ↓reduceIte, ↓reduceDIte, Nat.reduceAdd, Nat.reduceSub, Nat.reduceMul, Nat.reduceLeDiff, ← Bool.decide_and, ← Bool.decide_or, ← decide_not, Int.reduceLT, Int.reduceLE, Int.reduceToNat, Int.reduceNeg, by32, by10, St.ren, permF, Int.reduceEq, not_true_eq_false, not_false_eq_true, false_implies]
    have hll := endL_len (l := s.2.2.take i) (fun x hx => hs.right x (List.mem_of_mem_take hx)) h8
    have htl := List.length_take_le i s.2.2
    refine ⟨fun g => ?_, fun g => ?_⟩
    · obtain ⟨r, hr⟩ : ∃ r, s.2.2[i]? = some r := get_of_lt (by omega)
      have hrr := hs.right r (List.mem_of_getElem? hr)
      have hrl := ruleL_len hrr h8
      refine ⟨Int.natCast_nonneg _, r, hr, _, c_Itoa r.1, fun _ => ⟨_, c_Itoa r.2.1, fun _ => ⟨_, c_written r.2.2.1, fun _ => ⟨_, c_written r.2.2.2.1, fun _ => ⟨_, c_Itoa r.2.2.2.2, fun _ => ?_⟩⟩⟩⟩⟩
      have kJ : PC env 37 [⟨.sl .str, [bytesOf ⟨#[114, 117, 108, 101]⟩, itoa r.1, itoa r.2.1, wrF r.2.2.1, wrF r.2.2.2.1, itoa r.2.2.2.2]⟩, ⟨.str, [32]⟩] .str (ruleL r) := by
        have e : Lib.join [bytesOf ⟨#[114, 117, 108, 101]⟩, itoa r.1, itoa r.2.1, wrF r.2.2.1, wrF r.2.2.2.1, itoa r.2.2.2.2] [32] = ruleL r := join_joinC 32 _
        have := c_Join [bytesOf ⟨#[114, 117, 108, 101]⟩, itoa r.1, itoa r.2.1, wrF r.2.2.1, wrF r.2.2.2.1, itoa r.2.2.2.2] [32] (by simp only [List.length_cons, List.length_nil]; omega) (by rw [e]; omega)
        rw [e] at this
        exact this
      have hb : (toI (headL s ++ [10] ++ (s.2.2.take i).flatMap endL)).length + (ruleL r ++ [10]).length ≤ 1000000000 := by
        unfold toI
        simp only [List.length_map, List.length_append, List.length_cons, List.length_nil]
        omega
      refine ⟨_, kJ, fun _ => ⟨by omega, _, _, h_writeU _ _ hb, rfl, ?_⟩⟩
      simp only [go_sem, Nat.reduceBEq, ↓reduceIte, ↓reduceDIte, Nat.reduceAdd, Nat.reduceSub, Nat.reduceMul, Nat.reduceLeDiff, ← Bool.decide_and, ← Bool.decide_or, ← decide_not, Int.reduceLT, Int.reduceLE, Int.reduceToNat, Int.reduceNeg, by32, by10, St.ren, permF, Int.reduceEq, not_true_eq_false, not_false_eq_true, false_implies]
      intro _
      refine ⟨i64_ok (by omega) (by omega), ?_⟩
      refine Walks.ren [(4900014, 1000), (1000, 4900014)] rfl ?_
      simp only [go_sem, Nat.reduceBEq, ↓reduceIte, ↓reduceDIte, Nat.reduceAdd, Nat.reduceSub, Nat.reduceMul, Nat.reduceLeDiff, ← Bool.decide_and, ← Bool.decide_or, ← decide_not, Int.reduceLT, Int.reduceLE, Int.reduceToNat, Int.reduceNeg, by32, by10, St.ren, permF, Int.reduceEq, not_true_eq_false, not_false_eq_true, false_implies]
      have hE2 : toI (headL s ++ [10] ++ (s.2.2.take i).flatMap endL) ++ toI (ruleL r ++ [10]) = toI (headL s ++ [10] ++ (s.2.2.take (i + 1)).flatMap endL) := by
        rw [← toI_app, take_snoc hr, List.flatMap_append]
        simp [endL]
      rw [hE2]
      exact back _ (i + 1) (by refine ⟨?_, ?_, rfl, rfl⟩ <;> repeat' (first | exact trivial | exact Or.inl rfl | exact Or.inr rfl | (refine And.intro (Or.inl rfl) ?_) | (refine And.intro (Or.inr (Or.inl rfl)) ?_) | (refine And.intro (Or.inr (Or.inr (Or.inr ⟨rfl, rfl⟩))) ?_) | (refine And.intro (Or.inr (Or.inr (Or.inl ⟨rfl, rfl, trivial⟩))) ?_) | exact ⟨(by show (_ : Nat) < 1000000000; omega), rfl, rfl⟩ | rfl | (refine And.intro (Or.inl ?_) ?_) | (refine And.intro ?_ ?_))) (by omega) (by omega)
    · refine ⟨_, _, h_strU _, rfl, ?_⟩
      rw [toS_toI, List.take_of_length_le (by omega), ← hT]
      simp only [go_sem, Nat.reduceBEq, ↓reduceIte, ↓reduceDIte, Nat.reduceAdd, Nat.reduceSub, Nat.reduceMul, Nat.reduceLeDiff, ← Bool.decide_and, ← Bool.decide_or, ← decide_not, Int.reduceLT, Int.reduceLE, Int.reduceToNat, Int.reduceNeg, by32, by10, St.ren, permF, Int.reduceEq, not_true_eq_false, not_false_eq_true, false_implies]
      exact fun _ _ => trivial
  · rw [decide_eq_false hv]
    refine PB_cast (b' := true) rfl ?_
    simp only [go_sem, Nat.reduceBEq, ↓reduceIte, ↓reduceDIte, Nat.reduceAdd, Nat.reduceSub, Nat.reduceMul, Nat.reduceLeDiff, ← Bool.decide_and, ← Bool.decide_or, ← decide_not, Int.reduceLT, Int.reduceLE, Int.reduceToNat, Int.reduceNeg, by32, by10, St.ren, permF, Int.reduceEq, not_true_eq_false, not_false_eq_true, false_implies]
    unfold printE
    rw [if_neg hv]
    rfl
end Go.Proofs.YtcmolphllladbaaDoor
--SET+ by32, by10, Int.reduceEq, not_true_eq_false, not_false_eq_true, false_implies
namespace Go.Proofs.YtcmolphllladbaaDoor
open Go.Lib
set_option maxHeartbeats 4000000
set_option maxRecDepth 100000
theorem rightAt_ok {s : Sch} (hs : OkS s) {i : Nat} (hi : i < s.2.2.length) : rightAt s.1 s.2.2 i = true := by
  obtain ⟨r, hr⟩ : ∃ r, s.2.2[i]? = some r := get_of_lt hi
  unfold rightAt
  rw [hr]
  dsimp only
  rw [Bool.and_eq_true, decide_eq_true_eq]
  refine ⟨fun hm => ?_, hs.right r (List.mem_of_getElem? hr)⟩
  obtain ⟨j, hj⟩ := List.getElem?_of_mem hm
  have hji : j < i := by
    have := (List.getElem?_eq_some_iff.1 hj).1
    rw [List.length_take] at this; omega
  rw [List.getElem?_take_of_lt hji] at hj
  obtain ⟨h1, e1⟩ := List.getElem?_eq_some_iff.1 hj
  obtain ⟨h2, e2⟩ := List.getElem?_eq_some_iff.1 hr
  exact List.pairwise_iff_getElem.1 hs.nodup j i h1 h2 hji (by rw [e1, e2])
theorem chkL_all {n : Int} {l : List Rl} : ∀ {k i : Nat}, (∀ j, i ≤ j → j < i + k → rightAt n l j = true) → chkL n l k i = ((l.length : Int), 0)
  | 0, i, _ => rfl
  | k + 1, i, h => by
    unfold chkL
    rw [if_pos (h i (Nat.le_refl _) (by omega))]
    exact chkL_all fun j h1 h2 => h j (by omega) (by omega)
theorem head_ok {s : Sch} (hs : OkS s) : headB s = true := by
  simp only [headB, inB, Bool.and_eq_true, decide_eq_true_eq]
  exact ⟨⟨⟨hs.n1, hs.n8⟩, hs.a1, hs.a2⟩, hs.len⟩
theorem ok_check {s : Sch} (hs : OkS s) : checkE s = ((s.2.2.length : Int), 0) := by
  unfold checkE
  rw [if_pos (head_ok hs)]
  exact chkL_all fun j _ h => rightAt_ok hs (by omega)
theorem chkL_at {n : Int} {l : List Rl} {w : Nat} : ∀ {k i : Nat}, i ≤ w → w < i + k → (∀ j, i ≤ j → j < w → rightAt n l j = true) → rightAt n l w = false → chkL n l k i = ((w : Int), 20)
  | 0, i, h1, h2, _, _ => by omega
  | k + 1, i, h1, h2, h3, h4 => by
    unfold chkL
    by_cases hi : i = w
    · subst hi
      rw [if_neg (by rw [h4]; simp)]
    · rw [if_pos (h3 i (Nat.le_refl _) (by omega))]
      exact chkL_at (by omega) (by omega) (fun j a b => h3 j (by omega) b) h4
theorem c_refuses (s : Sch) (at_ : Int) : PC env 20 [⟨SchemeT, s⟩, ⟨.int .i64, at_⟩] .bool (decide (checkE s = (at_, 20))) := by
  refine PC.of_PW (m := 2000) env_ok fn_20 rfl rfl rfl rfl (by kernel_rfl) ?_; intro hx; simp only [Tryd.f20]; simp only [go_sem, Nat.reduceBEq, ↓reduceIte, ↓reduceDIte, Nat.reduceAdd, Nat.reduceSub, Nat.reduceMul, Nat.reduceLeDiff, ← Bool.decide_and, ← Bool.decide_or, ← decide_not, Int.reduceLT, Int.reduceLE, Int.reduceToNat, Int.reduceNeg, by32, by10, Int.reduceEq, not_true_eq_false, not_false_eq_true, false_implies]
  refine ⟨_, c_Check s, fun _ => ⟨fun h1 => ⟨fun h2 => ⟨_, c_Valid s, ?_⟩, fun h2 => ?_⟩, fun h1 => ?_⟩⟩
  · rw [decide_eq_false (show ¬ (checkE s).2 = 0 from by rw [h2]; decide)]
    exact (decide_eq_true (Prod.ext h1 h2)).symm
  · exact (decide_eq_false (fun e => h2 (by rw [e]))).symm
  · exact (decide_eq_false (fun e => h1 (by rw [e]))).symm
def readsB (s : Str) (at_ want : Int) : Bool := decide (parseE s = ((0, 0, []), at_, want))
theorem c_reads (s : Str) (at_ want : Int) (hs : s.length ≤ 1000000000) : PC env 27 [⟨.str, s⟩, ⟨.int .i64, at_⟩, ⟨.int .i64, want⟩] .bool (readsB s at_ want) := by
  refine PC.of_PW (m := 2000) env_ok fn_27 rfl rfl rfl rfl (by kernel_rfl) ?_; intro hx; simp only [Tryd.f27]; simp only [go_sem, Nat.reduceBEq, ↓reduceIte, ↓reduceDIte, Nat.reduceAdd, Nat.reduceSub, Nat.reduceMul, Nat.reduceLeDiff, ← Bool.decide_and, ← Bool.decide_or, ← decide_not, Int.reduceLT, Int.reduceLE, Int.reduceToNat, Int.reduceNeg, by32, by10, Int.reduceEq, not_true_eq_false, not_false_eq_true, false_implies]
  refine ⟨_, c_Parse s hs, fun _ => ⟨_, c_Same2 _ _, ?_⟩⟩
  simp only [go_sem, Nat.reduceBEq, ↓reduceIte, ↓reduceDIte, Nat.reduceAdd, Nat.reduceSub, Nat.reduceMul, Nat.reduceLeDiff, ← Bool.decide_and, ← Bool.decide_or, ← decide_not, Int.reduceLT, Int.reduceLE, Int.reduceToNat, Int.reduceNeg, by32, by10, Int.reduceEq, not_true_eq_false, not_false_eq_true, false_implies]
  unfold readsB
  refine ⟨fun h1 => ⟨fun h2 => decide_eq_decide.2 ⟨fun h3 => Prod.ext h1 (Prod.ext h2 h3), fun h3 => by rw [h3]⟩, fun h2 => (decide_eq_false fun h3 => h2 (by rw [h3])).symm⟩, fun h1 => (decide_eq_false fun h3 => h1 (by rw [h3])).symm⟩
def inputE (l : List Int) (n : Int) : Str := (l.take n.toNat).flatMap abcAt
theorem c_Input (l : List Int) (n : Int) (hn : 0 ≤ n ∧ n ≤ 1000) : PC env 22 [⟨.sl (.int .u8), l⟩, ⟨.int .i64, n⟩] .str (inputE l n) := by
  refine PC.of_PW (m := 2000) env_ok fn_22 rfl rfl rfl rfl (by kernel_rfl) ?_; intro hx; simp only [Tryd.f22]; simp only [go_sem, Nat.reduceBEq, ↓reduceIte, ↓reduceDIte, Nat.reduceAdd, Nat.reduceSub, Nat.reduceMul, Nat.reduceLeDiff, ← Bool.decide_and, ← Bool.decide_or, ← decide_not, Int.reduceLT, Int.reduceLE, Int.reduceToNat, Int.reduceNeg, by32, by10, Int.reduceEq, not_true_eq_false, not_false_eq_true, false_implies]
  have hxi : ∀ u, u ∈ l → 0 ≤ u ∧ u ≤ 255 := fun u hu => u8_of (hx.1.2 u hu)
  have abcs : ∀ u : Int, 0 ≤ u → (([97, 98, 99] : Str).drop (u % 3).toNat).take ((u % 3 + 1).toNat - (u % 3).toNat) = abcAt u := by
    intro u hu
    rw [show (u % 3 + 1).toNat - (u % 3).toNat = 1 by omega]; rfl
  have abcl : ∀ l : List Int, (l.flatMap abcAt).length ≤ l.length := by
    intro l
    induction l with
    | nil => simp
    | cons x l ih => simp only [List.flatMap_cons, List.length_append, List.length_cons, abcAt, List.length_take]; omega
  refine Walks.loopA (X := Nat) (fun (i : Nat) => [(6, .iv (.int .i64) (i : Int)), (5, .iv .str ((l.take i).flatMap abcAt))]) (fun (i : Nat) => []) (fun (i : Nat) => i ≤ l.length ∧ i ≤ n.toNat) (fun (i : Nat) => l.length - i) 0 ?_; intro b1 b2 hb1 hb2; simp (config := {maxSteps := 4000000}) only [go_sem, Nat.reduceBEq, ↓reduceIte, ↓reduceDIte, Nat.reduceAdd, Nat.reduceSub, Nat.reduceMul, Nat.reduceLeDiff, ← Bool.decide_and, ← Bool.decide_or, ← decide_not, Int.reduceLT, Int.reduceLE, Int.reduceToNat, Int.reduceNeg, by32, by10, Int.reduceEq, not_true_eq_false, not_false_eq_true, false_implies] at hb1 hb2; subst hb1; subst hb2; refine ⟨(by refine ⟨?_, ?_, rfl, rfl⟩ <;> repeat' (first | exact trivial | exact Or.inl rfl | exact Or.inr rfl | (refine And.intro (Or.inl rfl) ?_) | (refine And.intro (Or.inr (Or.inl rfl)) ?_) | (refine And.intro (Or.inr (Or.inr (Or.inr ⟨rfl, rfl⟩))) ?_) | (refine And.intro (Or.inr (Or.inr (Or.inl ⟨rfl, rfl, trivial⟩))) ?_) | exact ⟨(by show (_ : Nat) < 1000000000; omega), rfl, rfl⟩ | rfl | (refine And.intro (Or.inl ?_) ?_) | (refine And.intro ?_ ?_))), ?_, ?_⟩
  · exact ⟨Nat.zero_le _, Nat.zero_le _⟩
  intro i ⟨hi, hin⟩ back
  refine PW_sound env_ok ⟨_, fn_22, rfl⟩ 2000 _ _ (by kernel_rfl) ?_; simp only [go_sem, Nat.reduceBEq, ↓reduceIte, ↓reduceDIte, Nat.reduceAdd, Nat.reduceSub, Nat.reduceMul, Nat.reduceLeDiff, ← Bool.decide_and, ← Bool.decide_or, ← decide_not, Int.reduceLT, Int.reduceLE, Int.reduceToNat, Int.reduceNeg, by32, by10, Int.reduceEq, not_true_eq_false, not_false_eq_true, false_implies]
  have hin2 : (l.take i).length ≤ i := List.length_take_le _ _
  have fl := abcl (l.take i)
  have fin : ¬ ((i : Int) < l.length ∧ (i : Int) < n) → (l.take i).flatMap abcAt = inputE l n := fun h => by
    unfold inputE
    by_cases h2 : i = n.toNat
    · rw [h2]
    · have : i = l.length := by omega
      rw [List.take_of_length_le (by omega), List.take_of_length_le (by omega)]
  refine ⟨fun g1 => ⟨fun g2 => ?_, fun g2 => fin (by omega)⟩, fun g1 => fin (by omega)⟩
  obtain ⟨u, hu⟩ : ∃ u, l[i]? = some u := get_of_lt (by omega)
  have hu0 := hxi u (List.mem_of_getElem? hu)
  have t1 : Int.tmod u 3 = u % 3 := Int.tmod_eq_emod_of_nonneg hu0.1
  have i0 := Int.natCast_nonneg i
  have e3 : (bytesOf ⟨#[97, 98, 99]⟩ : Str) = [97, 98, 99] := rfl
  refine ⟨i0, u, hu, i0, u, hu, ?_⟩
  rw [t1, e3, abcs u hu0.1]
  refine ⟨⟨by omega, by omega⟩, ⟨by omega, by omega, by simp only [List.length_cons, List.length_nil]; omega⟩, ?_, i64_ok (by omega) (by omega), ?_⟩
  · have : (abcAt u).length ≤ 1 := by unfold abcAt; rw [List.length_take]; omega
    omega
  · have e : (l.take i).flatMap abcAt ++ abcAt u = (l.take (i + 1)).flatMap abcAt := by rw [take_snoc hu, List.flatMap_append]; simp
    rw [e]
    exact back _ (i + 1) (by refine ⟨?_, ?_, rfl, rfl⟩ <;> repeat' (first | exact trivial | exact Or.inl rfl | exact Or.inr rfl | (refine And.intro (Or.inl rfl) ?_) | (refine And.intro (Or.inr (Or.inl rfl)) ?_) | (refine And.intro (Or.inr (Or.inr (Or.inr ⟨rfl, rfl⟩))) ?_) | (refine And.intro (Or.inr (Or.inr (Or.inl ⟨rfl, rfl, trivial⟩))) ?_) | exact ⟨(by show (_ : Nat) < 1000000000; omega), rfl, rfl⟩ | rfl | (refine And.intro (Or.inl ?_) ?_) | (refine And.intro ?_ ?_))) ⟨by omega, by omega⟩ (by omega)
theorem val_eq {E : Env} {f : Nat} {xs : List (Sigma Ty.den)} {T : Ty} {a b : T.den} (e : a = b) (h : PC E f xs T a) : PC E f xs T b := e ▸ h
theorem c_sanity : PC env 10 [] .bool true := by
  have k1 : PC env 12 [⟨SchemeT, (1, 1, [(0, 0, bytesOf ⟨#[107, 97]⟩, bytesOf ⟨#[75]⟩, 5)])⟩] (.tup (.int .i64) (.int .i64)) ((1 : Int), (0 : Int)) := val_eq (by kernel_rfl) (c_Check _)
  have k2 : PC env 17 [⟨.str, bytesOf ⟨#[115, 99, 104, 101, 109, 101, 32, 50, 32, 51, 10, 114, 117, 108, 101, 32, 48, 32, 49, 32, 107, 32, 45, 32, 55, 10]⟩⟩] (.tup SchemeT (.tup (.int .i64) (.int .i64))) (((2 : Int), (3 : Int), [((0 : Int), (1 : Int), ([107] : Str), ([] : Str), (7 : Int))]), (1 : Int), (0 : Int)) := val_eq (by kernel_rfl) (c_Parse _ (by decide))
  refine PC.of_PW (m := 2000) env_ok fn_10 rfl rfl rfl rfl (by kernel_rfl) ?_; intro hx; simp only [Tryd.f10]; simp only [go_sem, Nat.reduceBEq, ↓reduceIte, ↓reduceDIte, Nat.reduceAdd, Nat.reduceSub, Nat.reduceMul, Nat.reduceLeDiff, ← Bool.decide_and, ← Bool.decide_or, ← decide_not, Int.reduceLT, Int.reduceLE, Int.reduceToNat, Int.reduceNeg, by32, by10, Int.reduceEq, not_true_eq_false, not_false_eq_true, false_implies]
  have kr1 : PC env 20 [⟨SchemeT, (1, 1, [(0, 0, bytesOf ⟨#[107, 97]⟩, bytesOf ⟨#[75]⟩, 5), (0, 0, bytesOf ⟨#[107, 97]⟩, bytesOf ⟨#[75]⟩, 5)])⟩, ⟨.int .i64, (1 : Int)⟩] .bool true := val_eq (by kernel_rfl) (c_refuses _ _)
  have kr2 : PC env 20 [⟨SchemeT, (1, 2, [])⟩, ⟨.int .i64, (-1 : Int)⟩] .bool true := val_eq (by kernel_rfl) (c_refuses _ _)
  have kr3 : PC env 20 [⟨SchemeT, (1, 1, [(0, 1, [], [], 0)])⟩, ⟨.int .i64, (0 : Int)⟩] .bool true := val_eq (by kernel_rfl) (c_refuses _ _)
  have ks : PC env 18 [⟨SchemeT, (2, 3, [(0, 1, ([107] : Str), ([] : Str), 7)])⟩, ⟨SchemeT, (2, 3, [(0, 1, bytesOf ⟨#[107]⟩, ([] : Str), 7)])⟩] .bool true := val_eq (by kernel_rfl) (c_Same2 _ _)
  have kp : PC env 15 [⟨SchemeT, (2, 3, [(0, 1, bytesOf ⟨#[107]⟩, ([] : Str), 7)])⟩] .str (bytesOf ⟨#[115, 99, 104, 101, 109, 101, 32, 50, 32, 51, 10, 114, 117, 108, 101, 32, 48, 32, 49, 32, 107, 32, 45, 32, 55, 10]⟩) := val_eq (by kernel_rfl) (c_Print _)
  have kd1 : PC env 27 [⟨.str, bytesOf ⟨#[115, 99, 104, 101, 109, 101, 32, 50, 32, 51, 10, 114, 117, 108, 101, 32, 48, 32, 49, 32, 107, 32, 45, 10]⟩⟩, ⟨.int .i64, (0 : Int)⟩, ⟨.int .i64, (3 : Int)⟩] .bool true := val_eq (by kernel_rfl) (c_reads _ _ _ (by decide))
  have kd2 : PC env 27 [⟨.str, bytesOf ⟨#[]⟩⟩, ⟨.int .i64, (-1 : Int)⟩, ⟨.int .i64, (3 : Int)⟩] .bool true := val_eq (by kernel_rfl) (c_reads _ _ _ (by decide))
  have kd3 : PC env 27 [⟨.str, bytesOf ⟨#[115, 99, 104, 101, 109, 101, 32, 57, 32, 49, 10]⟩⟩, ⟨.int .i64, (-1 : Int)⟩, ⟨.int .i64, (20 : Int)⟩] .bool true := val_eq (by kernel_rfl) (c_reads _ _ _ (by decide))
  have kl1 : PC env 23 [⟨.str, bytesOf ⟨#[]⟩⟩] .bool true := val_eq (by kernel_rfl) (c_Letters _)
  have kl2 : PC env 23 [⟨.str, bytesOf ⟨#[97, 66]⟩⟩] .bool false := val_eq (by kernel_rfl) (c_Letters _)
  have kw1 : PC env 25 [⟨.str, bytesOf ⟨#[97, 66, 49]⟩⟩] .bool true := val_eq (by kernel_rfl) (c_Word _)
  have kw2 : PC env 25 [⟨.str, bytesOf ⟨#[]⟩⟩] .bool false := val_eq (by kernel_rfl) (c_Word _)
  refine ⟨_, k1, fun _ => ⟨_, k2, fun _ => ?_⟩⟩
  dsimp only
  simp only [go_sem, Nat.reduceBEq, ↓reduceIte, ↓reduceDIte, Nat.reduceAdd, Nat.reduceSub, Nat.reduceMul, Nat.reduceLeDiff, ← Bool.decide_and, ← Bool.decide_or, ← decide_not, Int.reduceLT, Int.reduceLE, Int.reduceToNat, Int.reduceNeg, by32, by10, Int.reduceEq, not_true_eq_false, not_false_eq_true, false_implies]
  repeat' (first | (with_reducible intro _) | (with_reducible apply And.intro) | (with_reducible refine ⟨_, kr1, ?_⟩; try simp only [go_sem, Nat.reduceBEq, ↓reduceIte, ↓reduceDIte, Nat.reduceAdd, Nat.reduceSub, Nat.reduceMul, Nat.reduceLeDiff, ← Bool.decide_and, ← Bool.decide_or, ← decide_not, Int.reduceLT, Int.reduceLE, Int.reduceToNat, Int.reduceNeg, by32, by10, Int.reduceEq, not_true_eq_false, not_false_eq_true, false_implies]) | (with_reducible refine ⟨_, kr2, ?_⟩; try simp only [go_sem, Nat.reduceBEq, ↓reduceIte, ↓reduceDIte, Nat.reduceAdd, Nat.reduceSub, Nat.reduceMul, Nat.reduceLeDiff, ← Bool.decide_and, ← Bool.decide_or, ← decide_not, Int.reduceLT, Int.reduceLE, Int.reduceToNat, Int.reduceNeg, by32, by10, Int.reduceEq, not_true_eq_false, not_false_eq_true, false_implies]) | (with_reducible refine ⟨_, kr3, ?_⟩; try simp only [go_sem, Nat.reduceBEq, ↓reduceIte, ↓reduceDIte, Nat.reduceAdd, Nat.reduceSub, Nat.reduceMul, Nat.reduceLeDiff, ← Bool.decide_and, ← Bool.decide_or, ← decide_not, Int.reduceLT, Int.reduceLE, Int.reduceToNat, Int.reduceNeg, by32, by10, Int.reduceEq, not_true_eq_false, not_false_eq_true, false_implies]) | (with_reducible refine ⟨_, ks, ?_⟩; try simp only [go_sem, Nat.reduceBEq, ↓reduceIte, ↓reduceDIte, Nat.reduceAdd, Nat.reduceSub, Nat.reduceMul, Nat.reduceLeDiff, ← Bool.decide_and, ← Bool.decide_or, ← decide_not, Int.reduceLT, Int.reduceLE, Int.reduceToNat, Int.reduceNeg, by32, by10, Int.reduceEq, not_true_eq_false, not_false_eq_true, false_implies]) | (with_reducible refine ⟨_, kp, ?_⟩; try simp only [go_sem, Nat.reduceBEq, ↓reduceIte, ↓reduceDIte, Nat.reduceAdd, Nat.reduceSub, Nat.reduceMul, Nat.reduceLeDiff, ← Bool.decide_and, ← Bool.decide_or, ← decide_not, Int.reduceLT, Int.reduceLE, Int.reduceToNat, Int.reduceNeg, by32, by10, Int.reduceEq, not_true_eq_false, not_false_eq_true, false_implies]) | (with_reducible refine ⟨_, kd1, ?_⟩; try simp only [go_sem, Nat.reduceBEq, ↓reduceIte, ↓reduceDIte, Nat.reduceAdd, Nat.reduceSub, Nat.reduceMul, Nat.reduceLeDiff, ← Bool.decide_and, ← Bool.decide_or, ← decide_not, Int.reduceLT, Int.reduceLE, Int.reduceToNat, Int.reduceNeg, by32, by10, Int.reduceEq, not_true_eq_false, not_false_eq_true, false_implies]) | (with_reducible refine ⟨_, kd2, ?_⟩; try simp only [go_sem, Nat.reduceBEq, ↓reduceIte, ↓reduceDIte, Nat.reduceAdd, Nat.reduceSub, Nat.reduceMul, Nat.reduceLeDiff, ← Bool.decide_and, ← Bool.decide_or, ← decide_not, Int.reduceLT, Int.reduceLE, Int.reduceToNat, Int.reduceNeg, by32, by10, Int.reduceEq, not_true_eq_false, not_false_eq_true, false_implies]) | (with_reducible refine ⟨_, kd3, ?_⟩; try simp only [go_sem, Nat.reduceBEq, ↓reduceIte, ↓reduceDIte, Nat.reduceAdd, Nat.reduceSub, Nat.reduceMul, Nat.reduceLeDiff, ← Bool.decide_and, ← Bool.decide_or, ← decide_not, Int.reduceLT, Int.reduceLE, Int.reduceToNat, Int.reduceNeg, by32, by10, Int.reduceEq, not_true_eq_false, not_false_eq_true, false_implies]) | (with_reducible refine ⟨_, kl1, ?_⟩; try simp only [go_sem, Nat.reduceBEq, ↓reduceIte, ↓reduceDIte, Nat.reduceAdd, Nat.reduceSub, Nat.reduceMul, Nat.reduceLeDiff, ← Bool.decide_and, ← Bool.decide_or, ← decide_not, Int.reduceLT, Int.reduceLE, Int.reduceToNat, Int.reduceNeg, by32, by10, Int.reduceEq, not_true_eq_false, not_false_eq_true, false_implies]) | (with_reducible refine ⟨_, kl2, ?_⟩; try simp only [go_sem, Nat.reduceBEq, ↓reduceIte, ↓reduceDIte, Nat.reduceAdd, Nat.reduceSub, Nat.reduceMul, Nat.reduceLeDiff, ← Bool.decide_and, ← Bool.decide_or, ← decide_not, Int.reduceLT, Int.reduceLE, Int.reduceToNat, Int.reduceNeg, by32, by10, Int.reduceEq, not_true_eq_false, not_false_eq_true, false_implies]) | (with_reducible refine ⟨_, kw1, ?_⟩; try simp only [go_sem, Nat.reduceBEq, ↓reduceIte, ↓reduceDIte, Nat.reduceAdd, Nat.reduceSub, Nat.reduceMul, Nat.reduceLeDiff, ← Bool.decide_and, ← Bool.decide_or, ← decide_not, Int.reduceLT, Int.reduceLE, Int.reduceToNat, Int.reduceNeg, by32, by10, Int.reduceEq, not_true_eq_false, not_false_eq_true, false_implies]) | (with_reducible refine ⟨_, kw2, ?_⟩; try simp only [go_sem, Nat.reduceBEq, ↓reduceIte, ↓reduceDIte, Nat.reduceAdd, Nat.reduceSub, Nat.reduceMul, Nat.reduceLeDiff, ← Bool.decide_and, ← Bool.decide_or, ← decide_not, Int.reduceLT, Int.reduceLE, Int.reduceToNat, Int.reduceNeg, by32, by10, Int.reduceEq, not_true_eq_false, not_false_eq_true, false_implies]) | fail)
  all_goals first | rfl | trivial | (exfalso; apply_assumption; rfl) | skip
  all_goals trace_state
  all_goals sorry
end Go.Proofs.YtcmolphllladbaaDoor
