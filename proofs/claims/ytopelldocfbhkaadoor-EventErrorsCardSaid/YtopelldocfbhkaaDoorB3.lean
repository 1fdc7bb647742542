/- Contracts: the fixed examples. Nothing here is trusted; no condition. -/
import Derived.Test.YtopelldocfbhkaaDoorB2
set_option linter.unusedSimpArgs false
set_option linter.unusedVariables false
--SET+ by_nil
namespace Go.Proofs.YtopelldocfbhkaaDoor
set_option maxHeartbeats 4000000
set_option maxRecDepth 100000
open Go.Lib
/-- Equality, decided by no program. -/
noncomputable def eqP {α : Type} (a b : α) : Bool := @decide (a = b) (Classical.propDecidable _)
theorem eqP_of {α : Type} {a b : α} (h : eqP a b = true) : a = b := @of_decide_eq_true _ (Classical.propDecidable _) h
theorem eqP_t {α : Type} {a b : α} (h : a = b) : eqP a b = true := @decide_eq_true _ (Classical.propDecidable _) h
theorem eqP_f {α : Type} {a b : α} (h : a ≠ b) : eqP a b = false := @decide_eq_false _ (Classical.propDecidable _) h
theorem eqP_iff {α : Type} {a b : α} : eqP a b = true ↔ a = b := ⟨eqP_of, eqP_t⟩
theorem c_Points (a b : List (Int × Int)) : PC env 31 [⟨.sl PointT, a⟩, ⟨.sl PointT, b⟩] .bool (eqP a b) := by
  refine PC.of_PW (m := 2000) env_ok fn_31 rfl rfl rfl rfl (by kernel_rfl) ?_; intro hx; simp only [Tryd.f31]; simp only [go_sem, Nat.reduceBEq, ↓reduceIte, ↓reduceDIte, Nat.reduceAdd, Nat.reduceSub, Nat.reduceMul, Nat.reduceLeDiff, ← Bool.decide_and, ← Bool.decide_or, ← decide_not, Int.reduceLT, Int.reduceLE, Int.reduceToNat, Int.reduceNeg, by_nil]
  refine ⟨fun h => (eqP_f (by rintro rfl; exact h rfl)).symm, fun h => ?_⟩
  refine Walks.loopA (X := Nat) (fun (k : Nat) => [(5, .iv (.int .i64) (k : Int))]) (fun (k : Nat) => []) (fun (k : Nat) => k ≤ a.length ∧ a.take k = b.take k) (fun (k : Nat) => a.length - k) 0 ?_; intro b1 b2 hb1 hb2; simp (config := {maxSteps := 4000000}) only [go_sem, Nat.reduceBEq, ↓reduceIte, ↓reduceDIte, Nat.reduceAdd, Nat.reduceSub, Nat.reduceMul, Nat.reduceLeDiff, ← Bool.decide_and, ← Bool.decide_or, ← decide_not, Int.reduceLT, Int.reduceLE, Int.reduceToNat, Int.reduceNeg, by_nil] at hb1 hb2; subst hb1; subst hb2; refine ⟨(by refine ⟨?_, ?_, rfl, rfl⟩ <;> repeat' (first | exact trivial | (refine And.intro (Or.inl rfl) ?_) | (refine And.intro (Or.inr (Or.inl rfl)) ?_) | (refine And.intro (Or.inr (Or.inr (Or.inr ⟨rfl, rfl⟩))) ?_) | (refine And.intro (Or.inr (Or.inr (Or.inl ⟨rfl, rfl, trivial⟩))) ?_) | exact ⟨(by show (_ : Nat) < 1000000000; omega), rfl, rfl⟩ | rfl | (refine And.intro (Or.inl ?_) ?_) | (refine And.intro ?_ ?_))), ?_, ?_⟩
  · exact ⟨Nat.zero_le _, rfl⟩
  have hla : a.length ≤ 9223372036854775807 := hx.1.1
  intro k ⟨hk, he⟩ back
  refine PW_sound env_ok ⟨_, fn_31, rfl⟩ 2000 _ _ (by kernel_rfl) ?_; simp only [go_sem, Nat.reduceBEq, ↓reduceIte, ↓reduceDIte, Nat.reduceAdd, Nat.reduceSub, Nat.reduceMul, Nat.reduceLeDiff, ← Bool.decide_and, ← Bool.decide_or, ← decide_not, Int.reduceLT, Int.reduceLE, Int.reduceToNat, Int.reduceNeg, by_nil]
  refine ⟨fun h2 => ?_, fun h2 => ?_⟩
  · obtain ⟨x, hxi⟩ : ∃ x, a[k]? = some x := get_of_lt (by omega)
    obtain ⟨y, hyi⟩ : ∃ y, b[k]? = some y := get_of_lt (by omega)
    refine ⟨Int.natCast_nonneg _, x, hxi, Int.natCast_nonneg _, y, hyi, fun hn => ?_, fun hy => ?_⟩
    · refine (eqP_f ?_).symm; rintro rfl
      rw [hxi] at hyi; injection hyi with hyi; subst hyi
      exact hn ⟨rfl, rfl⟩
    · have e : x = y := Prod.ext hy.1 hy.2
      subst e
      exact ⟨i64_ok (by omega) (by omega), back _ (k + 1) (by refine ⟨?_, ?_, rfl, rfl⟩ <;> repeat' (first | exact trivial | (refine And.intro (Or.inl rfl) ?_) | (refine And.intro (Or.inr (Or.inl rfl)) ?_) | (refine And.intro (Or.inr (Or.inr (Or.inr ⟨rfl, rfl⟩))) ?_) | (refine And.intro (Or.inr (Or.inr (Or.inl ⟨rfl, rfl, trivial⟩))) ?_) | exact ⟨(by show (_ : Nat) < 1000000000; omega), rfl, rfl⟩ | rfl | (refine And.intro (Or.inl ?_) ?_) | (refine And.intro ?_ ?_))) ⟨by omega, by rw [take_snoc hxi, take_snoc hyi, he]⟩ (by omega)⟩
  · have e1 : a.take k = a := List.take_of_length_le (by omega)
    have e2 : b.take k = b := List.take_of_length_le (by omega)
    rw [e1, e2] at he
    exact (eqP_t he).symm
theorem c_Same (a b : Ev) : PC env 15 [⟨EventT, a⟩, ⟨EventT, b⟩] .bool (eqP a b) := by
  obtain ⟨a1, a2, a3, a4, a5, a6⟩ := a
  obtain ⟨b1, b2, b3, b4, b5, b6⟩ := b
  refine PC.of_PW (m := 2000) env_ok fn_15 rfl rfl rfl rfl (by kernel_rfl) ?_; intro hx; simp only [Tryd.f15]; simp only [go_sem, Nat.reduceBEq, ↓reduceIte, ↓reduceDIte, Nat.reduceAdd, Nat.reduceSub, Nat.reduceMul, Nat.reduceLeDiff, ← Bool.decide_and, ← Bool.decide_or, ← decide_not, Int.reduceLT, Int.reduceLE, Int.reduceToNat, Int.reduceNeg, by_nil]
  clear hx
  repeat' (first | (with_reducible intro _) | (with_reducible apply And.intro) | (with_reducible refine ⟨_, (c_Points _ _).dec, ?_⟩; try simp only [go_sem, Nat.reduceBEq, ↓reduceIte, ↓reduceDIte, Nat.reduceAdd, Nat.reduceSub, Nat.reduceMul, Nat.reduceLeDiff, ← Bool.decide_and, ← Bool.decide_or, ← decide_not, Int.reduceLT, Int.reduceLE, Int.reduceToNat, Int.reduceNeg, by_nil]) | fail)
  all_goals first
    | (refine (eqP_f fun h => ?_).symm; injection h with h1 h; injection h with h2 h; injection h with h3 h; injection h with h4 h; injection h with h5 h6; subst h1; subst h2; subst h3; subst h4; subst h5; subst h6; simp_all [eqP_iff]; done)
    | (simp_all [eqP_iff]; done)
    | (rename_i e1 e2 e3 e4 e5
       by_cases e6 : a6 = b6
       · rw [decide_eq_true e6]; refine (eqP_t ?_).symm; rw [e1, e2, eqP_of e3, e4, e5, e6]
       · rw [decide_eq_false e6]; refine (eqP_f fun h => e6 ?_).symm; injection h with _ h; injection h with _ h; injection h with _ h; injection h with _ h; injection h with _ h)
theorem c_SameAll (a b : List Ev) : PC env 21 [⟨.sl EventT, a⟩, ⟨.sl EventT, b⟩] .bool (eqP a b) := by
  refine PC.of_PW (m := 2000) env_ok fn_21 rfl rfl rfl rfl (by kernel_rfl) ?_; intro hx; simp only [Tryd.f21]; simp only [go_sem, Nat.reduceBEq, ↓reduceIte, ↓reduceDIte, Nat.reduceAdd, Nat.reduceSub, Nat.reduceMul, Nat.reduceLeDiff, ← Bool.decide_and, ← Bool.decide_or, ← decide_not, Int.reduceLT, Int.reduceLE, Int.reduceToNat, Int.reduceNeg, by_nil]
  refine ⟨fun h => (eqP_f (by rintro rfl; exact h rfl)).symm, fun h => ?_⟩
  refine Walks.loopA (X := Nat) (fun (k : Nat) => [(5, .iv (.int .i64) (k : Int))]) (fun (k : Nat) => []) (fun (k : Nat) => k ≤ a.length ∧ a.take k = b.take k) (fun (k : Nat) => a.length - k) 0 ?_; intro b1 b2 hb1 hb2; simp (config := {maxSteps := 4000000}) only [go_sem, Nat.reduceBEq, ↓reduceIte, ↓reduceDIte, Nat.reduceAdd, Nat.reduceSub, Nat.reduceMul, Nat.reduceLeDiff, ← Bool.decide_and, ← Bool.decide_or, ← decide_not, Int.reduceLT, Int.reduceLE, Int.reduceToNat, Int.reduceNeg, by_nil] at hb1 hb2; subst hb1; subst hb2; refine ⟨(by refine ⟨?_, ?_, rfl, rfl⟩ <;> repeat' (first | exact trivial | (refine And.intro (Or.inl rfl) ?_) | (refine And.intro (Or.inr (Or.inl rfl)) ?_) | (refine And.intro (Or.inr (Or.inr (Or.inr ⟨rfl, rfl⟩))) ?_) | (refine And.intro (Or.inr (Or.inr (Or.inl ⟨rfl, rfl, trivial⟩))) ?_) | exact ⟨(by show (_ : Nat) < 1000000000; omega), rfl, rfl⟩ | rfl | (refine And.intro (Or.inl ?_) ?_) | (refine And.intro ?_ ?_))), ?_, ?_⟩
  · exact ⟨Nat.zero_le _, rfl⟩
  have hla : a.length ≤ 9223372036854775807 := hx.1.1
  intro k ⟨hk, he⟩ back
  refine PW_sound env_ok ⟨_, fn_21, rfl⟩ 2000 _ _ (by kernel_rfl) ?_; simp only [go_sem, Nat.reduceBEq, ↓reduceIte, ↓reduceDIte, Nat.reduceAdd, Nat.reduceSub, Nat.reduceMul, Nat.reduceLeDiff, ← Bool.decide_and, ← Bool.decide_or, ← decide_not, Int.reduceLT, Int.reduceLE, Int.reduceToNat, Int.reduceNeg, by_nil]
  refine ⟨fun h2 => ?_, fun h2 => ?_⟩
  · obtain ⟨x, hxi⟩ : ∃ x, a[k]? = some x := get_of_lt (by omega)
    obtain ⟨y, hyi⟩ : ∃ y, b[k]? = some y := get_of_lt (by omega)
    refine ⟨Int.natCast_nonneg _, x, hxi, Int.natCast_nonneg _, y, hyi, _, (c_Same _ _).dec, ?_⟩
    simp only [go_sem, Nat.reduceBEq, ↓reduceIte, ↓reduceDIte, Nat.reduceAdd, Nat.reduceSub, Nat.reduceMul, Nat.reduceLeDiff, ← Bool.decide_and, ← Bool.decide_or, ← decide_not, Int.reduceLT, Int.reduceLE, Int.reduceToNat, Int.reduceNeg, by_nil]
    refine ⟨fun hn => ?_, fun hy => ?_⟩
    · refine (eqP_f ?_).symm; rintro rfl
      rw [hxi] at hyi; injection hyi with hyi; subst hyi
      exact hn (eqP_t rfl)
    · have e : x = y := eqP_of hy
      subst e
      exact ⟨i64_ok (by omega) (by omega), back _ (k + 1) (by refine ⟨?_, ?_, rfl, rfl⟩ <;> repeat' (first | exact trivial | (refine And.intro (Or.inl rfl) ?_) | (refine And.intro (Or.inr (Or.inl rfl)) ?_) | (refine And.intro (Or.inr (Or.inr (Or.inr ⟨rfl, rfl⟩))) ?_) | (refine And.intro (Or.inr (Or.inr (Or.inl ⟨rfl, rfl, trivial⟩))) ?_) | exact ⟨(by show (_ : Nat) < 1000000000; omega), rfl, rfl⟩ | rfl | (refine And.intro (Or.inl ?_) ?_) | (refine And.intro ?_ ?_))) ⟨by omega, by rw [take_snoc hxi, take_snoc hyi, he]⟩ (by omega)⟩
  · have e1 : a.take k = a := List.take_of_length_le (by omega)
    have e2 : b.take k = b := List.take_of_length_le (by omega)
    rw [e1, e2] at he
    exact (eqP_t he).symm
theorem abc_at : ∀ d : Nat, d < 26 → List.take 1 (List.drop d (bytesOf ⟨#[97, 98, 99, 100, 101, 102, 103, 104, 105, 106, 107, 108, 109, 110, 111, 112, 113, 114, 115, 116, 117, 118, 119, 120, 121, 122]⟩)) = [UInt8.ofNat (97 + d)] := by decide
def textE (l : List Int) : Str := (l.take 5).map fun x => UInt8.ofNat (97 + (x % 26).toNat)
theorem textE_step {l : List Int} {i : Nat} {x : Int} (h : l[i]? = some x) (h5 : i < 5) : textE (l.take (i + 1)) = textE (l.take i) ++ [UInt8.ofNat (97 + (x % 26).toNat)] := by
  unfold textE
  rw [List.take_take, List.take_take, Nat.min_eq_right (by omega), Nat.min_eq_right (by omega), take_snoc h, List.map_append]; rfl
theorem c_Text (l : List Int) : PC env 26 [⟨.sl (.int .u8), l⟩, ⟨.int .i64, 5⟩, ⟨.int .i64, 26⟩] .str (textE l) := by
  refine PC.of_PW (m := 2000) env_ok fn_26 rfl rfl rfl rfl (by kernel_rfl) ?_; intro hx; simp only [Tryd.f26]; simp only [go_sem, Nat.reduceBEq, ↓reduceIte, ↓reduceDIte, Nat.reduceAdd, Nat.reduceSub, Nat.reduceMul, Nat.reduceLeDiff, ← Bool.decide_and, ← Bool.decide_or, ← decide_not, Int.reduceLT, Int.reduceLE, Int.reduceToNat, Int.reduceNeg, by_nil]
  refine Walks.loopA (X := Nat × Str) (fun (z : Nat × Str) => [(9, .iv (.int .i64) (z.1 : Int)), (8, .iv .str z.2)]) (fun (z : Nat × Str) => []) (fun (z : Nat × Str) => z.1 ≤ l.length ∧ z.1 ≤ 5 ∧ z.2 = textE (l.take z.1)) (fun (z : Nat × Str) => 5 - z.1) (0, []) ?_; intro b1 b2 hb1 hb2; simp (config := {maxSteps := 4000000}) only [go_sem, Nat.reduceBEq, ↓reduceIte, ↓reduceDIte, Nat.reduceAdd, Nat.reduceSub, Nat.reduceMul, Nat.reduceLeDiff, ← Bool.decide_and, ← Bool.decide_or, ← decide_not, Int.reduceLT, Int.reduceLE, Int.reduceToNat, Int.reduceNeg, by_nil] at hb1 hb2; subst hb1; subst hb2; refine ⟨(by refine ⟨?_, ?_, rfl, rfl⟩ <;> repeat' (first | exact trivial | (refine And.intro (Or.inl rfl) ?_) | (refine And.intro (Or.inr (Or.inl rfl)) ?_) | (refine And.intro (Or.inr (Or.inr (Or.inr ⟨rfl, rfl⟩))) ?_) | (refine And.intro (Or.inr (Or.inr (Or.inl ⟨rfl, rfl, trivial⟩))) ?_) | exact ⟨(by show (_ : Nat) < 1000000000; omega), rfl, rfl⟩ | rfl | (refine And.intro (Or.inl ?_) ?_) | (refine And.intro ?_ ?_))), ?_, ?_⟩
  · exact ⟨Nat.zero_le _, Nat.zero_le _, rfl⟩
  intro ⟨i, o⟩ ⟨hi, h5, hb⟩ back
  dsimp only at hi h5 hb
  have hol : o.length ≤ 5 := by rw [hb]; unfold textE; rw [List.length_map, List.length_take]; omega
  have hu : ∀ x ∈ l, 0 ≤ x ∧ x ≤ 255 := fun x hxl => u8_of (hx.1.2 x hxl)
  have hend : ¬ (i < l.length ∧ i < 5) → o = textE l := fun h => by
    rw [hb]
    unfold textE
    rw [List.take_take]
    by_cases h1 : i = 5
    · subst h1; rfl
    · rw [List.take_of_length_le (i := min 5 i) (by omega), List.take_of_length_le (by omega)]
  refine PW_sound env_ok ⟨_, fn_26, rfl⟩ 2000 _ _ (by kernel_rfl) ?_; simp only [go_sem, Nat.reduceBEq, ↓reduceIte, ↓reduceDIte, Nat.reduceAdd, Nat.reduceSub, Nat.reduceMul, Nat.reduceLeDiff, ← Bool.decide_and, ← Bool.decide_or, ← decide_not, Int.reduceLT, Int.reduceLE, Int.reduceToNat, Int.reduceNeg, by_nil]
  refine ⟨fun h1 => ⟨fun h2 => ?_, fun h2 => hend (by omega)⟩, fun h1 => hend (by omega)⟩
  obtain ⟨x, hxi⟩ := get_of_lt (xs := l) (i := i) (by omega)
  have hxu := hu x (List.mem_of_getElem? hxi)
  have hm : Int.tmod x 26 = (((x % 26).toNat : Nat) : Int) := by rw [Int.tmod_eq_emod_of_nonneg hxu.1]; omega
  have hm26 : (x % 26).toNat < 26 := by omega
  have e1 : ((((x % 26).toNat : Nat) : Int) + 1).toNat - ((((x % 26).toNat : Nat) : Int)).toNat = 1 := by omega
  refine ⟨Int.natCast_nonneg _, x, hxi, ?_⟩
  rw [hm, e1, Int.toNat_natCast, abc_at _ hm26]
  refine ⟨i64_ok (by omega) (by omega), ⟨by omega, by omega, (by show (((x % 26).toNat : Nat) : Int) + 1 ≤ 26; omega)⟩, (by simp only [List.length_cons, List.length_nil]; omega), i64_ok (by omega) (by omega), back _ (i + 1, o ++ [UInt8.ofNat (97 + (x % 26).toNat)]) ?_ ⟨by dsimp only; omega, by dsimp only; omega, ?_⟩ (by dsimp only; omega)⟩
  · exact (by refine ⟨?_, ?_, rfl, rfl⟩ <;> repeat' (first | exact trivial | (refine And.intro (Or.inl rfl) ?_) | (refine And.intro (Or.inr (Or.inl rfl)) ?_) | (refine And.intro (Or.inr (Or.inr (Or.inr ⟨rfl, rfl⟩))) ?_) | (refine And.intro (Or.inr (Or.inr (Or.inl ⟨rfl, rfl, trivial⟩))) ?_) | exact ⟨(by show (_ : Nat) < 1000000000; omega), rfl, rfl⟩ | rfl | (refine And.intro (Or.inl ?_) ?_) | (refine And.intro ?_ ?_)))
  · dsimp only
    rw [textE_step hxi (by omega), ← hb]
def chordE (n m : Int) : Str := (List.range (2 + (m % 3).toNat)).map fun i => UInt8.ofNat (97 + ((n % 20).toNat + i * (1 + (m / 3 % 2).toNat)))
theorem chordE_len (n m : Int) : (chordE n m).length = 2 + (m % 3).toNat := by unfold chordE; rw [List.length_map, List.length_range]
theorem range_take {α : Type} (f : Nat → α) (i n : Nat) (h : i < n) : ((List.range n).map f).take (i + 1) = ((List.range n).map f).take i ++ [f i] := by
  rw [take_snoc (x := f i)]
  rw [List.getElem?_map, List.getElem?_range h]; rfl
theorem c_chord (n m : Int) (h1 : 0 ≤ n) (h2 : 0 ≤ m) : PC env 27 [⟨.int .u8, n⟩, ⟨.int .u8, m⟩] .str (chordE n m) := by
  have t1 : Int.tmod n 20 = n % 20 := Int.tmod_eq_emod_of_nonneg h1
  have t2 : Int.tmod (m / 3) 2 = m / 3 % 2 := Int.tmod_eq_emod_of_nonneg (by omega)
  have t3 : Int.tmod m 3 = m % 3 := Int.tmod_eq_emod_of_nonneg h2
  have hl := chordE_len n m
  refine PC.of_PW (m := 2000) env_ok fn_27 rfl rfl rfl rfl (by kernel_rfl) ?_; intro hx; simp only [Tryd.f27]; simp only [go_sem, Nat.reduceBEq, ↓reduceIte, ↓reduceDIte, Nat.reduceAdd, Nat.reduceSub, Nat.reduceMul, Nat.reduceLeDiff, ← Bool.decide_and, ← Bool.decide_or, ← decide_not, Int.reduceLT, Int.reduceLE, Int.reduceToNat, Int.reduceNeg, by_nil]
  refine ⟨h2, i64_ok (by omega) (by omega), ?_⟩
  refine Walks.loopA (X := Nat × Str) (fun (z : Nat × Str) => [(9, .iv (.int .i64) (z.1 : Int)), (8, .iv .str z.2)]) (fun (z : Nat × Str) => []) (fun (z : Nat × Str) => z.1 ≤ 2 + (m % 3).toNat ∧ z.2 = (chordE n m).take z.1) (fun (z : Nat × Str) => 5 - z.1) (0, []) ?_; intro b1 b2 hb1 hb2; simp (config := {maxSteps := 4000000}) only [go_sem, Nat.reduceBEq, ↓reduceIte, ↓reduceDIte, Nat.reduceAdd, Nat.reduceSub, Nat.reduceMul, Nat.reduceLeDiff, ← Bool.decide_and, ← Bool.decide_or, ← decide_not, Int.reduceLT, Int.reduceLE, Int.reduceToNat, Int.reduceNeg, by_nil] at hb1 hb2; subst hb1; subst hb2; refine ⟨(by refine ⟨?_, ?_, rfl, rfl⟩ <;> repeat' (first | exact trivial | (refine And.intro (Or.inl rfl) ?_) | (refine And.intro (Or.inr (Or.inl rfl)) ?_) | (refine And.intro (Or.inr (Or.inr (Or.inr ⟨rfl, rfl⟩))) ?_) | (refine And.intro (Or.inr (Or.inr (Or.inl ⟨rfl, rfl, trivial⟩))) ?_) | exact ⟨(by show (_ : Nat) < 1000000000; omega), rfl, rfl⟩ | rfl | (refine And.intro (Or.inl ?_) ?_) | (refine And.intro ?_ ?_))), ?_, ?_⟩
  · exact ⟨Nat.zero_le _, rfl⟩
  intro ⟨i, o⟩ ⟨hi, hb⟩ back
  dsimp only at hi hb
  have hol : o.length ≤ 5 := by rw [hb, List.length_take]; omega
  refine PW_sound env_ok ⟨_, fn_27, rfl⟩ 2000 _ _ (by kernel_rfl) ?_; simp only [go_sem, Nat.reduceBEq, ↓reduceIte, ↓reduceDIte, Nat.reduceAdd, Nat.reduceSub, Nat.reduceMul, Nat.reduceLeDiff, ← Bool.decide_and, ← Bool.decide_or, ← decide_not, Int.reduceLT, Int.reduceLE, Int.reduceToNat, Int.reduceNeg, by_nil]
  rw [t1, t2] at back ⊢; rw [t3]
  refine ⟨i64_ok (by omega) (by omega), fun h3 => ?_, fun h3 => ?_⟩
  · have hi3 : i ≤ 3 := by omega
    have e1 : (i : Int) * (1 + m / 3 % 2) = ((i * (1 + (m / 3 % 2).toNat) : Nat) : Int) := by
      rw [Int.natCast_mul]; congr 1; omega
    have hb6 : i * (1 + (m / 3 % 2).toNat) ≤ 6 := by
      have : i * (1 + (m / 3 % 2).toNat) ≤ 3 * 2 := Nat.mul_le_mul hi3 (by omega)
      omega
    have hst : (chordE n m).take (i + 1) = (chordE n m).take i ++ [UInt8.ofNat (97 + ((n % 20).toNat + i * (1 + (m / 3 % 2).toNat)))] := range_take _ i _ (by omega)
    rw [e1]
    generalize i * (1 + (m / 3 % 2).toNat) = b at hb6 hst ⊢
    have e0 : n % 20 + (b : Int) = (((n % 20).toNat + b : Nat) : Int) := by omega
    have hd : (n % 20).toNat + b < 26 := by omega
    rw [e0]
    generalize (n % 20).toNat + b = d at hst hd ⊢
    have e2 : ((d : Int) + 1).toNat - (d : Int).toNat = 1 := by omega
    rw [e2, Int.toNat_natCast, abc_at _ hd]
    (repeat' (with_reducible apply And.intro)) <;> try first | omega | (show (d : Int) + 1 ≤ 26; omega) | (simp only [List.length_cons, List.length_nil]; omega)
    refine back _ (i + 1, o ++ [UInt8.ofNat (97 + d)]) ?_ ⟨by dsimp only; omega, ?_⟩ (by dsimp only; omega)
    · exact (by refine ⟨?_, ?_, rfl, rfl⟩ <;> repeat' (first | exact trivial | (refine And.intro (Or.inl rfl) ?_) | (refine And.intro (Or.inr (Or.inl rfl)) ?_) | (refine And.intro (Or.inr (Or.inr (Or.inr ⟨rfl, rfl⟩))) ?_) | (refine And.intro (Or.inr (Or.inr (Or.inl ⟨rfl, rfl, trivial⟩))) ?_) | exact ⟨(by show (_ : Nat) < 1000000000; omega), rfl, rfl⟩ | rfl | (refine And.intro (Or.inl ?_) ?_) | (refine And.intro ?_ ?_)))
    · dsimp only
      rw [hst, ← hb]
  · rw [hb, List.take_of_length_le (by omega)]
end Go.Proofs.YtopelldocfbhkaaDoor
--SET+ by_nil, Int.reduceEq, not_true_eq_false, not_false_eq_true, false_implies
namespace Go.Proofs.YtopelldocfbhkaaDoor
set_option maxHeartbeats 4000000
set_option maxRecDepth 100000
open Go.Lib
abbrev Raw := Int × List Int × List (Int × Int) × Int × Int
def textW (l : List Int) : Str := if textE l = [] then [97] else textE l
def ptE (q : Int × Int) : Int × Int := (4 * q.1 % 1001, 4 * q.2 % 1001)
def padE (n : Int) (a : List (Int × Int)) : List (Int × Int) := match a with
  | [] => [(0, n), (30, n)] | [x] => [x, (30, n)] | a => a
def ptsE (x : Raw) : List (Int × Int) := padE x.2.2.2.1 ((x.2.2.1.take 6).map ptE)
def kindE (x : Raw) : Int := 1 + x.1 % 12
def madeE (x : Raw) : Ev := (kindE x, if kindE x = 1 then (textW x.2.1).take 1 else if kindE x = 2 then chordE x.2.2.2.1 x.2.2.2.2 else [], if kindE x = 3 then (ptsE x).take 1 else if kindE x = 4 then ptsE x else [],
  if kindE x = 5 then textW x.2.1 else [], if kindE x = 9 then x.2.2.2.1 % 40 else if kindE x = 10 then x.2.2.2.1 % 50 else 0, if kindE x = 9 then 1 + x.2.2.2.2 % 40 else 0)
theorem textE_len (l : List Int) : (textE l).length ≤ 5 := by unfold textE; rw [List.length_map, List.length_take]; omega
theorem textW_len (l : List Int) : 1 ≤ (textW l).length ∧ (textW l).length ≤ 5 := by
  have := textE_len l
  unfold textW
  split
  · decide
  · rename_i h
    have : (textE l).length ≠ 0 := fun h' => h (List.eq_nil_of_length_eq_zero h')
    omega
theorem pad_step (n : Int) (a : List (Int × Int)) (h : a.length < 2) : padE n (a ++ [(30 * (a.length : Int), n)]) = padE n a := by
  match a, h with
  | [], _ => rfl
  | [x], _ => rfl
  | _ :: _ :: _, h => exact absurd h (by simp only [List.length_cons]; omega)
theorem pad_done (n : Int) (a : List (Int × Int)) (h : 2 ≤ a.length) : padE n a = a := by
  match a, h with
  | [], h => simp at h
  | [x], h => simp at h
  | _ :: _ :: _, _ => rfl
theorem c_Made (x : Raw) (h0 : 0 ≤ x.1 ∧ 0 ≤ x.2.2.2.1 ∧ 0 ≤ x.2.2.2.2) : PC env 12 [⟨RawT, x⟩, ⟨.int .i64, 26⟩] EventT (madeE x) := by
  obtain ⟨k0, l, p, n, m⟩ := x
  have t1 : Int.tmod k0 12 = k0 % 12 := Int.tmod_eq_emod_of_nonneg h0.1
  have t2 : Int.tmod n 40 = n % 40 := Int.tmod_eq_emod_of_nonneg h0.2.1
  have t3 : Int.tmod n 50 = n % 50 := Int.tmod_eq_emod_of_nonneg h0.2.1
  have t4 : Int.tmod m 40 = m % 40 := Int.tmod_eq_emod_of_nonneg h0.2.2
  have hk := h0.1
  have hn := h0.2.1
  have hm := h0.2.2
  dsimp only at hk hn hm
  clear h0
  have htw := textW_len l
  refine PC.of_PW (m := 2000) env_ok fn_12 rfl rfl rfl rfl (by kernel_rfl) ?_; intro hx; simp only [Tryd.f12]; simp only [go_sem, Nat.reduceBEq, ↓reduceIte, ↓reduceDIte, Nat.reduceAdd, Nat.reduceSub, Nat.reduceMul, Nat.reduceLeDiff, ← Bool.decide_and, ← Bool.decide_or, ← decide_not, Int.reduceLT, Int.reduceLE, Int.reduceToNat, Int.reduceNeg, by_nil, Int.reduceEq, not_true_eq_false, not_false_eq_true, false_implies]
  have hp : ∀ q, q ∈ p → (0 ≤ q.1 ∧ q.1 ≤ 255) ∧ 0 ≤ q.2 ∧ q.2 ≤ 255 := fun q hq => by
    have := hx.1.2.2.1.2 q hq
    exact ⟨u8_of this.1, u8_of this.2⟩
  rw [t1]
  clear hx
  refine ⟨i64_ok (by omega) (by omega), _, c_Text l, fun _ => ?_⟩
  have hK : 1 + k0 % 12 = kindE (k0, l, p, n, m) := rfl
  rw [hK]
  have hKb : 1 ≤ kindE (k0, l, p, n, m) ∧ kindE (k0, l, p, n, m) ≤ 12 := by rw [← hK]; omega
  apply Walks.shareX (X := Unit) (fun _ => ⟨[(8, .iv (.int .i64) (0 : Int)), (7, .lfull 21), (6, .iv .str (textW l)), (5, .ref 5 0), (4, .ref 4 0), (2, .ref 2 0), (1, .iv (.int .i64) (26 : Int))],
    [(21, .arr PointT []), (5, .box [.iv (.int .i64) (kindE (k0, l, p, n, m)), .iv .str [], .nilsl, .iv .str [], .iv (.int .i64) (0 : Int), .iv (.int .i64) (0 : Int)]), (4, .box [.iv (.int .i64) (0 : Int), .iv .str [], .nilsl, .iv .str [], .iv (.int .i64) (0 : Int), .iv (.int .i64) (0 : Int)]), (2, .box [.iv (.int .u8) k0, .iv (.sl (.int .u8)) l, .iv (.sl (.st (.pair (.int .u8) (.int .u8)))) p, .iv (.int .u8) n, .iv (.int .u8) m])]⟩) (fun _ => True)
  · intro key
    refine ⟨fun h => key _ () trivial ?_, fun h => key _ () trivial ?_⟩
    · have e : textW l = bytesOf ⟨#[97]⟩ := by unfold textW; rw [if_pos h]; rfl
      rw [e]
      exact (by refine ⟨?_, ?_, rfl, rfl⟩ <;> repeat' (first | exact trivial | (refine And.intro (Or.inl rfl) ?_) | (refine And.intro (Or.inr (Or.inl rfl)) ?_) | (refine And.intro (Or.inr (Or.inr (Or.inr ⟨rfl, rfl⟩))) ?_) | (refine And.intro (Or.inr (Or.inr (Or.inl ⟨rfl, rfl, trivial⟩))) ?_) | exact ⟨(by show (_ : Nat) < 1000000000; omega), rfl, rfl⟩ | rfl | (refine And.intro (Or.inl ?_) ?_) | (refine And.intro ?_ ?_)))
    · have e : textW l = textE l := by unfold textW; rw [if_neg h]
      rw [e]
      exact (by refine ⟨?_, ?_, rfl, rfl⟩ <;> repeat' (first | exact trivial | (refine And.intro (Or.inl rfl) ?_) | (refine And.intro (Or.inr (Or.inl rfl)) ?_) | (refine And.intro (Or.inr (Or.inr (Or.inr ⟨rfl, rfl⟩))) ?_) | (refine And.intro (Or.inr (Or.inr (Or.inl ⟨rfl, rfl, trivial⟩))) ?_) | exact ⟨(by show (_ : Nat) < 1000000000; omega), rfl, rfl⟩ | rfl | (refine And.intro (Or.inl ?_) ?_) | (refine And.intro ?_ ?_)))
  · intro _ _
    refine Walks.loopA (X := Nat × List (Int × Int)) (fun (z : Nat × List (Int × Int)) => [(8, .iv (.int .i64) (z.1 : Int)), (7, .lfull 21)]) (fun (z : Nat × List (Int × Int)) => [(21, .arr PointT z.2)]) (fun (z : Nat × List (Int × Int)) => z.1 ≤ p.length ∧ z.1 ≤ 6 ∧ z.2 = (p.take z.1).map ptE) (fun (z : Nat × List (Int × Int)) => 6 - z.1) (0, []) ?_; intro b1 b2 hb1 hb2; simp (config := {maxSteps := 4000000}) only [go_sem, Nat.reduceBEq, ↓reduceIte, ↓reduceDIte, Nat.reduceAdd, Nat.reduceSub, Nat.reduceMul, Nat.reduceLeDiff, ← Bool.decide_and, ← Bool.decide_or, ← decide_not, Int.reduceLT, Int.reduceLE, Int.reduceToNat, Int.reduceNeg, by_nil, Int.reduceEq, not_true_eq_false, not_false_eq_true, false_implies] at hb1 hb2; subst hb1; subst hb2; refine ⟨(by refine ⟨?_, ?_, rfl, rfl⟩ <;> repeat' (first | exact trivial | (refine And.intro (Or.inl rfl) ?_) | (refine And.intro (Or.inr (Or.inl rfl)) ?_) | (refine And.intro (Or.inr (Or.inr (Or.inr ⟨rfl, rfl⟩))) ?_) | (refine And.intro (Or.inr (Or.inr (Or.inl ⟨rfl, rfl, trivial⟩))) ?_) | exact ⟨(by show (_ : Nat) < 1000000000; omega), rfl, rfl⟩ | rfl | (refine And.intro (Or.inl ?_) ?_) | (refine And.intro ?_ ?_))), ?_, ?_⟩
    · exact ⟨Nat.zero_le _, Nat.zero_le _, rfl⟩
    intro ⟨i, a⟩ ⟨hi, h6, hb⟩ back
    dsimp only at hi h6 hb
    have hal : a.length = i := by rw [hb, List.length_map, List.length_take]; omega
    refine PW_sound env_ok ⟨_, fn_12, rfl⟩ 2000 _ _ (by kernel_rfl) ?_; simp only [go_sem, Nat.reduceBEq, ↓reduceIte, ↓reduceDIte, Nat.reduceAdd, Nat.reduceSub, Nat.reduceMul, Nat.reduceLeDiff, ← Bool.decide_and, ← Bool.decide_or, ← decide_not, Int.reduceLT, Int.reduceLE, Int.reduceToNat, Int.reduceNeg, by_nil, Int.reduceEq, not_true_eq_false, not_false_eq_true, false_implies]
    have hend : ¬ (i < p.length ∧ i < 6) → a = (p.take 6).map ptE := fun h => by
      rw [hb]
      by_cases h1 : i = 6
      · rw [h1]
      · have e1 : p.take i = p := List.take_of_length_le (by omega)
        have e2 : p.take 6 = p := List.take_of_length_le (by omega)
        rw [e1, e2]
    apply Walks.shareX (X := Unit) (fun _ => ⟨[(7, .lfull 21), (6, .iv .str (textW l)), (5, .ref 5 0), (4, .ref 4 0), (2, .ref 2 0), (1, .iv (.int .i64) (26 : Int))],
      [(21, .arr PointT ((p.take 6).map ptE)), (5, .box [.iv (.int .i64) (kindE (k0, l, p, n, m)), .iv .str [], .nilsl, .iv .str [], .iv (.int .i64) (0 : Int), .iv (.int .i64) (0 : Int)]), (4, .box [.iv (.int .i64) (0 : Int), .iv .str [], .nilsl, .iv .str [], .iv (.int .i64) (0 : Int), .iv (.int .i64) (0 : Int)]), (2, .box [.iv (.int .u8) k0, .iv (.sl (.int .u8)) l, .iv (.sl (.st (.pair (.int .u8) (.int .u8)))) p, .iv (.int .u8) n, .iv (.int .u8) m])]⟩) (fun _ => True)
    · intro key
      refine ⟨fun h1 => ⟨fun h2 => ?_, fun h2 => ?_⟩, fun h1 => ?_⟩
      · obtain ⟨q, hq⟩ := get_of_lt (xs := p) (i := i) (by omega)
        have hqb := hp q (List.mem_of_getElem? hq)
        have e1 : Int.tmod (4 * q.1) 1001 = 4 * q.1 % 1001 := Int.tmod_eq_emod_of_nonneg (by omega)
        have e2 : Int.tmod (4 * q.2) 1001 = 4 * q.2 % 1001 := Int.tmod_eq_emod_of_nonneg (by omega)
        refine ⟨Int.natCast_nonneg _, q, hq, i64_ok (by omega) (by omega), Int.natCast_nonneg _, q, hq, i64_ok (by omega) (by omega), by omega, i64_ok (by omega) (by omega), ?_⟩
        rw [e1, e2]
        refine back _ (i + 1, a ++ [ptE q]) ?_ ⟨by dsimp only; omega, by dsimp only; omega, ?_⟩ (by dsimp only; omega)
        · exact (by refine ⟨?_, ?_, rfl, rfl⟩ <;> repeat' (first | exact trivial | (refine And.intro (Or.inl rfl) ?_) | (refine And.intro (Or.inr (Or.inl rfl)) ?_) | (refine And.intro (Or.inr (Or.inr (Or.inr ⟨rfl, rfl⟩))) ?_) | (refine And.intro (Or.inr (Or.inr (Or.inl ⟨rfl, rfl, trivial⟩))) ?_) | exact ⟨(by show (_ : Nat) < 1000000000; omega), rfl, rfl⟩ | rfl | (refine And.intro (Or.inl ?_) ?_) | (refine And.intro ?_ ?_)))
        · dsimp only
          rw [take_snoc hq, List.map_append, ← hb]; rfl
      · refine key _ () trivial ?_
        rw [← hend (by omega)]
        exact (by refine ⟨?_, ?_, rfl, rfl⟩ <;> repeat' (first | exact trivial | (refine And.intro (Or.inl rfl) ?_) | (refine And.intro (Or.inr (Or.inl rfl)) ?_) | (refine And.intro (Or.inr (Or.inr (Or.inr ⟨rfl, rfl⟩))) ?_) | (refine And.intro (Or.inr (Or.inr (Or.inl ⟨rfl, rfl, trivial⟩))) ?_) | exact ⟨(by show (_ : Nat) < 1000000000; omega), rfl, rfl⟩ | rfl | (refine And.intro (Or.inl ?_) ?_) | (refine And.intro ?_ ?_)))
      · refine key _ () trivial ?_
        rw [← hend (by omega)]
        exact (by refine ⟨?_, ?_, rfl, rfl⟩ <;> repeat' (first | exact trivial | (refine And.intro (Or.inl rfl) ?_) | (refine And.intro (Or.inr (Or.inl rfl)) ?_) | (refine And.intro (Or.inr (Or.inr (Or.inr ⟨rfl, rfl⟩))) ?_) | (refine And.intro (Or.inr (Or.inr (Or.inl ⟨rfl, rfl, trivial⟩))) ?_) | exact ⟨(by show (_ : Nat) < 1000000000; omega), rfl, rfl⟩ | rfl | (refine And.intro (Or.inl ?_) ?_) | (refine And.intro ?_ ?_)))
    · clear back hend hb hal hi h6
      intro _ _
      refine Walks.loopA (X := List (Int × Int)) (fun (b : List (Int × Int)) => [(7, .lfull 21)]) (fun (b : List (Int × Int)) => [(21, .arr PointT b)]) (fun (b : List (Int × Int)) => b.length ≤ 6 ∧ padE n b = ptsE (k0, l, p, n, m)) (fun (b : List (Int × Int)) => 2 - b.length) ((p.take 6).map ptE) ?_; intro b1 b2 hb1 hb2; simp (config := {maxSteps := 4000000}) only [go_sem, Nat.reduceBEq, ↓reduceIte, ↓reduceDIte, Nat.reduceAdd, Nat.reduceSub, Nat.reduceMul, Nat.reduceLeDiff, ← Bool.decide_and, ← Bool.decide_or, ← decide_not, Int.reduceLT, Int.reduceLE, Int.reduceToNat, Int.reduceNeg, by_nil, Int.reduceEq, not_true_eq_false, not_false_eq_true, false_implies] at hb1 hb2; subst hb1; subst hb2; refine ⟨(by refine ⟨?_, ?_, rfl, rfl⟩ <;> repeat' (first | exact trivial | (refine And.intro (Or.inl rfl) ?_) | (refine And.intro (Or.inr (Or.inl rfl)) ?_) | (refine And.intro (Or.inr (Or.inr (Or.inr ⟨rfl, rfl⟩))) ?_) | (refine And.intro (Or.inr (Or.inr (Or.inl ⟨rfl, rfl, trivial⟩))) ?_) | exact ⟨(by show (_ : Nat) < 1000000000; omega), rfl, rfl⟩ | rfl | (refine And.intro (Or.inl ?_) ?_) | (refine And.intro ?_ ?_))), ?_, ?_⟩
      · exact ⟨by rw [List.length_map, List.length_take]; omega, rfl⟩
      intro b ⟨h6, hb⟩ back
      refine PW_sound env_ok ⟨_, fn_12, rfl⟩ 2000 _ _ (by kernel_rfl) ?_; simp only [go_sem, Nat.reduceBEq, ↓reduceIte, ↓reduceDIte, Nat.reduceAdd, Nat.reduceSub, Nat.reduceMul, Nat.reduceLeDiff, ← Bool.decide_and, ← Bool.decide_or, ← decide_not, Int.reduceLT, Int.reduceLE, Int.reduceToNat, Int.reduceNeg, by_nil, Int.reduceEq, not_true_eq_false, not_false_eq_true, false_implies]
      refine ⟨fun h1 => ⟨i64_ok (by omega) (by omega), by omega, ?_⟩, fun h1 => ?_⟩
      · refine back _ (b ++ [(30 * (b.length : Int), n)]) ?_ ⟨by simp only [List.length_append, List.length_cons, List.length_nil]; omega, ?_⟩ (by simp only [List.length_append, List.length_cons, List.length_nil]; omega)
        · exact (by refine ⟨?_, ?_, rfl, rfl⟩ <;> repeat' (first | exact trivial | (refine And.intro (Or.inl rfl) ?_) | (refine And.intro (Or.inr (Or.inl rfl)) ?_) | (refine And.intro (Or.inr (Or.inr (Or.inr ⟨rfl, rfl⟩))) ?_) | (refine And.intro (Or.inr (Or.inr (Or.inl ⟨rfl, rfl, trivial⟩))) ?_) | exact ⟨(by show (_ : Nat) < 1000000000; omega), rfl, rfl⟩ | rfl | (refine And.intro (Or.inl ?_) ?_) | (refine And.intro ?_ ?_)))
        · rw [pad_step n b (by omega)]; exact hb
      · rw [pad_done n b (by omega)] at hb
        have hb1 : (1 : Int) ≤ (b.length : Nat) := by omega
        clear back hK t1
        repeat' (first | (with_reducible intro _) | (with_reducible apply And.intro) | (with_reducible refine ⟨_, c_chord n m hn hm, ?_⟩) | fail)
        all_goals first | omega | (simp_all [madeE]; done)
theorem chord_ok : ∀ a : Nat, a < 20 → ∀ c : Nat, c < 3 → ∀ b : Nat, b < 2 → ((List.range (2 + c)).map fun i => UInt8.ofNat (97 + (a + i * (1 + b)))).all low = true ∧ incS ((List.range (2 + c)).map fun i => UInt8.ofNat (97 + (a + i * (1 + b)))) = true := by decide
theorem chordE_ok {n m : Int} (hn : 0 ≤ n) (hm : 0 ≤ m) : (chordE n m).all low = true ∧ incS (chordE n m) = true :=
  chord_ok (n % 20).toNat (by omega) (m % 3).toNat (by omega) (m / 3 % 2).toNat (by omega)
theorem textE_low (l : List Int) : (textE l).all low = true := by
  unfold textE
  rw [List.all_map, List.all_eq_true]
  intro x _
  have h : (x % 26).toNat < 26 := by omega
  show low (UInt8.ofNat (97 + (x % 26).toNat)) = true
  generalize (x % 26).toNat = d at h
  revert d
  decide
theorem textW_low (l : List Int) : (textW l).all low = true := by
  unfold textW
  split
  · rfl
  · exact textE_low l
theorem all_take {α : Type} {p : α → Bool} {l : List α} (n : Nat) (h : l.all p = true) : (l.take n).all p = true := by
  rw [List.all_eq_true] at h ⊢
  exact fun x hx => h x (List.mem_of_mem_take hx)
theorem ptsE_ok {x : Raw} (hn : 0 ≤ x.2.2.2.1 ∧ x.2.2.2.1 ≤ 255) : (ptsE x).all cooP = true ∧ 2 ≤ (ptsE x).length ∧ (ptsE x).length ≤ 6 := by
  unfold ptsE
  have h1 : ((x.2.2.1.take 6).map ptE).all cooP = true := by
    rw [List.all_map, List.all_eq_true]
    intro q _
    show cooP (ptE q) = true
    simp only [cooP, inB, ptE, Bool.and_eq_true]
    exact ⟨decide_eq_true (by omega), decide_eq_true (by omega)⟩
  have h2 : ((x.2.2.1.take 6).map ptE).length ≤ 6 := by rw [List.length_map, List.length_take]; omega
  generalize (x.2.2.1.take 6).map ptE = a at h1 h2
  match a, h1, h2 with
  | [], _, _ =>
    refine ⟨?_, by simp [padE], by simp [padE]⟩
    simp only [padE, cooP, inB, List.all_cons, List.all_nil, Bool.and_true, Bool.and_eq_true, decide_eq_true_eq]; omega
  | [q], h1, _ => refine ⟨?_, by simp [padE], by simp [padE]⟩; simp only [padE, List.all_cons, List.all_nil, Bool.and_true] at h1 ⊢; rw [h1]; simp only [cooP, inB, Bool.true_and, Bool.and_eq_true, decide_eq_true_eq]; omega
  | a :: b :: c, h1, h2 => exact ⟨h1, by simp only [padE, List.length_cons]; omega, h2⟩
theorem made_ok {x : Raw} (h0 : 0 ≤ x.1) (h1 : 0 ≤ x.2.2.2.1 ∧ x.2.2.2.1 ≤ 255) (h2 : 0 ≤ x.2.2.2.2) : validE (madeE x) = true := by
  have hK : 1 ≤ kindE x ∧ kindE x ≤ 12 := by unfold kindE; omega
  have hp := ptsE_ok h1
  have hc := chordE_ok h1.1 h2
  have hcl := chordE_len x.2.2.2.1 x.2.2.2.2
  have htl := textW_low x.2.1
  have htn := textW_len x.2.1
  have ht1 := all_take 1 htl
  have hp1 := all_take 1 hp.1
  have hn40 : 0 ≤ x.2.2.2.1 % 40 ∧ x.2.2.2.1 % 40 ≤ 39 := by omega
  have hn50 : 0 ≤ x.2.2.2.1 % 50 ∧ x.2.2.2.1 % 50 ≤ 49 := by omega
  have hm40 : 1 ≤ 1 + x.2.2.2.2 % 40 ∧ 1 + x.2.2.2.2 % 40 ≤ 40 := by omega
  rcases kinds hK with h | h | h | h | h | h | h | h | h | h | h | h <;>
    (simp [validE, madeE, h, partK, partP, partT, partN, -List.all_eq_true, hc, htl, ht1, hp1, hp.1, hcl]; try omega)
end Go.Proofs.YtopelldocfbhkaaDoor
--SET+ by_nil, by10, Int.reduceEq, not_true_eq_false, not_false_eq_true, false_implies
namespace Go.Proofs.YtopelldocfbhkaaDoor
set_option maxHeartbeats 4000000
set_option maxRecDepth 100000
open Go.Lib
theorem by10 : bytesOf ⟨#[10]⟩ = ([10] : Str) := rfl
/-- The events of lines, behind those that there are. -/
def scriptL : List Ev → List Str → List Ev × Int × Int
  | acc, [] => (acc, acc.length, 0)
  | acc, [x] => if x = [] then (acc, acc.length, 0) else ([], acc.length, 3)
  | acc, x :: y :: r => if (parseS x).2 = 0 then scriptL (acc ++ [(parseS x).1]) (y :: r) else ([], acc.length, 3)
def scriptS (s : Str) : List Ev × Int × Int := scriptL [] (spl 10 s)
theorem scriptL_cons (acc : List Ev) (x : Str) (r : List Str) (h : r ≠ []) : scriptL acc (x :: r) = if (parseS x).2 = 0 then scriptL (acc ++ [(parseS x).1]) r else ([], acc.length, 3) := by
  cases r with
  | nil => exact absurd rfl h
  | cons y r => rfl
theorem parse_errno (s : Str) : (parseS s).2 = 0 ∨ (parseS s).2 = 3 := by
  rcases parse_or s with ⟨e, h⟩ | h <;> rw [h] <;> simp
theorem spl_part (c : UInt8) : ∀ {s x : Str}, x ∈ spl c s → x.length ≤ s.length
  | [], x, h => by simp only [spl, List.mem_singleton] at h; subst h; exact Nat.le_refl _
  | a :: r, x, h => by
    unfold spl at h
    split at h
    · rcases List.mem_cons.1 h with h | h
      · subst h; exact Nat.zero_le _
      · exact Nat.le_succ_of_le (spl_part c h)
    · split at h
      · rename_i e; exact absurd e (spl_ne c r)
      · rename_i h' t e
        rcases List.mem_cons.1 h with h | h
        · subst h
          have := spl_part c (s := r) (x := h') (by rw [e]; simp)
          simp only [List.length_cons]; omega
        · exact Nat.le_succ_of_le (spl_part c (s := r) (by rw [e]; simp [h]))
theorem c_Script (s : Str) (hs : s.length < 1000000) : PC env 20 [⟨.str, s⟩] (.tup (.sl EventT) (.tup (.int .i64) (.int .i64))) (scriptS s) := by
  refine PC.of_PW (m := 2000) env_ok fn_20 rfl rfl rfl rfl (by kernel_rfl) ?_; intro hx; simp only [Tryd.f20]; simp only [go_sem, Nat.reduceBEq, ↓reduceIte, ↓reduceDIte, Nat.reduceAdd, Nat.reduceSub, Nat.reduceMul, Nat.reduceLeDiff, ← Bool.decide_and, ← Bool.decide_or, ← decide_not, Int.reduceLT, Int.reduceLE, Int.reduceToNat, Int.reduceNeg, by_nil, by10, Int.reduceEq, not_true_eq_false, not_false_eq_true, false_implies]
  refine Walks.loopA (X := Str × List Ev) (fun (z : Str × List Ev) => [(0, .iv .str z.1), (5, .lfull 1000)]) (fun (z : Str × List Ev) => [(1000, .arr EventT z.2)]) (fun (z : Str × List Ev) => z.1.length + z.2.length < 1000000 ∧ scriptL z.2 (spl 10 z.1) = scriptS s) (fun (z : Str × List Ev) => z.1.length) (s, []) ?_; intro b1 b2 hb1 hb2; simp (config := {maxSteps := 4000000}) only [go_sem, Nat.reduceBEq, ↓reduceIte, ↓reduceDIte, Nat.reduceAdd, Nat.reduceSub, Nat.reduceMul, Nat.reduceLeDiff, ← Bool.decide_and, ← Bool.decide_or, ← decide_not, Int.reduceLT, Int.reduceLE, Int.reduceToNat, Int.reduceNeg, by_nil, by10, Int.reduceEq, not_true_eq_false, not_false_eq_true, false_implies] at hb1 hb2; subst hb1; subst hb2; refine ⟨(by refine ⟨?_, ?_, rfl, rfl⟩ <;> repeat' (first | exact trivial | (refine And.intro (Or.inl rfl) ?_) | (refine And.intro (Or.inr (Or.inl rfl)) ?_) | (refine And.intro (Or.inr (Or.inr (Or.inr ⟨rfl, rfl⟩))) ?_) | (refine And.intro (Or.inr (Or.inr (Or.inl ⟨rfl, rfl, trivial⟩))) ?_) | exact ⟨(by show (_ : Nat) < 1000000000; omega), rfl, rfl⟩ | rfl | (refine And.intro (Or.inl ?_) ?_) | (refine And.intro ?_ ?_))), ?_, ?_⟩
  · exact ⟨by simpa using hs, rfl⟩
  intro ⟨t, a⟩ ⟨hl, hb⟩ back
  dsimp only at hl hb
  refine PW_sound env_ok ⟨_, fn_20, rfl⟩ 2000 _ _ (by kernel_rfl) ?_; simp only [go_sem, Nat.reduceBEq, ↓reduceIte, ↓reduceDIte, Nat.reduceAdd, Nat.reduceSub, Nat.reduceMul, Nat.reduceLeDiff, ← Bool.decide_and, ← Bool.decide_or, ← decide_not, Int.reduceLT, Int.reduceLE, Int.reduceToNat, Int.reduceNeg, by_nil, by10, Int.reduceEq, not_true_eq_false, not_false_eq_true, false_implies]
  refine ⟨fun h => ⟨_, c_Cut t [10] (by omega), ?_⟩, fun h => ?_⟩
  · rcases first_c 10 t with hn | ⟨x, r, rfl, hx'⟩
    · rw [cut_no hn]
      simp only [go_sem, Nat.reduceBEq, ↓reduceIte, ↓reduceDIte, Nat.reduceAdd, Nat.reduceSub, Nat.reduceMul, Nat.reduceLeDiff, ← Bool.decide_and, ← Bool.decide_or, ← decide_not, Int.reduceLT, Int.reduceLE, Int.reduceToNat, Int.reduceNeg, by_nil, by10, Int.reduceEq, not_true_eq_false, not_false_eq_true, false_implies]
      intro _
      rw [← hb, spl_no 10 hn]
      show _ = if t = [] then _ else _
      rw [if_neg h]
    · rw [cut_yes hx']
      simp only [go_sem, Nat.reduceBEq, ↓reduceIte, ↓reduceDIte, Nat.reduceAdd, Nat.reduceSub, Nat.reduceMul, Nat.reduceLeDiff, ← Bool.decide_and, ← Bool.decide_or, ← decide_not, Int.reduceLT, Int.reduceLE, Int.reduceToNat, Int.reduceNeg, by_nil, by10, Int.reduceEq, not_true_eq_false, not_false_eq_true, false_implies]
      have hxl : x.length < 1000000 := by simp only [List.length_append, List.length_cons] at hl; omega
      rw [spl_cons 10 r hx', scriptL_cons _ _ _ (spl_ne 10 r)] at hb
      refine fun _ => ⟨_, c_Parse x (by omega), fun _ => ⟨fun h1 => ?_, fun h1 => ⟨by omega, ?_⟩⟩⟩
      · rw [if_neg h1] at hb
        rw [← hb]
        rcases parse_errno x with h2 | h2
        · exact absurd h2 h1
        · rw [h2]
      · rw [if_pos h1] at hb
        refine back _ (r, a ++ [(parseS x).1]) ?_ ⟨by simp only [List.length_append, List.length_cons, List.length_nil] at hl ⊢; omega, hb⟩ (by simp only [List.length_append, List.length_cons]; omega)
        exact (by refine ⟨?_, ?_, rfl, rfl⟩ <;> repeat' (first | exact trivial | (refine And.intro (Or.inl rfl) ?_) | (refine And.intro (Or.inr (Or.inl rfl)) ?_) | (refine And.intro (Or.inr (Or.inr (Or.inr ⟨rfl, rfl⟩))) ?_) | (refine And.intro (Or.inr (Or.inr (Or.inl ⟨rfl, rfl, trivial⟩))) ?_) | exact ⟨(by show (_ : Nat) < 1000000000; omega), rfl, rfl⟩ | rfl | (refine And.intro (Or.inl ?_) ?_) | (refine And.intro ?_ ?_)))
  · have h : t = [] := h
    subst h
    exact hb
theorem c_ScriptR (s : Str) (hs : s.length < 1000000) : PC env 22 [⟨.str, s⟩] (.tup (.sl EventT) (.tup (.int .i64) (.int .i64))) (scriptS s) := by
  refine PC.of_PW (m := 2000) env_ok fn_22 rfl rfl rfl rfl (by kernel_rfl) ?_; intro hx; simp only [Tryd.f22]; simp only [go_sem, Nat.reduceBEq, ↓reduceIte, ↓reduceDIte, Nat.reduceAdd, Nat.reduceSub, Nat.reduceMul, Nat.reduceLeDiff, ← Bool.decide_and, ← Bool.decide_or, ← decide_not, Int.reduceLT, Int.reduceLE, Int.reduceToNat, Int.reduceNeg, by_nil, by10, Int.reduceEq, not_true_eq_false, not_false_eq_true, false_implies]
  refine ⟨_, c_SplitR s 10 (by omega), fun hf => ?_⟩
  refine Walks.loopA (X := Nat × List Ev) (fun (z : Nat × List Ev) => [(7, .iv (.int .i64) (z.1 : Int)), (6, .lfull 12), (12, .any)]) (fun (z : Nat × List Ev) => [(12, .arr EventT z.2)]) (fun (z : Nat × List Ev) => z.1 < (spl 10 s).length ∧ z.2.length = z.1 ∧ scriptL z.2 ((spl 10 s).drop z.1) = scriptS s) (fun (z : Nat × List Ev) => (spl 10 s).length - z.1) (0, []) ?_; intro b1 b2 hb1 hb2; simp (config := {maxSteps := 4000000}) only [go_sem, Nat.reduceBEq, ↓reduceIte, ↓reduceDIte, Nat.reduceAdd, Nat.reduceSub, Nat.reduceMul, Nat.reduceLeDiff, ← Bool.decide_and, ← Bool.decide_or, ← decide_not, Int.reduceLT, Int.reduceLE, Int.reduceToNat, Int.reduceNeg, by_nil, by10, Int.reduceEq, not_true_eq_false, not_false_eq_true, false_implies] at hb1 hb2; subst hb1; subst hb2; refine ⟨(by refine ⟨?_, ?_, rfl, rfl⟩ <;> repeat' (first | exact trivial | (refine And.intro (Or.inl rfl) ?_) | (refine And.intro (Or.inr (Or.inl rfl)) ?_) | (refine And.intro (Or.inr (Or.inr (Or.inr ⟨rfl, rfl⟩))) ?_) | (refine And.intro (Or.inr (Or.inr (Or.inl ⟨rfl, rfl, trivial⟩))) ?_) | exact ⟨(by show (_ : Nat) < 1000000000; omega), rfl, rfl⟩ | rfl | (refine And.intro (Or.inl ?_) ?_) | (refine And.intro ?_ ?_))), ?_, ?_⟩
  · exact ⟨by have := spl_ne 10 s; cases h : spl 10 s with | nil => exact absurd h this | cons => simp, rfl, rfl⟩
  intro ⟨i, a⟩ ⟨hl, hal, hb⟩ back
  dsimp only at hl hal hb
  have hspl := spl_len 10 s
  refine PW_sound env_ok ⟨_, fn_22, rfl⟩ 2000 _ _ (by kernel_rfl) ?_; simp only [go_sem, Nat.reduceBEq, ↓reduceIte, ↓reduceDIte, Nat.reduceAdd, Nat.reduceSub, Nat.reduceMul, Nat.reduceLeDiff, ← Bool.decide_and, ← Bool.decide_or, ← decide_not, Int.reduceLT, Int.reduceLE, Int.reduceToNat, Int.reduceNeg, by_nil, by10, Int.reduceEq, not_true_eq_false, not_false_eq_true, false_implies]
  obtain ⟨x, hxi⟩ := get_of_lt (xs := spl 10 s) (i := i) hl
  have hxl : x.length < 1000000 := by
    have : x.length ≤ s.length := spl_part 10 (List.mem_of_getElem? hxi)
    omega
  rw [drop_cons hxi] at hb
  have hlast : i + 1 = (spl 10 s).length → scriptS s = if x = [] then (a, ((a.length : Nat) : Int), 0) else ([], ((a.length : Nat) : Int), 3) := fun h => by
    rw [List.drop_of_length_le (by omega)] at hb
    exact hb.symm
  have hmore : ¬ i + 1 = (spl 10 s).length → scriptS s = if (parseS x).2 = 0 then scriptL (a ++ [(parseS x).1]) ((spl 10 s).drop (i + 1)) else ([], ((a.length : Nat) : Int), 3) := fun h => by
    rw [← hb]
    refine scriptL_cons _ _ _ fun e => ?_
    have := congrArg List.length e
    rw [List.length_drop] at this
    simp at this; omega
  rw [hal] at hlast hmore
  refine ⟨fun h1 => ⟨i64_ok (by omega) (by omega), fun h2 => ⟨Int.natCast_nonneg _, x, hxi, fun h3 => ?_, fun h3 => ⟨Int.natCast_nonneg _, x, hxi, _, c_ParseR x hxl, fun _ => ⟨fun h4 => ⟨i64_ok (by omega) (by omega), fun h5 => ?_, fun h5 => by omega⟩, fun h4 => ?_⟩⟩⟩, fun h2 => ⟨Int.natCast_nonneg _, x, hxi, _, c_ParseR x hxl, fun _ => ⟨fun h4 => ⟨i64_ok (by omega) (by omega), fun h5 => by omega, fun h5 => ⟨by omega, i64_ok (by omega) (by omega), ?_⟩⟩, fun h4 => ?_⟩⟩⟩, fun h1 => by omega⟩
  · rw [hlast (by omega), if_pos h3, hal]
  · rw [hlast (by omega), if_neg h3]
  · rw [hlast (by omega), if_neg h3]
  · have hm := hmore (by omega)
    rw [if_pos h4] at hm
    refine back _ (i + 1, a ++ [(parseS x).1]) ?_ ⟨by dsimp only; omega, by simp only [List.length_append, List.length_cons, List.length_nil]; omega, hm.symm⟩ (by dsimp only; omega)
    exact (by refine ⟨?_, ?_, rfl, rfl⟩ <;> repeat' (first | exact trivial | (refine And.intro (Or.inl rfl) ?_) | (refine And.intro (Or.inr (Or.inl rfl)) ?_) | (refine And.intro (Or.inr (Or.inr (Or.inr ⟨rfl, rfl⟩))) ?_) | (refine And.intro (Or.inr (Or.inr (Or.inl ⟨rfl, rfl, trivial⟩))) ?_) | exact ⟨(by show (_ : Nat) < 1000000000; omega), rfl, rfl⟩ | rfl | (refine And.intro (Or.inl ?_) ?_) | (refine And.intro ?_ ?_)))
  · rw [hmore (by omega), if_neg h4]
end Go.Proofs.YtopelldocfbhkaaDoor
--SET+ by_nil, by10, by32, Int.reduceEq, not_true_eq_false, not_false_eq_true, false_implies
namespace Go.Proofs.YtopelldocfbhkaaDoor
set_option maxHeartbeats 4000000
set_option maxRecDepth 100000
open Go.Lib
theorem pe1 : parseS [115, 116, 114, 111, 107, 101, 32, 49, 32, 49, 32, 50, 32, 50, 48] = ((4, [], [(1, 1), (2, 20)], [], 0, 0), 0) := by kernel_rfl
theorem pe2 : parseS [99, 104, 111, 114, 100, 32, 98, 97] = (ev0, 3) := by kernel_rfl
theorem pe3 : parseS [116, 111, 117, 99, 104, 32, 48, 49, 32, 49] = (ev0, 3) := by kernel_rfl
theorem pe4 : parseS [104, 111, 108, 100, 32, 48, 32, 48] = (ev0, 3) := by kernel_rfl
theorem pe5 : parseS [101, 114, 97, 115, 101, 32] = (ev0, 3) := by kernel_rfl
theorem pe6 : parseS [104, 111, 108, 100, 32, 48, 32, 50] = ((9, [], [], [], 0, 2), 0) := by kernel_rfl
theorem se1 : scriptS [101, 114, 97, 115, 101, 10, 104, 111, 108, 100, 32, 48, 32, 50, 10] = ([(6, [], [], [], 0, 0), (9, [], [], [], 0, 2)], 2, 0) := by kernel_rfl
theorem se2 : scriptS [101, 114, 97, 115, 101, 10, 104, 111, 108, 100, 32, 48, 32, 50] = ([], 1, 3) := by kernel_rfl
theorem se3 : scriptS [10] = ([], 0, 3) := by kernel_rfl
theorem se4 : scriptS [] = ([], 0, 0) := by kernel_rfl
theorem c_sanity : PC env 10 [] .bool true := by
  have p1 := c_Parse [115, 116, 114, 111, 107, 101, 32, 49, 32, 49, 32, 50, 32, 50, 48] (by decide)
  rw [pe1] at p1
  have p2 := c_Parse [99, 104, 111, 114, 100, 32, 98, 97] (by decide)
  rw [pe2] at p2
  have p3 := c_Parse [116, 111, 117, 99, 104, 32, 48, 49, 32, 49] (by decide)
  rw [pe3] at p3
  have p4 := c_Parse [104, 111, 108, 100, 32, 48, 32, 48] (by decide)
  rw [pe4] at p4
  have p5 := c_Parse [101, 114, 97, 115, 101, 32] (by decide)
  rw [pe5] at p5
  have p6 := c_Parse [104, 111, 108, 100, 32, 48, 32, 50] (by decide)
  rw [pe6] at p6
  have s1 := c_Script [101, 114, 97, 115, 101, 10, 104, 111, 108, 100, 32, 48, 32, 50, 10] (by decide)
  rw [se1] at s1
  have s2 := c_Script [101, 114, 97, 115, 101, 10, 104, 111, 108, 100, 32, 48, 32, 50] (by decide)
  rw [se2] at s2
  have s3 := c_Script [10] (by decide)
  rw [se3] at s3
  have s4 := c_Script [] (by decide)
  rw [se4] at s4
  have l1 := c_Print (4, [], [(1, 1), (2, 20)], [], 0, 0) (by decide) (by decide) (by rw [(parse_yes pe1).2]; decide)
  rw [(parse_yes pe1).2] at l1
  have l2 := c_Print (9, [], [], [], 0, 2) (by decide) (by decide) (by rw [(parse_yes pe6).2]; decide)
  rw [(parse_yes pe6).2] at l2
  have q1 := c_Same (4, [], [(1, 1), (2, 20)], [], 0, 0) (4, [], [(1, 1), (2, 20)], [], 0, 0)
  rw [eqP_t rfl] at q1
  have q2 := c_Same (9, [], [], [], 0, 2) (9, [], [], [], 0, 2)
  rw [eqP_t rfl] at q2
  have q3 := c_SameAll [(6, [], [], [], 0, 0), (9, [], [], [], 0, 2)] [(6, [], [], [], 0, 0), (9, [], [], [], 0, 2)]
  rw [eqP_t rfl] at q3
  have v1 := c_Valid (4, [], [(1, 1), (2, 20)], [], 0, 0)
  rw [show validE (4, [], [(1, 1), (2, 20)], [], 0, 0) = true from by kernel_rfl] at v1
  have v2 := c_Valid ev0
  rw [show validE ev0 = false from by kernel_rfl] at v2
  have v3 := c_Valid (1, [97, 98], [], [], 0, 0)
  rw [show validE (1, [97, 98], [], [], 0, 0) = false from by kernel_rfl] at v3
  refine PC.of_PW (m := 2000) env_ok fn_10 rfl rfl rfl rfl (by kernel_rfl) ?_; intro hx; simp only [Tryd.f10]; simp (config := {maxSteps := 4000000}) only [go_sem, Nat.reduceBEq, ↓reduceIte, ↓reduceDIte, Nat.reduceAdd, Nat.reduceSub, Nat.reduceMul, Nat.reduceLeDiff, ← Bool.decide_and, ← Bool.decide_or, ← decide_not, Int.reduceLT, Int.reduceLE, Int.reduceToNat, Int.reduceNeg, by_nil, by10, by32, Int.reduceEq, not_true_eq_false, not_false_eq_true, false_implies]
  refine ⟨_, p1, fun _ => ⟨_, p2, fun _ => ⟨_, p3, fun _ => ⟨_, p4, fun _ => ⟨_, p5, fun _ => ⟨_, p6, fun _ => ?_⟩⟩⟩⟩⟩⟩
  refine ⟨_, s1, fun _ => ⟨_, s2, fun _ => ⟨_, s3, fun _ => ⟨_, s4, fun _ => ?_⟩⟩⟩⟩
  repeat' (first
    | (refine ⟨fun _ => ?_, fun g => absurd rfl g⟩)
    | (refine ⟨_, l1, fun _ => ?_⟩)
    | (refine ⟨_, l2, fun _ => ?_⟩)
    | (refine ⟨_, q1, ?_⟩)
    | (refine ⟨_, q2, ?_⟩)
    | (refine ⟨_, q3, ?_⟩)
    | (refine ⟨_, v1, ?_⟩)
    | (refine ⟨_, v2, ?_⟩)
    | (refine ⟨_, v3, ?_⟩))
  simp (config := {maxSteps := 4000000}) only [go_sem, Nat.reduceBEq, ↓reduceIte, ↓reduceDIte, Nat.reduceAdd, Nat.reduceSub, Nat.reduceMul, Nat.reduceLeDiff, ← Bool.decide_and, ← Bool.decide_or, ← decide_not, Int.reduceLT, Int.reduceLE, Int.reduceToNat, Int.reduceNeg, by_nil, by10, by32, Int.reduceEq, not_true_eq_false, not_false_eq_true, false_implies]
  repeat' (first
    | (refine ⟨fun _ => ?_, fun g => absurd rfl g⟩)
    | (refine ⟨_, q2, ?_⟩))
  simp (config := {maxSteps := 4000000}) only [go_sem, Nat.reduceBEq, ↓reduceIte, ↓reduceDIte, Nat.reduceAdd, Nat.reduceSub, Nat.reduceMul, Nat.reduceLeDiff, ← Bool.decide_and, ← Bool.decide_or, ← decide_not, Int.reduceLT, Int.reduceLE, Int.reduceToNat, Int.reduceNeg, by_nil, by10, by32, Int.reduceEq, not_true_eq_false, not_false_eq_true, false_implies]
  repeat' (first
    | (refine ⟨fun _ => ?_, fun g => absurd rfl g⟩)
    | (refine ⟨_, q3, ?_⟩))
  simp (config := {maxSteps := 4000000}) only [go_sem, Nat.reduceBEq, ↓reduceIte, ↓reduceDIte, Nat.reduceAdd, Nat.reduceSub, Nat.reduceMul, Nat.reduceLeDiff, ← Bool.decide_and, ← Bool.decide_or, ← decide_not, Int.reduceLT, Int.reduceLE, Int.reduceToNat, Int.reduceNeg, by_nil, by10, by32, Int.reduceEq, not_true_eq_false, not_false_eq_true, false_implies]
  refine ⟨_, v1, ?_⟩
  simp (config := {maxSteps := 4000000}) only [go_sem, Nat.reduceBEq, ↓reduceIte, ↓reduceDIte, Nat.reduceAdd, Nat.reduceSub, Nat.reduceMul, Nat.reduceLeDiff, ← Bool.decide_and, ← Bool.decide_or, ← decide_not, Int.reduceLT, Int.reduceLE, Int.reduceToNat, Int.reduceNeg, by_nil, by10, by32, Int.reduceEq, not_true_eq_false, not_false_eq_true, false_implies]
  refine ⟨_, v2, ?_⟩
  simp (config := {maxSteps := 4000000}) only [go_sem, Nat.reduceBEq, ↓reduceIte, ↓reduceDIte, Nat.reduceAdd, Nat.reduceSub, Nat.reduceMul, Nat.reduceLeDiff, ← Bool.decide_and, ← Bool.decide_or, ← decide_not, Int.reduceLT, Int.reduceLE, Int.reduceToNat, Int.reduceNeg, by_nil, by10, by32, Int.reduceEq, not_true_eq_false, not_false_eq_true, false_implies]
  exact ⟨_, v3, rfl⟩
end Go.Proofs.YtopelldocfbhkaaDoor
