/- The law LearnOthers holds for every input. No condition. -/
import Derived.Test.YtnncphnpajkojaaB5
import Derived.Test.YtnncphnpajkojaaRows
set_option linter.unusedSimpArgs false
set_option linter.unusedVariables false
namespace Go.Proofs.Ytnncphnpajkojaa
set_option maxHeartbeats 4000000
set_option maxRecDepth 100000
theorem c_Others (l : List Raw6) (x : Raw6) (e : Int) : PC env 8 [⟨.sl RawT, l⟩, ⟨RawT, x⟩, ⟨.int .u8, e⟩] .bool true := by
  refine PC.of_PW (m := 2000) env_ok fn_8 rfl rfl rfl rfl (by kernel_rfl) ?_; intro hx; simp only [Try.f8]; simp only [go_sem, Nat.reduceBEq, ↓reduceIte, ↓reduceDIte, Nat.reduceAdd, Nat.reduceSub, Nat.reduceMul, Nat.reduceLeDiff, ← Bool.decide_and, ← Bool.decide_or, ← decide_not, Int.reduceLT, Int.reduceLE, Int.reduceToNat, Int.reduceNeg]
  have hg := made_good hx.1.2 12 (by omega)
  have hxo : RawT.ok x := hx.2.1
  have he := u8_of hx.2.2.1
  dsimp only at he
  refine ⟨_, c_sanity, _, c_MadeR l 12 (by omega) (by omega), ?_⟩
  rw [show ((12 : Int)).toNat = 12 from rfl]
  generalize madeU (l.take 12) = u at hg
  obtain ⟨hv, hf⟩ := hg
  have hlen := hf.1
  obtain ⟨d0, d7⟩ := ordS_dev hxo
  have hl2 := hf.2.1
  have hlst := hf.2.2 _ d0 d7
  have hF := forgetS_eq (o := ordS x) (u := u) (ordS_right hxo) (by omega) (by omega)
  have hv2 := forget_VU hv (ordS_right hxo) (by omega) (by omega)
  have cF := c_Forget u (ordS x) (by omega)
  have hcount : ∀ (w : List UInt8) (m : Int), u.1.any (fun r => decide (r.2.2.2.1 = w) && meansS (ordS x) r) = false → countS (forgetS u (ordS x)).1.1 w m = countS u.1 w m := fun w m h => by
    rw [hF]
    refine count_filter fun r hr hw => ?_
    have := List.any_eq_false.1 h r hr
    rw [decide_eq_true hw, Bool.true_and, ordS_means hxo (hv.rcd r hr).1 (getL u.2.2 (ordS x).1 + 1)] at this
    rw [Bool.eq_false_iff.2 this]
    rfl
  have hz : (forgetS u (ordS x)).2 = 0 := by rw [hF]
  clear hF
  refine fun _ => ⟨_, c_Order x, fun _ => ⟨_, cF, fun _ => ?_⟩⟩
  generalize forgetS u (ordS x) = a at hz hcount hv2
  obtain ⟨a, er⟩ := a
  dsimp only at hz hcount hv2
  subst hz
  simp only [go_sem, Nat.reduceBEq, ↓reduceIte, ↓reduceDIte, Nat.reduceAdd, Nat.reduceSub, Nat.reduceMul, Nat.reduceLeDiff, ← Bool.decide_and, ← Bool.decide_or, ← decide_not, Int.reduceLT, Int.reduceLE, Int.reduceToNat, Int.reduceNeg]
  refine ⟨fun h => absurd trivial h, ?_⟩
  refine Walks.loopA (X := Nat) (fun (n : Nat) => [(12, .iv (.int .i64) (n : Int))]) (fun (n : Nat) => []) (fun (n : Nat) => n ≤ 4) (fun (n : Nat) => 4 - n) 0 ?_; intro b1 b2 hb1 hb2; simp (config := {maxSteps := 4000000}) only [go_sem, Nat.reduceBEq, ↓reduceIte, ↓reduceDIte, Nat.reduceAdd, Nat.reduceSub, Nat.reduceMul, Nat.reduceLeDiff, ← Bool.decide_and, ← Bool.decide_or, ← decide_not, Int.reduceLT, Int.reduceLE, Int.reduceToNat, Int.reduceNeg] at hb1 hb2; subst hb1; subst hb2; refine ⟨(by refine ⟨?_, ?_, rfl, rfl⟩ <;> repeat' (first | exact trivial | (refine And.intro (Or.inl rfl) ?_) | (refine And.intro (Or.inr (Or.inl rfl)) ?_) | (refine And.intro (Or.inr (Or.inr (Or.inr ⟨rfl, rfl⟩))) ?_) | rfl | (refine And.intro (Or.inl ?_) ?_) | (refine And.intro ?_ ?_))), ?_, ?_⟩
  · exact Nat.zero_le _
  intro n hn back
  refine PW_sound env_ok ⟨_, fn_8, rfl⟩ 2000 _ _ (by kernel_rfl) ?_; simp only [go_sem, Nat.reduceBEq, ↓reduceIte, ↓reduceDIte, Nat.reduceAdd, Nat.reduceSub, Nat.reduceMul, Nat.reduceLeDiff, ← Bool.decide_and, ← Bool.decide_or, ← decide_not, Int.reduceLT, Int.reduceLE, Int.reduceToNat, Int.reduceNeg]
  refine ⟨fun h1 => ⟨_, c_WordR _, fun _ => ?_⟩, fun _ => ?_⟩
  · generalize rawW _ = w
    refine Walks.loopA (X := Nat × Bool) (fun (z : Nat × Bool) => [(15, .iv (.int .i64) (z.1 : Int)), (14, .iv .bool z.2)]) (fun (z : Nat × Bool) => []) (fun (z : Nat × Bool) => z.1 ≤ u.1.length ∧ z.2 = (u.1.take z.1).any (fun r => decide (r.2.2.2.1 = w) && meansS (ordS x) r)) (fun (z : Nat × Bool) => u.1.length - z.1) (0, false) ?_; intro b1 b2 hb1 hb2; simp (config := {maxSteps := 4000000}) only [go_sem, Nat.reduceBEq, ↓reduceIte, ↓reduceDIte, Nat.reduceAdd, Nat.reduceSub, Nat.reduceMul, Nat.reduceLeDiff, ← Bool.decide_and, ← Bool.decide_or, ← decide_not, Int.reduceLT, Int.reduceLE, Int.reduceToNat, Int.reduceNeg] at hb1 hb2; subst hb1; subst hb2; refine ⟨(by refine ⟨?_, ?_, rfl, rfl⟩ <;> repeat' (first | exact trivial | (refine And.intro (Or.inl rfl) ?_) | (refine And.intro (Or.inr (Or.inl rfl)) ?_) | (refine And.intro (Or.inr (Or.inr (Or.inr ⟨rfl, rfl⟩))) ?_) | rfl | (refine And.intro (Or.inl ?_) ?_) | (refine And.intro ?_ ?_))), ?_, ?_⟩
    · exact ⟨Nat.zero_le _, rfl⟩
    intro ⟨i, b⟩ ⟨hi, hb⟩ backi
    dsimp only at hi hb
    cases b
    · refine PW_sound env_ok ⟨_, fn_8, rfl⟩ 2000 _ _ (by kernel_rfl) ?_; simp only [go_sem, Nat.reduceBEq, ↓reduceIte, ↓reduceDIte, Nat.reduceAdd, Nat.reduceSub, Nat.reduceMul, Nat.reduceLeDiff, ← Bool.decide_and, ← Bool.decide_or, ← decide_not, Int.reduceLT, Int.reduceLE, Int.reduceToNat, Int.reduceNeg]
      refine ⟨fun h2 => ?_, fun h2 => ?_⟩
      · obtain ⟨r, hri⟩ : ∃ r, u.1[i]? = some r := get_of_lt (by omega)
        have hst := any_step (p := fun r => decide (r.2.2.2.1 = w) && meansS (ordS x) r) hri
        rw [← hb, Bool.false_or] at hst
        refine ⟨Int.natCast_nonneg _, r, hri, fun h3 => ⟨Int.natCast_nonneg _, r, hri, _, c_MeansR (ordS x) r, ?_⟩, fun h3 => ?_⟩
        · refine ⟨i64_ok (by omega) (by omega), backi _ (i + 1, meansS (ordS x) r) (by refine ⟨?_, ?_, rfl, rfl⟩ <;> repeat' (first | exact trivial | (refine And.intro (Or.inl rfl) ?_) | (refine And.intro (Or.inr (Or.inl rfl)) ?_) | (refine And.intro (Or.inr (Or.inr (Or.inr ⟨rfl, rfl⟩))) ?_) | rfl | (refine And.intro (Or.inl ?_) ?_) | (refine And.intro ?_ ?_))) ⟨by dsimp only; omega, by dsimp only; rw [hst, decide_eq_true h3]; rfl⟩ (by dsimp only; omega)⟩
        · refine ⟨i64_ok (by omega) (by omega), backi _ (i + 1, false) (by refine ⟨?_, ?_, rfl, rfl⟩ <;> repeat' (first | exact trivial | (refine And.intro (Or.inl rfl) ?_) | (refine And.intro (Or.inr (Or.inl rfl)) ?_) | (refine And.intro (Or.inr (Or.inr (Or.inr ⟨rfl, rfl⟩))) ?_) | rfl | (refine And.intro (Or.inl ?_) ?_) | (refine And.intro ?_ ?_))) ⟨by dsimp only; omega, by dsimp only; rw [hst, decide_eq_false h3]; rfl⟩ (by dsimp only; omega)⟩
      · have e1 : u.1.take i = u.1 := List.take_of_length_le (by omega)
        rw [e1] at hb
        have hc := hcount w (e.tmod 20) hb.symm
        refine ⟨_, c_Count a w _ hv2.tame, fun _ => ⟨_, c_Count u w _ hv.tame, fun _ => ⟨fun hne => absurd hc hne, fun _ => ⟨i64_ok (by omega) (by omega), back _ (n + 1) (by refine ⟨?_, ?_, rfl, rfl⟩ <;> repeat' (first | exact trivial | (refine And.intro (Or.inl rfl) ?_) | (refine And.intro (Or.inr (Or.inl rfl)) ?_) | (refine And.intro (Or.inr (Or.inr (Or.inr ⟨rfl, rfl⟩))) ?_) | rfl | (refine And.intro (Or.inl ?_) ?_) | (refine And.intro ?_ ?_))) (by omega) (by omega)⟩⟩⟩⟩
    · refine PW_sound env_ok ⟨_, fn_8, rfl⟩ 2000 _ _ (by kernel_rfl) ?_; simp only [go_sem, Nat.reduceBEq, ↓reduceIte, ↓reduceDIte, Nat.reduceAdd, Nat.reduceSub, Nat.reduceMul, Nat.reduceLeDiff, ← Bool.decide_and, ← Bool.decide_or, ← decide_not, Int.reduceLT, Int.reduceLE, Int.reduceToNat, Int.reduceNeg]
      refine ⟨fun h2 => ?_, fun h2 => ⟨i64_ok (by omega) (by omega), back _ (n + 1) (by refine ⟨?_, ?_, rfl, rfl⟩ <;> repeat' (first | exact trivial | (refine And.intro (Or.inl rfl) ?_) | (refine And.intro (Or.inr (Or.inl rfl)) ?_) | (refine And.intro (Or.inr (Or.inr (Or.inr ⟨rfl, rfl⟩))) ?_) | rfl | (refine And.intro (Or.inl ?_) ?_) | (refine And.intro ?_ ?_))) (by omega) (by omega)⟩⟩
      obtain ⟨r, hri⟩ : ∃ r, u.1[i]? = some r := get_of_lt (by omega)
      have hst := any_step (p := fun r => decide (r.2.2.2.1 = w) && meansS (ordS x) r) hri
      rw [← hb, Bool.true_or] at hst
      exact ⟨i64_ok (by omega) (by omega), backi _ (i + 1, true) (by refine ⟨?_, ?_, rfl, rfl⟩ <;> repeat' (first | exact trivial | (refine And.intro (Or.inl rfl) ?_) | (refine And.intro (Or.inr (Or.inl rfl)) ?_) | (refine And.intro (Or.inr (Or.inr (Or.inr ⟨rfl, rfl⟩))) ?_) | rfl | (refine And.intro (Or.inl ?_) ?_) | (refine And.intro ?_ ?_))) ⟨by dsimp only; omega, by dsimp only; rw [hst]⟩ (by dsimp only; omega)⟩
  · trivial
end Go.Proofs.Ytnncphnpajkojaa
namespace Go.Proofs.Ytnncphnpajkojaa
open Go.ChangeShapes Go.WideShapes Go.ChangeAt Go.RowKit
theorem own_none : ownKnob Try.prog.godebug = none := by kernel_rfl
theorem laid_out : laidOutB env.P = true := by kernel_rfl
theorem others_all (xs : List (Sigma Ty.den)) (h : xs.map (·.1) = [.sl RawT, RawT, .int .u8]) : PC env 8 xs .bool true := by
  match xs, h with
  | [⟨_, y0⟩, ⟨_, y1⟩, ⟨_, y2⟩], h =>
    injection h with h1 h
    injection h with h2 h
    injection h with h3 h
    dsimp only at h1 h2 h3
    subst h1 h2 h3
    exact c_Others y0 y1 y2
set_option maxRecDepth 100000 in
theorem others_lifted (os : Os) (started : os.Started) (H : Type) (enc : TypeId × Value → H) :
    ReturnsInHanded {} Try.checked os 8 .any (Rows.learnOthersSpec.pre6 enc Try.prog Try.f8 Rows.learnOthersRow.domain false) (Rows.learnOthersSpec.post enc Try.prog Try.f8 false true false false) := by
  refine returnsInHanded_of_change (C := Try.checked) own_none started (by kernel_rfl) fn_8
    (ChangeSpec.witness6 (enc := enc) (C := Try.checked) false ⟨#[], #[.slice none 0 0, .agg #[.int .u8 0, .int .u8 0, .int .u8 0, .int .u8 0, .int .u8 0, .int .u8 0], .int .u8 0], []⟩ 8 (by kernel_rfl) (by kernel_rfl) (by kernel_rfl) (by kernel_rfl)) ?_
  intro W base args ds gs before hval hW _ _
  refine law_calls (E := env) (b0 := base) (Ts := [.sl RawT, RawT, .int .u8]) (tb := 4) env_ok laid_out (of_decide_eq_true (by kernel_rfl)) rfl rfl rfl (by kernel_rfl) rfl ?_ others_all hval hW
  intro ds hds
  match ds, hds with
  | [d0, d1, d2], _ => rfl
theorem others_holds : Rows.LearnOthersSaid :=
  OpenClaim.holds_of_wide 8 Try.f8 rfl rfl rfl rfl rfl rfl rfl ⟨rfl, rfl, rfl, rfl, rfl⟩ rfl rfl rfl rfl rfl (by kernel_rfl) fn_8 (by kernel_rfl)
    (of_decide_eq_true (by kernel_rfl)) (by unfold Func.isWrapper; first | (rw [if_pos (by decide +kernel)]; kernel_rfl) | (rw [if_neg (by decide +kernel)]; exact ⟨rfl, rfl⟩))
    (fun os started H enc _ => others_lifted os started H enc)
end Go.Proofs.Ytnncphnpajkojaa
