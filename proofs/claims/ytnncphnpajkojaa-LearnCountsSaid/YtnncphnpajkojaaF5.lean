/- The law LearnCounts holds for every input. No condition. -/
import Derived.Test.YtnncphnpajkojaaB5
import Derived.Test.YtnncphnpajkojaaRows
set_option linter.unusedSimpArgs false
set_option linter.unusedVariables false
namespace Go.Proofs.Ytnncphnpajkojaa
set_option maxHeartbeats 4000000
set_option maxRecDepth 100000
theorem c_Counts (l : List Raw6) (x : Raw6) (w : Int × Int) : PC env 7 [⟨.sl RawT, l⟩, ⟨RawT, x⟩, ⟨.st (.pair (.int .u8) (.int .u8)), w⟩] .bool true := by
  refine PC.of_PW (m := 2000) env_ok fn_7 rfl rfl rfl rfl (by kernel_rfl) ?_; intro hx; simp only [Try.f7]; simp only [go_sem, Nat.reduceBEq, ↓reduceIte, ↓reduceDIte, Nat.reduceAdd, Nat.reduceSub, Nat.reduceMul, Nat.reduceLeDiff, ← Bool.decide_and, ← Bool.decide_or, ← decide_not, Int.reduceLT, Int.reduceLE, Int.reduceToNat, Int.reduceNeg]
  obtain ⟨hv, hf⟩ := made_good hx.1.2 12 (by omega)
  have hy := made_young (l := l) 12
  have cM := c_MadeR l 12 (by omega) (by omega)
  rw [show ((12 : Int)).toNat = 12 from rfl] at cM
  generalize madeU (l.take 12) = u at hv hf cM hy
  have h1 := hf.1
  have h2 := hf.2.1
  have hxo : RawT.ok x := hx.2.1
  have hw1 := u8_of hx.2.2.1.1
  have hw2 := u8_of hx.2.2.1.2
  dsimp only at hw1 hw2
  refine ⟨_, c_sanity, _, cM, fun _ => ⟨_, c_Record x, fun _ => ?_⟩⟩
  rw [Int.tmod_eq_emod_of_nonneg hw1.1]
  have he0 := Int.emod_nonneg w.1 (show (30 : Int) ≠ 0 by decide)
  have he1 := Int.emod_lt_of_pos w.1 (show (0 : Int) < 30 by decide)
  generalize w.1 % 30 = ep at he0 he1
  have htm := hv.tame
  refine ⟨_, c_Count u _ ep htm, fun _ => ?_⟩
  refine Walks.loopA (X := Nat × Int) (fun (z : Nat × Int) => [(13, .iv (.int .i64) (z.1 : Int)), (12, .iv (.int .i64) z.2)]) (fun (z : Nat × Int) => []) (fun (z : Nat × Int) => z.1 ≤ u.1.length ∧ z.2 = countS (u.1.take z.1) (recS x).2.2.2.1 ep) (fun (z : Nat × Int) => u.1.length - z.1) (0, 0) ?_; intro b1 b2 hb1 hb2; simp (config := {maxSteps := 4000000}) only [go_sem, Nat.reduceBEq, ↓reduceIte, ↓reduceDIte, Nat.reduceAdd, Nat.reduceSub, Nat.reduceMul, Nat.reduceLeDiff, ← Bool.decide_and, ← Bool.decide_or, ← decide_not, Int.reduceLT, Int.reduceLE, Int.reduceToNat, Int.reduceNeg] at hb1 hb2; subst hb1; subst hb2; refine ⟨(by refine ⟨?_, ?_, rfl, rfl⟩ <;> repeat' (first | exact trivial | (refine And.intro (Or.inl rfl) ?_) | (refine And.intro (Or.inr (Or.inl rfl)) ?_) | (refine And.intro (Or.inr (Or.inr (Or.inr ⟨rfl, rfl⟩))) ?_) | rfl | (refine And.intro (Or.inl ?_) ?_) | (refine And.intro ?_ ?_))), ?_, ?_⟩
  · exact ⟨Nat.zero_le _, rfl⟩
  intro ⟨k, y⟩ ⟨hk, hky⟩ back
  dsimp only at hk hky
  refine PW_sound env_ok ⟨_, fn_7, rfl⟩ 2000 _ _ (by kernel_rfl) ?_; simp only [go_sem, Nat.reduceBEq, ↓reduceIte, ↓reduceDIte, Nat.reduceAdd, Nat.reduceSub, Nat.reduceMul, Nat.reduceLeDiff, ← Bool.decide_and, ← Bool.decide_or, ← decide_not, Int.reduceLT, Int.reduceLE, Int.reduceToNat, Int.reduceNeg]
  have hb := countS_le (l := u.1.take k) (w := (recS x).2.2.2.1) (e := ep) (fun r hr => ⟨(htm.2 r (List.mem_of_mem_take hr)).2.2.1, (htm.2 r (List.mem_of_mem_take hr)).2.2.2⟩)
  have hkl : ((u.1.take k).length : Int) ≤ 12 := by rw [List.length_take]; omega
  refine ⟨fun h => ?_, fun h => ?_⟩
  · obtain ⟨r, hri⟩ : ∃ r, u.1[k]? = some r := get_of_lt (by omega)
    have hst := countS_step (w := (recS x).2.2.2.1) (e := ep) hri
    have e1 : ((k : Int) + 1).toNat - k = 1 := by omega
    have e2 : (u.1.drop k).take 1 = [r] := by rw [drop_cons hri]; rfl
    have e3 : countS [r] (recS x).2.2.2.1 ep = valR (recS x).2.2.2.1 ep r := by unfold countS; simp
    have hr2 := htm.2 r (List.mem_of_getElem? hri)
    have hvb := valR_le (w := (recS x).2.2.2.1) (e := ep) hr2.2.2.1
    rw [e1, e2]
    refine ⟨i64_ok (by omega) (by omega), ⟨by omega, by omega, by omega⟩, _, c_Count ([r], [], u.2.2) _ ep ⟨by show 1 ≤ 1000; decide, fun r' hr' => by rw [List.mem_singleton] at hr'; subst hr'; exact hr2⟩, fun _ => ?_⟩
    dsimp only
    rw [e3]
    exact ⟨i64_ok (by omega) (by omega), i64_ok (by omega) (by omega), back _ (k + 1, y + valR (recS x).2.2.2.1 ep r) (by refine ⟨?_, ?_, rfl, rfl⟩ <;> repeat' (first | exact trivial | (refine And.intro (Or.inl rfl) ?_) | (refine And.intro (Or.inr (Or.inl rfl)) ?_) | (refine And.intro (Or.inr (Or.inr (Or.inr ⟨rfl, rfl⟩))) ?_) | rfl | (refine And.intro (Or.inl ?_) ?_) | (refine And.intro ?_ ?_))) ⟨by dsimp only; omega, by dsimp only; rw [hst, hky]⟩ (by dsimp only; omega)⟩
  · have e1 : u.1.take k = u.1 := List.take_of_length_le (by omega)
    rw [e1] at hky
    subst hky
    have hp := raw_pos hxo
    rw [Int.tmod_eq_emod_of_nonneg hw2.1]
    have hf0 := Int.emod_nonneg w.2 (show (10 : Int) ≠ 0 by decide)
    have hf1 := Int.emod_lt_of_pos w.2 (show (0 : Int) < 10 by decide)
    generalize w.2 % 10 = fp at hf0 hf1
    have hrr := recS_right hxo
    obtain ⟨d0, d7⟩ := rightR_dev hrr
    have hR : rightR ((recS x).1, 1, 10 + fp, (recS x).2.2.2) = true := by
      unfold rightR at hrr ⊢
      simp only [Bool.and_eq_true, decide_eq_true_eq] at hrr ⊢
      exact ⟨⟨hrr.1.1, hrr.1.2.1, by omega, by omega⟩, hrr.2⟩
    have hW : wordB (recS x).2.2.2.1 = true := rawW_ok _
    have hN := rightR_nums hR
    dsimp only at hN
    have ca := count_learn (r := ((recS x).1, 1, 10 + fp, (recS x).2.2.2)) ⟨hv, hf⟩ hy hR (by show 10 ≤ 10 + fp; omega)
    obtain ⟨ga, za⟩ := learn_good (r := ((recS x).1, 1, 10 + fp, (recS x).2.2.2)) ⟨hv, hf⟩ (by decide) hR
    have cb := count_forgot ⟨hv, hf⟩ hy hW ep
    obtain ⟨gb, zb⟩ := forget_good (o := (0, 0, 30, 1, (recS x).2.2.2.1, 0, 0)) ⟨hv, hf⟩ (by decide) (right_word hW)
    have pa := c_learnt u ((recS x).1, 1, 10 + fp, (recS x).2.2.2)
    have pb := c_Forget u (0, 0, 30, 1, (recS x).2.2.2.1, 0, 0) (by omega)
    generalize learnS u ((recS x).1, 1, 10 + fp, (recS x).2.2.2) = a at ca ga za pa
    generalize forgetS u (0, 0, 30, 1, (recS x).2.2.2.1, 0, 0) = b at cb gb zb pb
    obtain ⟨a, an, ae⟩ := a
    obtain ⟨b, be⟩ := b
    dsimp only at ca ga za cb gb zb
    obtain ⟨rfl, rfl⟩ := Prod.mk.inj za
    subst zb
    have hdn := count_down (l := u.1) (w := (recS x).2.2.2.1) (e := ep) (fun r hr => (htm.2 r hr).2.2.1) (by omega)
    have hub := countS_le (l := u.1) (w := (recS x).2.2.2.1) (e := 10 + fp) (fun r hr => ⟨(htm.2 r hr).2.2.1, (htm.2 r hr).2.2.2⟩)
    refine ⟨i64_ok (by omega) (by omega), _, pa, fun _ => ⟨_, pb, fun _ => ?_⟩⟩
    dsimp only
    refine ⟨fun _ => ⟨fun h => absurd rfl h, fun _ => ⟨fun _ => ⟨i64_ok (by omega) (by omega), _, c_Count u _ _ htm, fun _ => ⟨fun _ => ⟨_, c_Count a _ _ ga.1.tame, fun _ => ⟨_, c_Count u _ _ htm, fun _ => ⟨i64_ok (by omega) (by omega), fun _ => ⟨_, c_Count b _ ep gb.1.tame, fun _ => ⟨fun _ => trivial, fun h => absurd cb h⟩⟩, fun h => absurd ca h⟩⟩⟩, fun h => absurd hdn h⟩⟩, fun h => absurd rfl h⟩⟩, fun h => absurd rfl h⟩
end Go.Proofs.Ytnncphnpajkojaa
namespace Go.Proofs.Ytnncphnpajkojaa
open Go.ChangeShapes Go.WideShapes Go.ChangeAt Go.RowKit
theorem own_none : ownKnob Try.prog.godebug = none := by kernel_rfl
theorem laid_out : laidOutB env.P = true := by kernel_rfl
theorem counts_all (xs : List (Sigma Ty.den)) (h : xs.map (·.1) = [.sl RawT, RawT, .st (.pair (.int .u8) (.int .u8))]) : PC env 7 xs .bool true := by
  match xs, h with
  | [⟨_, y0⟩, ⟨_, y1⟩, ⟨_, y2⟩], h =>
    injection h with h1 h
    injection h with h2 h
    injection h with h3 h
    dsimp only at h1 h2 h3
    subst h1 h2 h3
    exact c_Counts y0 y1 y2
set_option maxRecDepth 100000 in
theorem counts_lifted (os : Os) (started : os.Started) (H : Type) (enc : TypeId × Value → H) :
    ReturnsInHanded {} Try.checked os 7 .any (Rows.learnCountsSpec.pre6 enc Try.prog Try.f7 Rows.learnCountsRow.domain false) (Rows.learnCountsSpec.post enc Try.prog Try.f7 false true false false) := by
  refine returnsInHanded_of_change (C := Try.checked) own_none started (by kernel_rfl) fn_7
    (ChangeSpec.witness6 (enc := enc) (C := Try.checked) false ⟨#[], #[.slice none 0 0, .agg #[.int .u8 0, .int .u8 0, .int .u8 0, .int .u8 0, .int .u8 0, .int .u8 0], .agg #[.int .u8 0, .int .u8 0]], []⟩ 8 (by kernel_rfl) (by kernel_rfl) (by kernel_rfl) (by kernel_rfl)) ?_
  intro W base args ds gs before hval hW _ _
  refine law_calls (E := env) (b0 := base) (Ts := [.sl RawT, RawT, .st (.pair (.int .u8) (.int .u8))]) (tb := 4) env_ok laid_out (of_decide_eq_true (by kernel_rfl)) rfl rfl rfl (by kernel_rfl) rfl ?_ counts_all hval hW
  intro ds hds
  match ds, hds with
  | [d0, d1, d2], _ => rfl
theorem counts_holds : Rows.LearnCountsSaid :=
  OpenClaim.holds_of_wide 7 Try.f7 rfl rfl rfl rfl rfl rfl rfl ⟨rfl, rfl, rfl, rfl, rfl⟩ rfl rfl rfl rfl rfl (by kernel_rfl) fn_7 (by kernel_rfl)
    (of_decide_eq_true (by kernel_rfl)) (by unfold Func.isWrapper; first | (rw [if_pos (by decide +kernel)]; kernel_rfl) | (rw [if_neg (by decide +kernel)]; exact ⟨rfl, rfl⟩))
    (fun os started H enc _ => counts_lifted os started H enc)
end Go.Proofs.Ytnncphnpajkojaa
