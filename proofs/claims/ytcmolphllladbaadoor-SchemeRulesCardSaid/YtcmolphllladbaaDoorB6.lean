/- The law SchemeRoundTrips, as a contract. Nothing here is trusted; no condition. -/
import Derived.Test.YtcmolphllladbaaDoorB5
set_option linter.unusedSimpArgs false
set_option linter.unusedVariables false
--SET+ by32, by10, Int.reduceEq, not_true_eq_false, not_false_eq_true, false_implies
namespace Go.Proofs.YtcmolphllladbaaDoor
open Go.Lib
set_option maxHeartbeats 4000000
set_option maxRecDepth 100000
theorem ok_zero {s : Sch} (hs : OkS s) : (checkE s).2 = 0 := by rw [ok_check hs]
theorem print_text {s : Sch} (hs : OkS s) : printE s = textE s := by unfold printE; rw [if_pos (ok_zero hs)]
theorem print_len {s : Sch} (hs : OkS s) : (printE s).length ≤ 10000 := by
  rw [print_text hs, textE_eq]
  have h1 := headL_len hs
  have h2 := endL_len hs.right hs.n8
  have h3 := hs.len
  simp only [List.length_append, List.length_cons, List.length_nil]
  omega
theorem print_inj {s t : Sch} (hs : OkS s) (ht : OkS t) (h : printE s = printE t) : s = t := by
  have h1 := parse_print (ok_zero hs)
  have h2 := parse_print (ok_zero ht)
  rw [h, h2] at h1
  exact (congrArg Prod.fst h1).symm
theorem c_RoundTrips (x y : RawS) : PC env 4 [⟨RawT, x⟩, ⟨RawT, y⟩] .bool true := by
  have hs := (made2_ok x).1
  have ht := (made2_ok y).1
  have k1 := c_Made2 x
  have k2 := c_Made2 y
  generalize made2E x = s at hs k1
  generalize made2E y = t at ht k2
  have kp1 := c_Print s
  have kp2 := c_Print t
  have hl := print_len hs
  have kq := c_Parse (printE s) (by omega)
  rw [parse_print (ok_zero hs), ok_check hs] at kq
  refine PC.of_PW (m := 2000) env_ok fn_4 rfl rfl rfl rfl (by kernel_rfl) ?_; intro hx; simp only [Tryd.f4]; simp only [go_sem, Nat.reduceBEq, ↓reduceIte, ↓reduceDIte, Nat.reduceAdd, Nat.reduceSub, Nat.reduceMul, Nat.reduceLeDiff, ← Bool.decide_and, ← Bool.decide_or, ← decide_not, Int.reduceLT, Int.reduceLE, Int.reduceToNat, Int.reduceNeg, by32, by10, Int.reduceEq, not_true_eq_false, not_false_eq_true, false_implies]
  refine ⟨_, c_sanity, _, k1, fun _ => ⟨_, k2, fun _ => ⟨_, kp1, fun _ => ⟨_, kq, fun _ => ⟨fun _ => ⟨fun _ => ⟨_, c_Same2 s s, PK_cast (b' := true) (by simp) ?_⟩, fun g => absurd rfl g⟩, fun g => absurd rfl g⟩⟩⟩⟩⟩
  simp only [go_sem, Nat.reduceBEq, ↓reduceIte, ↓reduceDIte, Nat.reduceAdd, Nat.reduceSub, Nat.reduceMul, Nat.reduceLeDiff, ← Bool.decide_and, ← Bool.decide_or, ← decide_not, Int.reduceLT, Int.reduceLE, Int.reduceToNat, Int.reduceNeg, by32, by10, Int.reduceEq, not_true_eq_false, not_false_eq_true, false_implies]
  refine ⟨_, kp2, fun _ => ⟨_, c_Same2 s t, ?_⟩⟩
  have hb : (decide (printE s = printE t) == decide (s = t)) = true := by
    by_cases h : s = t
    · subst h; simp
    · rw [decide_eq_false h, decide_eq_false fun e => h (print_inj hs ht e)]; rfl
  refine PK_cast (b' := true) hb ?_
  simp only [go_sem, Nat.reduceBEq, ↓reduceIte, ↓reduceDIte, Nat.reduceAdd, Nat.reduceSub, Nat.reduceMul, Nat.reduceLeDiff, ← Bool.decide_and, ← Bool.decide_or, ← decide_not, Int.reduceLT, Int.reduceLE, Int.reduceToNat, Int.reduceNeg, by32, by10, Int.reduceEq, not_true_eq_false, not_false_eq_true, false_implies]
end Go.Proofs.YtcmolphllladbaaDoor
