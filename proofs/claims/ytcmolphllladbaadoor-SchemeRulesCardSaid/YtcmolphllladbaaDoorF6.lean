/- The law SchemeRules holds for every input. No condition. -/
import Derived.Test.YtcmolphllladbaaDoorB6
import Derived.Test.YtcmolphllladbaaDoorCards
import Derived.Test.YtcmolphllladbaaDoorTie
import Derived.SevenTiedAt
set_option linter.unusedSimpArgs false
set_option linter.unusedVariables false
--SET+ by32, by10, litP, appendC, Int.reduceEq, not_true_eq_false, not_false_eq_true, false_implies, St.ren, permF
namespace Go.Proofs.YtcmolphllladbaaDoor
open Go.Lib
set_option maxHeartbeats 4000000
set_option maxRecDepth 100000
theorem ok_take {s : Sch} (hs : OkS s) (k : Nat) : OkS (s.1, s.2.1, s.2.2.take k) :=
  ⟨hs.n1, hs.n8, hs.a1, hs.a2, by have := hs.len; dsimp only; rw [List.length_take]; omega, fun r hr => hs.right r (List.mem_of_mem_take hr), hs.nodup.sublist (List.take_sublist k _)⟩
theorem rightAt_pre {n : Int} {l m : List Rl} {j : Nat} (h : l.take (j + 1) = m.take (j + 1)) : rightAt n l j = rightAt n m j := by
  unfold rightAt
  have h1 : l[j]? = m[j]? := by
    have := congrArg (fun z => z[j]?) h
    simpa [List.getElem?_take] using this
  have h2 : l.take j = m.take j := by
    have := congrArg (List.take j) h
    simpa [List.take_take] using this
  rw [h1, h2]
theorem chk_at {s : Sch} (hs : OkS s) {l : List Rl} {w : Nat} (hl : l.length ≤ 64) (hw : w < l.length) (hws : w ≤ s.2.2.length) (hp : l.take w = s.2.2.take w) (hbad : rightAt s.1 l w = false) : checkE (s.1, s.2.1, l) = ((w : Int), 20) := by
  have hh : headB (s.1, s.2.1, l) = true := by
    simp only [headB, inB, Bool.and_eq_true, decide_eq_true_eq]
    exact ⟨⟨⟨hs.n1, hs.n8⟩, hs.a1, hs.a2⟩, hl⟩
  unfold checkE
  rw [if_pos hh]
  refine chkL_at (Nat.zero_le _) (by dsimp only; omega) (fun j _ hj => ?_) hbad
  have : l.take (j + 1) = s.2.2.take (j + 1) := by
    have := congrArg (List.take (j + 1)) hp
    rw [List.take_take, List.take_take] at this
    rwa [Nat.min_eq_left (by omega)] at this
  rw [rightAt_pre this]
  exact rightAt_ok hs (by omega)
theorem modify_take {l : List Rl} {i : Nat} {f : Rl → Rl} : (l.modify i f).take i = l.take i := by
  apply List.ext_getElem?
  intro j
  rw [List.getElem?_take, List.getElem?_take]
  split
  · rename_i hji
    have : ¬ i = j := by omega
    rw [List.getElem?_modify]; simp [this]
  · rfl
theorem spoil_at {s : Sch} (hs : OkS s) {i : Nat} (hi : i < s.2.2.length) {f : Rl → Rl} (hf : ∀ r, rightR s.1 (f r) = false) : checkE (s.1, s.2.1, s.2.2.modify i f) = ((i : Int), 20) := by
  have hl : (s.2.2.modify i f).length = s.2.2.length := List.length_modify ..
  refine chk_at hs (by rw [hl]; exact hs.len) (by omega) (by omega) modify_take ?_
  obtain ⟨r, hr⟩ : ∃ r, s.2.2[i]? = some r := get_of_lt hi
  unfold rightAt
  rw [List.getElem?_modify, hr]
  simp [hf]
theorem twice_at {s : Sch} (hs : OkS s) (h9 : s.2.2.length ≤ 9) {r : Rl} (hr : r ∈ s.2.2) : checkE (s.1, s.2.1, s.2.2 ++ [r]) = ((s.2.2.length : Int), 20) := by
  refine chk_at hs (by simp; omega) (by simp) (Nat.le_refl _) (by rw [List.take_append_of_le_length (Nat.le_refl _)]) ?_
  unfold rightAt
  simp [hr]
theorem c_Rules (x : RawS) (w : Int × Int × Int) : PC env 6 [⟨RawT, x⟩, ⟨.st (.pair (.int .u8) (.pair (.int .u8) (.int .u8))), w⟩] .bool true := by
  obtain ⟨w0, w1, w2⟩ := w
  have hs := (made2_ok x)
  have k1 := c_Made2 x
  generalize made2E x = t at hs k1
  refine PC.of_PW (m := 2000) env_ok fn_6 rfl rfl rfl rfl (by kernel_rfl) ?_; intro hx; simp only [Tryd.f6]; simp only [go_sem, Nat.reduceBEq, ↓reduceIte, ↓reduceDIte, Nat.reduceAdd, Nat.reduceSub, Nat.reduceMul, Nat.reduceLeDiff, ← Bool.decide_and, ← Bool.decide_or, ← decide_not, Int.reduceLT, Int.reduceLE, Int.reduceToNat, Int.reduceNeg, by32, by10, litP, appendC, Int.reduceEq, not_true_eq_false, not_false_eq_true, false_implies, St.ren, permF]
  obtain ⟨hs, hn2, hl2, hl9⟩ := hs
  have hw := hx.2.1
  have hw0 := u8_of hw.1
  have hw1 := u8_of hw.2.1
  have hw2 := u8_of hw.2.2
  dsimp only at hw0 hw1 hw2
  have t0 : Int.tmod w0 ((t.2.2.length : Int) + 1) = w0 % ((t.2.2.length : Int) + 1) := Int.tmod_eq_emod_of_nonneg hw0.1
  have t1 : Int.tmod w1 (t.2.2.length : Int) = w1 % (t.2.2.length : Int) := Int.tmod_eq_emod_of_nonneg hw1.1
  have a0 := Int.emod_nonneg w0 (b := (t.2.2.length : Int) + 1) (by omega)
  have a1 := Int.emod_lt_of_pos w0 (b := (t.2.2.length : Int) + 1) (by omega)
  have b0 := Int.emod_nonneg w1 (b := (t.2.2.length : Int)) (by omega)
  have b1 := Int.emod_lt_of_pos w1 (b := (t.2.2.length : Int)) (by omega)
  have k2 := c_Valid t
  rw [ok_check hs] at k2
  have k3 := fun k => c_Valid (t.1, t.2.1, t.2.2.take k)
  have k4 : ∀ k, PC env 14 [⟨SchemeT, (t.1, t.2.1, t.2.2.take k)⟩] .bool true := fun k => by
    have := k3 k
    rw [ok_check (ok_take hs k)] at this
    exact this
  clear k3
  generalize hI : w1 % (t.2.2.length : Int) = I at b0 b1 t1
  obtain ⟨i, rfl⟩ := Int.eq_ofNat_of_zero_le b0
  obtain ⟨r, hr⟩ : ∃ r, t.2.2[i]? = some r := get_of_lt (by omega)
  refine ⟨_, c_sanity, _, k1, fun _ => ⟨⟨by omega, by omega⟩, by show (0:Int) < _; omega, ⟨by rw [t0]; omega, by rw [t0]; omega⟩, _, k2, PK_cast (b' := false) rfl ?_⟩⟩
  simp only [go_sem, Nat.reduceBEq, ↓reduceIte, ↓reduceDIte, Nat.reduceAdd, Nat.reduceSub, Nat.reduceMul, Nat.reduceLeDiff, ← Bool.decide_and, ← Bool.decide_or, ← decide_not, Int.reduceLT, Int.reduceLE, Int.reduceToNat, Int.reduceNeg, by32, by10, litP, appendC, Int.reduceEq, not_true_eq_false, not_false_eq_true, false_implies, St.ren, permF]
  refine ⟨_, k4 _, PB_cast (b' := false) rfl ?_⟩
  simp only [go_sem, Nat.reduceBEq, ↓reduceIte, ↓reduceDIte, Nat.reduceAdd, Nat.reduceSub, Nat.reduceMul, Nat.reduceLeDiff, ← Bool.decide_and, ← Bool.decide_or, ← decide_not, Int.reduceLT, Int.reduceLE, Int.reduceToNat, Int.reduceNeg, by32, by10, litP, appendC, Int.reduceEq, not_true_eq_false, not_false_eq_true, false_implies, St.ren, permF]
  have kr : ∀ f : Rl → Rl, (∀ r, rightR t.1 (f r) = false) → PC env 20 [⟨SchemeT, (t.1, t.2.1, t.2.2.modify i f)⟩, ⟨.int .i64, (i : Int)⟩] .bool true := fun f hf => by
    have := c_refuses (t.1, t.2.1, t.2.2.modify i f) (i : Int)
    rw [spoil_at hs (by omega) hf, decide_eq_true rfl] at this
    exact this
  have kd := c_refuses (t.1, t.2.1, t.2.2 ++ [r]) (t.2.2.length : Int)
  rw [twice_at hs hl9 (List.mem_of_getElem? hr), decide_eq_true rfl] at kd
  simp only [t1, Int.toNat_natCast]
  refine ⟨fun _ => trivial, fun _ => ⟨by show (0:Int) < _; omega, by omega, fun _ => ⟨⟨by omega, by omega⟩, _, kr _ (fun r => ?_), ?_⟩, fun _ => ⟨fun _ => ⟨⟨by omega, by omega⟩, _, kr _ (fun r => ?_), ?_⟩, fun _ => ⟨fun _ => ⟨⟨by omega, by omega⟩, _, kr _ (fun r => ?_), ?_⟩, fun _ => ⟨fun _ => ⟨⟨by omega, by omega⟩, _, kr _ (fun r => ?_), ?_⟩, fun _ => ⟨fun _ => ⟨⟨by omega, by omega⟩, _, kr _ (fun r => ?_), ?_⟩, fun _ => ⟨fun _ => ⟨⟨by omega, by omega⟩, _, kr _ (fun r => ?_), ?_⟩, fun _ => ?_⟩⟩⟩⟩⟩⟩⟩
  case refine_1 => simp [rightR, inB]; try omega
  case refine_3 => simp [rightR, inB]
  case refine_5 => 
    have : (bytesOf ⟨#[97, 88]⟩ : Str).all low = false := rfl
    simp [rightR, this]
  case refine_7 => 
    have : (bytesOf ⟨#[97, 98, 99, 100, 101]⟩ : Str).length = 5 := rfl
    simp [rightR, this]
  case refine_9 => 
    have : (bytesOf ⟨#[45]⟩ : Str).all aln = false := rfl
    simp [rightR, this]
  case refine_11 => simp [rightR, inB]
  case refine_13 =>
    refine ⟨by omega, r, hr, by omega, _, kd, ?_⟩
    simp only [go_sem, Nat.reduceBEq, ↓reduceIte, ↓reduceDIte, Nat.reduceAdd, Nat.reduceSub, Nat.reduceMul, Nat.reduceLeDiff, ← Bool.decide_and, ← Bool.decide_or, ← decide_not, Int.reduceLT, Int.reduceLE, Int.reduceToNat, Int.reduceNeg, by32, by10, litP, appendC, Int.reduceEq, not_true_eq_false, not_false_eq_true, false_implies, St.ren, permF]
  all_goals simp only [go_sem, Nat.reduceBEq, ↓reduceIte, ↓reduceDIte, Nat.reduceAdd, Nat.reduceSub, Nat.reduceMul, Nat.reduceLeDiff, ← Bool.decide_and, ← Bool.decide_or, ← decide_not, Int.reduceLT, Int.reduceLE, Int.reduceToNat, Int.reduceNeg, by32, by10, litP, appendC, Int.reduceEq, not_true_eq_false, not_false_eq_true, false_implies, St.ren, permF]
end Go.Proofs.YtcmolphllladbaaDoor
namespace Go.Proofs.YtcmolphllladbaaDoor
open Go.ChangeShapes Go.WideShapes Go.ChangeAt Go.RowKit
theorem rules_all (xs : List (Sigma Ty.den)) (h : xs.map (·.1) = [RawT, .st (.pair (.int .u8) (.pair (.int .u8) (.int .u8)))]) : PC env 6 xs .bool true := by
  match xs, h with
  | [⟨_, y0⟩, ⟨_, y1⟩], h =>
    injection h with h1 h
    injection h with h2 h
    dsimp only at h1 h2
    subst h1 h2
    exact c_Rules y0 y1
set_option maxRecDepth 100000 in
theorem rules_lifted (os : Os) (started : os.Started) (H : Type) (enc : TypeId × Value → H) :
    ReturnsInHanded {} Tryd.checked os 6 .any (Rows.schemeRulesRow.pre enc Tryd.prog Tryd.f6 (OpenSpec.ofChange Rows.schemeRulesSpec)) (Rows.schemeRulesSpec.post enc Tryd.prog Tryd.f6 false true false false) := by
  rw [pre_laid (c := Rows.schemeRulesRow) (s := Rows.schemeRulesSpec) rfl]
  refine lift_laid (C := Tryd.checked) (X := fun w _ => laidMet Tryd.prog laidL w) laid_heap own_none started (by kernel_rfl) fn_6
    (ChangeSpec.witness_at (enc := enc) (C := Tryd.checked) (X := fun w _ => laidMet Tryd.prog laidL w) false (laidWorld os) #[.agg #[.int .u8 0, .int .u8 0, .slice none 0 0], .agg #[.int .u8 0, .int .u8 0, .int .u8 0]] 8 (by kernel_rfl) (by kernel_rfl) (by kernel_rfl) (by kernel_rfl) (by kernel_rfl) (by kernel_rfl) (laid_met os _)) ?_
  intro W base args ds gs before hval hW hx hsh
  refine law_calls (E := env) (b0 := base) (Ts := [RawT, .st (.pair (.int .u8) (.pair (.int .u8) (.int .u8)))]) (tb := 4) env_ok laid_out (of_decide_eq_true (by kernel_rfl)) rfl rfl rfl (by kernel_rfl) rfl ?_ rules_all (tabs_of hsh hx) hval hW
  intro ds hds
  match ds, hds with
  | [d0, d1], _ => rfl
theorem rules_holds : Rows.SchemeRulesSaid :=
  OpenClaim.holds_of_wide 6 Tryd.f6 rfl rfl rfl rfl rfl rfl rfl ⟨rfl, rfl, rfl, rfl, rfl⟩ rfl rfl rfl rfl rfl (by kernel_rfl) fn_6 (by kernel_rfl)
    (of_decide_eq_true (by kernel_rfl)) (by unfold Func.isWrapper; first | (rw [if_pos (by decide +kernel)]; kernel_rfl) | (rw [if_neg (by decide +kernel)]; exact ⟨rfl, rfl⟩))
    (fun os started H enc _ => rules_lifted os started H enc)
theorem rules_card : Rows.SchemeRulesCardSaid :=
  Claim7.holds_tied_plain_at .later [] [.data, .data, .data, .data, .pinned] true (true, "34baf661d054b563b50d6273a2529c45ae94fe38806658fc0c33bd088ca5fb84") false
    rules_holds (fun _ h => by cases h) (by kernel_rfl) (fun _ h => by cases h) schemeRules_row_tie rfl ⟨rfl, rfl⟩ (by kernel_rfl) rfl
    (fun f fn hf hfn => by
      obtain rfl : f = 6 := Option.some.inj ((show Tryd.prog.funcNamed "syllabary/syllabarylaw02.SchemeRules" = some 6 by kernel_rfl).symm.trans hf) |>.symm
      obtain rfl : fn = Tryd.f6 := (Option.some.inj (fn_6.symm.trans hfn)).symm
      exact ⟨by kernel_rfl, fun j t ht => by
        have hall : (Tryd.f6.params.toList.all fun u => !Tryd.prog.wantsStandIn u) = true := by kernel_rfl
        have hm : t ∈ Tryd.f6.params.toList := Array.mem_toList_iff.2 (Array.mem_of_getElem? ht)
        exact (show Tryd.prog.wantsStandIn t = false by simpa using List.all_eq_true.1 hall t hm)⟩)
    (by kernel_rfl)
end Go.Proofs.YtcmolphllladbaaDoor
