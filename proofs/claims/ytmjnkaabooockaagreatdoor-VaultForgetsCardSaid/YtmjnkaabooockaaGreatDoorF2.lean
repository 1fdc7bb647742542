/- The law VaultForgets holds for every input. No condition. -/
import Derived.Test.YtmjnkaabooockaaGreatDoorB6
import Derived.Test.YtmjnkaabooockaaGreatDoorCards
import Derived.Test.YtmjnkaabooockaaGreatDoorTie
import Derived.SevenTiedAt
set_option linter.unusedSimpArgs false
set_option linter.unusedVariables false
namespace Go.Proofs.YtmjnkaabooockaaGreatDoor
open Go.Lib
set_option maxHeartbeats 4000000
set_option maxRecDepth 100000
theorem count_X {l : List Rec} (h : ∀ r, r ∈ l → rightR r = true) : (textX l).countP (fun c => c == 10) = l.length := by
  have := count_txt (l := l.map lineE) (fun x hx => by
    obtain ⟨r, hr, rfl⟩ := List.mem_map.1 hx
    exact no10_line (h r hr))
  rw [List.length_map] at this
  rw [← this]
  congr 1
  unfold textX txt
  rw [List.map_map]
  rfl
theorem c_Forgets (l : List Raw6) (x y : Raw6) : PC env 4 [⟨.sl RawT, l⟩, ⟨RawT, x⟩, ⟨RawT, y⟩] .bool true := by
  refine PC.of_PW (m := 2000) env_ok fn_4 rfl rfl rfl rfl (by kernel_rfl) ?_; intro hx; simp only [Tryz.f4]; simp (config := {maxSteps := 4000000}) only [go_sem, Nat.reduceBEq, ↓reduceIte, ↓reduceDIte, Nat.reduceAdd, Nat.reduceSub, Nat.reduceMul, Nat.reduceLeDiff, ← Bool.decide_and, ← Bool.decide_or, ← decide_not, Int.reduceLT, Int.reduceLE, Int.reduceToNat, Int.reduceNeg, by_nil, by32, by10, litP, appendC, Int.reduceEq, not_true_eq_false, not_false_eq_true, false_implies]
  refine ⟨_, c_sanity, _, c_MadeR l 10 (by decide) (by decide), fun _ => ?_⟩
  have hg := made_good (l := l) hx.1.2 10 (by decide)
  have hxo : RawT.ok x := hx.2.1
  have hyo : RawT.ok y := hx.2.2.1
  clear hx
  change goodU 10 (madeU (l.take (10 : Int).toNat)) at hg
  generalize madeU (l.take (10 : Int).toNat) = u at hg
  have hu := hg.1
  have h10 : u.1.length ≤ 10 := hg.2.1
  have hR : ∀ r, r ∈ u.1 → rightR r = true := fun r h => (hu.rcd r h).1
  have hRs : ∀ r, r ∈ seenS u.1 → rightR r = true := fun r h => hR r (seen_mem.1 h)
  have htl := textX_len hRs
  rw [seen_len] at htl
  obtain ⟨l1, f1, e1⟩ := left_forget (left_self hu) hg.2 (by decide) (ordS_right hxo)
  have fr1 : PC env 16 [⟨UserT, u⟩, ⟨OrderT, ordS x⟩] (.tup UserT (.int .i64)) ((forgetS u (ordS x)).1, 0) := by
    have := c_ForgetR u (ordS x) (by omega) (by have := hg.2.2.1; omega) (fun i h0 h7 => by have := (hu.last i h0 h7).2; omega)
    rw [forgetR_eq hu] at this
    rw [← e1]
    exact this
  generalize (forgetS u (ordS x)).1 = u1 at l1 f1 fr1
  obtain ⟨l2, f2, e2⟩ := left_forget l1 f1 (by decide) (ordS_right hyo)
  have fr2 : PC env 16 [⟨UserT, u1⟩, ⟨OrderT, ordS y⟩] (.tup UserT (.int .i64)) ((forgetS u1 (ordS y)).1, 0) := by
    have := c_ForgetR u1 (ordS y) (by have := f1.1; omega) (by have := f1.2.1; omega) (fun i h0 h7 => by have := (l1.vv.last i h0 h7).2; omega)
    rw [forgetR_eq l1.vv] at this
    rw [← e2]
    exact this
  generalize (forgetS u1 (ordS y)).1 = v at l2 f2 fr2
  have hv12 : v.1.length ≤ 12 := f2.1
  have hvR : ∀ r, r ∈ v.1 → rightR r = true := fun r h => (l2.vv.rcd r h).1
  have hvS : ∀ r, r ∈ seenS v.1 → rightR r = true := fun r h => hvR r (seen_mem.1 h)
  have k1 : PC env 11 [⟨UserT, v⟩, ⟨.str, textX (seenS u.1)⟩, ⟨OwnerT, (0, 0)⟩] ImportedT (v, 0, 0) := by
    have := c_imported v (textX (seenS u.1)) (0, 0) (by omega) (by omega)
    rwa [forgets_same l2 (by decide) (by decide)] at this
  obtain ⟨n, hn⟩ := forgets_bare l2 (d := 0) (e := 0) (by decide) (by decide)
  have k2 : PC env 11 [⟨UserT, ([], v.2.1, v.2.2)⟩, ⟨.str, textX (seenS u.1)⟩, ⟨OwnerT, (0, 0)⟩] ImportedT (v, n, 0) := by
    have := c_imported ([], v.2.1, v.2.2) (textX (seenS u.1)) (0, 0) (by omega) (Nat.zero_le _)
    rwa [hn] at this
  refine ⟨_, c_Export u (by omega) hR, fun _ => ⟨_, c_Order x, fun _ => ⟨_, fr1, fun _ => ⟨_, c_Order y, fun _ => ⟨_, fr2, fun _ => ?_⟩⟩⟩⟩⟩
  have hvl := textX_len hvS
  rw [seen_len] at hvl
  have hcnt := count_X hvS
  rw [seen_len] at hcnt
  refine ⟨fun _ => ⟨fun h => absurd rfl h, fun _ => ⟨_, k1, fun _ => ⟨_, k2, fun _ => ⟨_, c_Export v hv12 hvR, fun _ => ?_⟩⟩⟩⟩, fun h => absurd rfl h⟩
  generalize textX (seenS v.1) = s at hvl hcnt
  have ss : PC env 15 [⟨UserT, v⟩, ⟨UserT, v⟩] .bool true := by
    have := c_Same v v
    rwa [eqP_t rfl] at this
  refine Walks.loopA (X := Nat) (fun (i : Nat) => [(17, .iv (.int .i64) (i : Int)), (15, .iv (.int .i64) (((s.take i).countP (fun c => c == 10) : Nat) : Int))]) (fun (i : Nat) => []) (fun (i : Nat) => i ≤ s.length) (fun (i : Nat) => s.length - i) 0 ?_; intro b1 b2 hb1 hb2; simp (config := {maxSteps := 4000000}) only [go_sem, Nat.reduceBEq, ↓reduceIte, ↓reduceDIte, Nat.reduceAdd, Nat.reduceSub, Nat.reduceMul, Nat.reduceLeDiff, ← Bool.decide_and, ← Bool.decide_or, ← decide_not, Int.reduceLT, Int.reduceLE, Int.reduceToNat, Int.reduceNeg, by_nil, by32, by10, litP, appendC, Int.reduceEq, not_true_eq_false, not_false_eq_true, false_implies] at hb1 hb2; subst hb1; subst hb2; refine ⟨(by refine ⟨?_, ?_, rfl, rfl⟩ <;> repeat' (first | exact trivial | exact Or.inl rfl | exact Or.inr rfl | (refine And.intro (Or.inl rfl) ?_) | (refine And.intro (Or.inr (Or.inl rfl)) ?_) | (refine And.intro (Or.inr (Or.inr (Or.inr ⟨rfl, rfl⟩))) ?_) | (refine And.intro (Or.inr (Or.inr (Or.inl ⟨rfl, rfl, trivial⟩))) ?_) | exact ⟨(by show (_ : Nat) < 1000000000; omega), rfl, rfl⟩ | rfl | (refine And.intro (Or.inl ?_) ?_) | (refine And.intro ?_ ?_))), ?_, ?_⟩
  · exact Nat.zero_le _
  intro i hi back
  refine PW_sound env_ok ⟨_, fn_4, rfl⟩ 2000 _ _ (by kernel_rfl) ?_; simp only [go_sem, Nat.reduceBEq, ↓reduceIte, ↓reduceDIte, Nat.reduceAdd, Nat.reduceSub, Nat.reduceMul, Nat.reduceLeDiff, ← Bool.decide_and, ← Bool.decide_or, ← decide_not, Int.reduceLT, Int.reduceLE, Int.reduceToNat, Int.reduceNeg, by_nil, by32, by10, litP, appendC, Int.reduceEq, not_true_eq_false, not_false_eq_true, false_implies]
  have hle : (s.take i).countP (fun c => c == 10) ≤ 2000 := by
    have := List.countP_le_length (l := s.take i) (p := fun c => c == 10)
    rw [List.length_take] at this
    omega
  refine ⟨fun g1 => ⟨fun g2 => ?_, fun g2 => absurd g2 (by omega)⟩, fun g1 => ?_⟩
  · obtain ⟨c, hc⟩ : ∃ c, s[i]? = some c := get_of_lt (by omega)
    have hstep : (s.take (i + 1)).countP (fun c => c == 10) = (s.take i).countP (fun c => c == 10) + if c = 10 then 1 else 0 := by
      rw [take_snoc hc, List.countP_append, List.countP_cons, List.countP_nil]
      simp
    refine ⟨Int.natCast_nonneg _, _, ⟨c, hc, rfl⟩, fun g3 => ?_, fun g3 => ?_⟩
    · have : c = 10 := UInt8.toNat_inj.1 (by rw [show (10 : UInt8).toNat = 10 from rfl]; omega)
      rw [if_pos this] at hstep
      refine ⟨i64_ok (by omega) (by omega), i64_ok (by omega) (by omega), ?_⟩
      have hz : ((((s.take i).countP (fun c => c == 10) : Nat) : Int) + 1) = (((s.take (i + 1)).countP (fun c => c == 10) : Nat) : Int) := by omega
      rw [hz]
      exact back _ (i + 1) (by refine ⟨?_, ?_, rfl, rfl⟩ <;> repeat' (first | exact trivial | exact Or.inl rfl | exact Or.inr rfl | (refine And.intro (Or.inl rfl) ?_) | (refine And.intro (Or.inr (Or.inl rfl)) ?_) | (refine And.intro (Or.inr (Or.inr (Or.inr ⟨rfl, rfl⟩))) ?_) | (refine And.intro (Or.inr (Or.inr (Or.inl ⟨rfl, rfl, trivial⟩))) ?_) | exact ⟨(by show (_ : Nat) < 1000000000; omega), rfl, rfl⟩ | rfl | (refine And.intro (Or.inl ?_) ?_) | (refine And.intro ?_ ?_))) (by omega) (by omega)
    · have : ¬ c = 10 := fun e => g3 (by rw [e]; rfl)
      rw [if_neg this] at hstep
      refine ⟨i64_ok (by omega) (by omega), ?_⟩
      rw [← Nat.add_zero ((s.take i).countP (fun c => c == 10)), ← hstep]
      exact back _ (i + 1) (by refine ⟨?_, ?_, rfl, rfl⟩ <;> repeat' (first | exact trivial | exact Or.inl rfl | exact Or.inr rfl | (refine And.intro (Or.inl rfl) ?_) | (refine And.intro (Or.inr (Or.inl rfl)) ?_) | (refine And.intro (Or.inr (Or.inr (Or.inr ⟨rfl, rfl⟩))) ?_) | (refine And.intro (Or.inr (Or.inr (Or.inl ⟨rfl, rfl, trivial⟩))) ?_) | exact ⟨(by show (_ : Nat) < 1000000000; omega), rfl, rfl⟩ | rfl | (refine And.intro (Or.inl ?_) ?_) | (refine And.intro ?_ ?_))) (by omega) (by omega)
  · have e : s.take i = s := List.take_of_length_le (by omega)
    rw [e, hcnt]
    refine ⟨fun _ => ⟨_, ss, ?_⟩, fun h => absurd rfl h⟩
    simp only [go_sem, Nat.reduceBEq, ↓reduceIte, ↓reduceDIte, Nat.reduceAdd, Nat.reduceSub, Nat.reduceMul, Nat.reduceLeDiff, ← Bool.decide_and, ← Bool.decide_or, ← decide_not, Int.reduceLT, Int.reduceLE, Int.reduceToNat, Int.reduceNeg, by_nil, by32, by10, litP, appendC, Int.reduceEq, not_true_eq_false, not_false_eq_true, false_implies]
    exact ⟨_, ss, by simp only [go_sem, Nat.reduceBEq, ↓reduceIte, ↓reduceDIte, Nat.reduceAdd, Nat.reduceSub, Nat.reduceMul, Nat.reduceLeDiff, ← Bool.decide_and, ← Bool.decide_or, ← decide_not, Int.reduceLT, Int.reduceLE, Int.reduceToNat, Int.reduceNeg, by_nil, by32, by10, litP, appendC, Int.reduceEq, not_true_eq_false, not_false_eq_true, false_implies]⟩
end Go.Proofs.YtmjnkaabooockaaGreatDoor
namespace Go.Proofs.YtmjnkaabooockaaGreatDoor
open Go.ChangeShapes Go.WideShapes Go.ChangeAt Go.RowKit
theorem forgets_all (xs : List (Sigma Ty.den)) (h : xs.map (·.1) = [.sl RawT, RawT, RawT]) : PC env 4 xs .bool true := by
  match xs, h with
  | [⟨_, y0⟩, ⟨_, y1⟩, ⟨_, y2⟩], h =>
    injection h with h1 h
    injection h with h2 h
    injection h with h3 h
    dsimp only at h1 h2 h3
    subst h1 h2 h3
    exact c_Forgets y0 y1 y2
set_option maxRecDepth 100000 in
theorem forgets_lifted (os : Os) (started : os.Started) (H : Type) (enc : TypeId × Value → H) :
    ReturnsInHanded {} Tryz.checked os 4 .any (Rows.vaultForgetsRow.pre enc Tryz.prog Tryz.f4 (OpenSpec.ofChange Rows.vaultForgetsSpec)) (Rows.vaultForgetsSpec.post enc Tryz.prog Tryz.f4 false true false false) := by
  rw [pre_laid (c := Rows.vaultForgetsRow) (s := Rows.vaultForgetsSpec) rfl]
  refine lift_laid (C := Tryz.checked) (X := fun w _ => laidMet Tryz.prog laidL w) laid_heap own_none started (by kernel_rfl) fn_4
    (ChangeSpec.witness_at (enc := enc) (C := Tryz.checked) (X := fun w _ => laidMet Tryz.prog laidL w) false (laidWorld os) #[.slice none 0 0, .agg #[.int .u8 0, .int .u8 0, .int .u8 0, .int .u8 0, .int .u8 0, .int .u8 0], .agg #[.int .u8 0, .int .u8 0, .int .u8 0, .int .u8 0, .int .u8 0, .int .u8 0]] 8 (by kernel_rfl) (by kernel_rfl) (by kernel_rfl) (by kernel_rfl) (by kernel_rfl) (by kernel_rfl) (laid_met os _)) ?_
  intro W base args ds gs before hval hW hx hsh
  refine law_calls (E := env) (b0 := base) (Ts := [.sl RawT, RawT, RawT]) (tb := 4) env_ok laid_out (of_decide_eq_true (by kernel_rfl)) rfl rfl rfl (by kernel_rfl) rfl ?_ forgets_all (tabs_of hsh hx) hval hW
  intro ds hds
  match ds, hds with
  | [d0, d1, d2], _ => rfl
theorem forgets_holds : Rows.VaultForgetsSaid :=
  OpenClaim.holds_of_wide 4 Tryz.f4 rfl rfl rfl rfl rfl rfl rfl ⟨rfl, rfl, rfl, rfl, rfl⟩ rfl rfl rfl rfl rfl (by kernel_rfl) fn_4 (by kernel_rfl)
    (of_decide_eq_true (by kernel_rfl)) (by unfold Func.isWrapper; first | (rw [if_pos (by decide +kernel)]; kernel_rfl) | (rw [if_neg (by decide +kernel)]; exact ⟨rfl, rfl⟩))
    (fun os started H enc _ => forgets_lifted os started H enc)
theorem forgets_card : Rows.VaultForgetsCardSaid :=
  Claim7.holds_tied_plain_at .later [] [.data, .data, .data] true (true, "426d57a87c791b27104f04666428ef46072b02b99fc935c38a2ca183da242164") false
    forgets_holds (fun _ h => by cases h) (by kernel_rfl) (fun _ h => by cases h) vaultForgets_row_tie rfl ⟨rfl, rfl⟩ (by kernel_rfl) rfl
    (fun f fn hf hfn => by
      obtain rfl : f = 4 := Option.some.inj ((show Tryz.prog.funcNamed "syllabary/syllabarylaw27.VaultForgets" = some 4 by kernel_rfl).symm.trans hf) |>.symm
      obtain rfl : fn = Tryz.f4 := (Option.some.inj (fn_4.symm.trans hfn)).symm
      exact ⟨by kernel_rfl, fun j t ht => by
        have hall : (Tryz.f4.params.toList.all fun u => !Tryz.prog.wantsStandIn u) = true := by kernel_rfl
        have hm : t ∈ Tryz.f4.params.toList := Array.mem_toList_iff.2 (Array.mem_of_getElem? ht)
        exact (show Tryz.prog.wantsStandIn t = false by simpa using List.all_eq_true.1 hall t hm)⟩)
    (by kernel_rfl)
end Go.Proofs.YtmjnkaabooockaaGreatDoor
