/- The law VaultLines holds for every input. No condition. -/
import Derived.Test.YtmjnkaabooockaaGreatDoorB6
import Derived.Test.YtmjnkaabooockaaGreatDoorCards
import Derived.Test.YtmjnkaabooockaaGreatDoorTie
import Derived.SevenTiedAt
set_option linter.unusedSimpArgs false
set_option linter.unusedVariables false
namespace Go.Proofs.YtmjnkaabooockaaGreatDoor
open Go.Lib
set_option maxHeartbeats 4000000
set_option maxRecDepth 100000
theorem u16_of {x : Int} (h : IntKind.u16.min ≤ x ∧ x ≤ IntKind.u16.max) : 0 ≤ x ∧ x ≤ 65535 := h
def lineRec (x : Raw6) (w : Int × Int × Int × Int) : Rec := ((recS x).1, 1 + w.1, w.2.1 % 10001, (recS x).2.2.2.1, (recS x).2.2.2.2.1, 1 + w.2.2.1 % 1000)
theorem lineRec_right {x : Raw6} (h : RawT.ok x) {w : Int × Int × Int × Int} (h1 : 0 ≤ w.1 ∧ w.1 ≤ 65535) : rightR (lineRec x w) = true := by
  have hr := right_nums (recS_right h)
  refine right_of ⟨hr.1, ?_, ?_, hr.2.2.2.1, hr.2.2.2.2.1, ?_⟩
  · unfold lineRec; dsimp only; omega
  · unfold lineRec; dsimp only; omega
  · unfold lineRec; dsimp only; omega
theorem c_Lines5 (x : Raw6) (w : Int × Int × Int × Int) (raw : Str) : PC env 5 [⟨RawT, x⟩, ⟨.st (.pair (.int .u16) (.pair (.int .u16) (.pair (.int .u16) (.int .u16)))), w⟩, ⟨.str, raw⟩] .bool true := by
  refine PC.of_PW (m := 2000) env_ok fn_5 rfl rfl rfl rfl (by kernel_rfl) ?_; intro hx; simp only [Tryz.f5]; simp (config := {maxSteps := 4000000}) only [go_sem, Nat.reduceBEq, ↓reduceIte, ↓reduceDIte, Nat.reduceAdd, Nat.reduceSub, Nat.reduceMul, Nat.reduceLeDiff, ← Bool.decide_and, ← Bool.decide_or, ← decide_not, Int.reduceLT, Int.reduceLE, Int.reduceToNat, Int.reduceNeg, by_nil, by32, by10, litP, appendC, Int.reduceEq, not_true_eq_false, not_false_eq_true, false_implies]
  have hxo : RawT.ok x := hx.1
  have w1 := u16_of hx.2.1.1
  have w2 := u16_of hx.2.1.2.1
  have w3 := u16_of hx.2.1.2.2.1
  have w4 := u16_of hx.2.1.2.2.2
  dsimp only at w1 w2 w3 w4
  clear hx
  have hR := lineRec_right hxo w1
  have hP : PC env 20 [⟨.str, lineE (lineRec x w)⟩] (.tup RecordT (.int .i64)) (lineRec x w, 0) := by
    have := c_Parse (lineE (lineRec x w)) (by have := line_len hR; omega)
    unfold parseE at this
    rwa [parse_line hR] at this
  rw [Int.tmod_eq_emod_of_nonneg w2.1, Int.tmod_eq_emod_of_nonneg w3.1]
  refine ⟨_, c_sanity, _, c_Record x, fun _ => ?_⟩
  have hL := line_len hR
  have hpos : 0 < (lineE (lineRec x w)).length := by
    have := no10_line hR
    cases he : lineE (lineRec x w) with
    | nil =>
      have h2 := spl_line hR
      rw [he] at h2
      exact absurd (congrArg List.length h2) (by simp [spl])
    | cons => simp
  refine ⟨i64_ok (by omega) (by omega), i64_ok (by omega) (by omega), _, c_Line (lineRec x w) hR, fun _ => ⟨_, hP, fun _ => ⟨_, c_Line2 (lineRec x w) hR, fun _ => ⟨fun _ => ⟨fun _ => ⟨fun h => absurd ⟨rfl, rfl, rfl, rfl, rfl, rfl⟩ h, fun _ => ⟨_, c_Line2 (lineRec x w) hR, fun _ => ?_⟩⟩, fun h => absurd rfl h⟩, fun h => absurd rfl h⟩⟩⟩⟩
  generalize lineE (lineRec x w) = s at hL hpos
  have hl0 : 0 ≤ (s.length : Int) := Int.natCast_nonneg _
  rw [Int.tmod_eq_emod_of_nonneg w4.1, Int.tmod_eq_emod_of_nonneg w4.1]
  have hm := Int.emod_nonneg w.2.2.2 (b := (s.length : Int)) (by omega)
  have hm2 := Int.emod_lt_of_pos w.2.2.2 (b := (s.length : Int)) (by omega)
  have h7 := Int.emod_nonneg w.2.2.2 (b := 7) (by omega)
  have h72 := Int.emod_lt_of_pos w.2.2.2 (b := 7) (by omega)
  generalize w.2.2.2 % (s.length : Int) = q at hm hm2
  generalize w.2.2.2 % 7 = p at h7 h72
  generalize hsg : bytesOf ⟨#[48, 49, 50, 57, 32, 65, 45]⟩ = sg
  have hsl : sg.length = 7 := by rw [← hsg]; rfl
  have t1 : (s.take q.toNat).length ≤ 60 := by rw [List.length_take]; omega
  have t2 : ((sg.drop p.toNat).take ((p + 1).toNat - p.toNat)).length ≤ 7 := by rw [List.length_take, List.length_drop]; omega
  have t3 : (s.drop (q + 1).toNat).length ≤ 60 := by rw [List.length_drop]; omega
  refine ⟨(by first | omega | (show (_ : Int) ≤ _; omega) | (show (_ : Int) < _; omega) | (dsimp only; omega)), ⟨by omega, by omega⟩, ⟨by omega, by omega⟩, ⟨by omega, by omega, by omega⟩, by omega, i64_ok (by omega) (by omega), ⟨by omega, by omega⟩, by rw [List.length_append]; omega, ⟨by omega, by omega⟩, ⟨by omega, by omega⟩, ?_⟩
  have t4 : (raw.take (min (raw.length : Int) 40).toNat).length ≤ 200 := by rw [List.length_take]; omega
  have t5 : (s.take q.toNat ++ (sg.drop p.toNat).take ((p + 1).toNat - p.toNat) ++ s.drop (q + 1).toNat).length ≤ 200 := by rw [List.length_append, List.length_append]; omega
  have t6 : (s.take q.toNat).length ≤ 200 := by omega
  generalize s.take q.toNat ++ (sg.drop p.toNat).take ((p + 1).toNat - p.toNat) ++ s.drop (q + 1).toNat = x0 at t5
  generalize s.take q.toNat = x1 at t6
  generalize raw.take (min (raw.length : Int) 40).toNat = x2 at t4
  have hT : ∀ t : Str, t.length ≤ 200 → ∃ r e, PC env 20 [⟨.str, t⟩] (.tup RecordT (.int .i64)) (r, e) ∧ PC env 22 [⟨.str, t⟩] (.tup RecordT (.int .i64)) (r, e) ∧ (e ≠ 0 ∨ PC env 19 [⟨RecordT, r⟩] .str t) := fun t ht => by
    refine ⟨(parseE t).1, (parseE t).2, c_Parse t (by omega), ?_, ?_⟩
    · have := c_ParseR t (by omega)
      rwa [parse_same] at this
    · unfold parseE
      cases h : readV recFs zR t with
      | none => exact .inl (by decide)
      | some r =>
        obtain ⟨k1, k2⟩ := (parse_iff _ _).1 h
        exact .inr (by have := c_Line r k1; rwa [k2] at this)
  obtain ⟨r0, e0, a0, b0, c0⟩ := hT x0 t5
  obtain ⟨r1, e1, a1, b1, c1⟩ := hT x1 t6
  obtain ⟨r2, e2, a2, b2, c2⟩ := hT x2 t4
  refine Walks.loopW (X := Nat) (fun j => ⟨[(16, .iv (.int .i64) (j : Int)), (15, .ref 15 0), (7, .iv .bool true)], [(15, .box [.iv .str x0, .iv .str x1, .iv .str x2])]⟩) (fun j => j ≤ 3) (fun j => 3 - j) 0 (by refine ⟨?_, ?_, rfl, rfl⟩ <;> repeat' (first | exact trivial | exact Or.inl rfl | exact Or.inr rfl | (refine And.intro (Or.inl rfl) ?_) | (refine And.intro (Or.inr (Or.inl rfl)) ?_) | (refine And.intro (Or.inr (Or.inr (Or.inr ⟨rfl, rfl⟩))) ?_) | (refine And.intro (Or.inr (Or.inr (Or.inl ⟨rfl, rfl, trivial⟩))) ?_) | exact ⟨(by show (_ : Nat) < 1000000000; omega), rfl, rfl⟩ | rfl | (refine And.intro (Or.inl ?_) ?_) | (refine And.intro ?_ ?_))) (Nat.zero_le _) ?_
  intro j hj back
  obtain rfl | rfl | rfl | rfl : j = 0 ∨ j = 1 ∨ j = 2 ∨ j = 3 := by omega
  · refine PW_sound env_ok ⟨_, fn_5, rfl⟩ 2000 _ _ (by kernel_rfl) ?_; simp only [go_sem, Nat.reduceBEq, ↓reduceIte, ↓reduceDIte, Nat.reduceAdd, Nat.reduceSub, Nat.reduceMul, Nat.reduceLeDiff, ← Bool.decide_and, ← Bool.decide_or, ← decide_not, Int.reduceLT, Int.reduceLE, Int.reduceToNat, Int.reduceNeg, by_nil, by32, by10, litP, appendC, Int.reduceEq, not_true_eq_false, not_false_eq_true, false_implies]
    refine ⟨_, a0, fun _ => ⟨_, b0, fun _ => ⟨fun _ => ⟨fun _ => ⟨fun he => ⟨_, c0.resolve_left (fun h => h he), fun _ => ⟨fun h => absurd rfl h, fun _ => ?_⟩⟩, fun he => ?_⟩, fun h => absurd rfl h⟩, fun h => absurd ⟨rfl, rfl, rfl, rfl, rfl, rfl⟩ h⟩⟩⟩
    · exact ⟨i64_ok (by omega) (by omega), back _ 1 (by refine ⟨?_, ?_, rfl, rfl⟩ <;> repeat' (first | exact trivial | exact Or.inl rfl | exact Or.inr rfl | (refine And.intro (Or.inl rfl) ?_) | (refine And.intro (Or.inr (Or.inl rfl)) ?_) | (refine And.intro (Or.inr (Or.inr (Or.inr ⟨rfl, rfl⟩))) ?_) | (refine And.intro (Or.inr (Or.inr (Or.inl ⟨rfl, rfl, trivial⟩))) ?_) | exact ⟨(by show (_ : Nat) < 1000000000; omega), rfl, rfl⟩ | rfl | (refine And.intro (Or.inl ?_) ?_) | (refine And.intro ?_ ?_))) (by omega) (by omega)⟩
    · exact ⟨i64_ok (by omega) (by omega), back _ 1 (by refine ⟨?_, ?_, rfl, rfl⟩ <;> repeat' (first | exact trivial | exact Or.inl rfl | exact Or.inr rfl | (refine And.intro (Or.inl rfl) ?_) | (refine And.intro (Or.inr (Or.inl rfl)) ?_) | (refine And.intro (Or.inr (Or.inr (Or.inr ⟨rfl, rfl⟩))) ?_) | (refine And.intro (Or.inr (Or.inr (Or.inl ⟨rfl, rfl, trivial⟩))) ?_) | exact ⟨(by show (_ : Nat) < 1000000000; omega), rfl, rfl⟩ | rfl | (refine And.intro (Or.inl ?_) ?_) | (refine And.intro ?_ ?_))) (by omega) (by omega)⟩
  · refine PW_sound env_ok ⟨_, fn_5, rfl⟩ 2000 _ _ (by kernel_rfl) ?_; simp only [go_sem, Nat.reduceBEq, ↓reduceIte, ↓reduceDIte, Nat.reduceAdd, Nat.reduceSub, Nat.reduceMul, Nat.reduceLeDiff, ← Bool.decide_and, ← Bool.decide_or, ← decide_not, Int.reduceLT, Int.reduceLE, Int.reduceToNat, Int.reduceNeg, by_nil, by32, by10, litP, appendC, Int.reduceEq, not_true_eq_false, not_false_eq_true, false_implies]
    refine ⟨_, a1, fun _ => ⟨_, b1, fun _ => ⟨fun _ => ⟨fun _ => ⟨fun he => ⟨_, c1.resolve_left (fun h => h he), fun _ => ⟨fun h => absurd rfl h, fun _ => ?_⟩⟩, fun he => ?_⟩, fun h => absurd rfl h⟩, fun h => absurd ⟨rfl, rfl, rfl, rfl, rfl, rfl⟩ h⟩⟩⟩
    · exact ⟨i64_ok (by omega) (by omega), back _ 2 (by refine ⟨?_, ?_, rfl, rfl⟩ <;> repeat' (first | exact trivial | exact Or.inl rfl | exact Or.inr rfl | (refine And.intro (Or.inl rfl) ?_) | (refine And.intro (Or.inr (Or.inl rfl)) ?_) | (refine And.intro (Or.inr (Or.inr (Or.inr ⟨rfl, rfl⟩))) ?_) | (refine And.intro (Or.inr (Or.inr (Or.inl ⟨rfl, rfl, trivial⟩))) ?_) | exact ⟨(by show (_ : Nat) < 1000000000; omega), rfl, rfl⟩ | rfl | (refine And.intro (Or.inl ?_) ?_) | (refine And.intro ?_ ?_))) (by omega) (by omega)⟩
    · exact ⟨i64_ok (by omega) (by omega), back _ 2 (by refine ⟨?_, ?_, rfl, rfl⟩ <;> repeat' (first | exact trivial | exact Or.inl rfl | exact Or.inr rfl | (refine And.intro (Or.inl rfl) ?_) | (refine And.intro (Or.inr (Or.inl rfl)) ?_) | (refine And.intro (Or.inr (Or.inr (Or.inr ⟨rfl, rfl⟩))) ?_) | (refine And.intro (Or.inr (Or.inr (Or.inl ⟨rfl, rfl, trivial⟩))) ?_) | exact ⟨(by show (_ : Nat) < 1000000000; omega), rfl, rfl⟩ | rfl | (refine And.intro (Or.inl ?_) ?_) | (refine And.intro ?_ ?_))) (by omega) (by omega)⟩
  · refine PW_sound env_ok ⟨_, fn_5, rfl⟩ 2000 _ _ (by kernel_rfl) ?_; simp only [go_sem, Nat.reduceBEq, ↓reduceIte, ↓reduceDIte, Nat.reduceAdd, Nat.reduceSub, Nat.reduceMul, Nat.reduceLeDiff, ← Bool.decide_and, ← Bool.decide_or, ← decide_not, Int.reduceLT, Int.reduceLE, Int.reduceToNat, Int.reduceNeg, by_nil, by32, by10, litP, appendC, Int.reduceEq, not_true_eq_false, not_false_eq_true, false_implies]
    refine ⟨_, a2, fun _ => ⟨_, b2, fun _ => ⟨fun _ => ⟨fun _ => ⟨fun he => ⟨_, c2.resolve_left (fun h => h he), fun _ => ⟨fun h => absurd rfl h, fun _ => ?_⟩⟩, fun he => ?_⟩, fun h => absurd rfl h⟩, fun h => absurd ⟨rfl, rfl, rfl, rfl, rfl, rfl⟩ h⟩⟩⟩
    · exact ⟨i64_ok (by omega) (by omega), back _ 3 (by refine ⟨?_, ?_, rfl, rfl⟩ <;> repeat' (first | exact trivial | exact Or.inl rfl | exact Or.inr rfl | (refine And.intro (Or.inl rfl) ?_) | (refine And.intro (Or.inr (Or.inl rfl)) ?_) | (refine And.intro (Or.inr (Or.inr (Or.inr ⟨rfl, rfl⟩))) ?_) | (refine And.intro (Or.inr (Or.inr (Or.inl ⟨rfl, rfl, trivial⟩))) ?_) | exact ⟨(by show (_ : Nat) < 1000000000; omega), rfl, rfl⟩ | rfl | (refine And.intro (Or.inl ?_) ?_) | (refine And.intro ?_ ?_))) (by omega) (by omega)⟩
    · exact ⟨i64_ok (by omega) (by omega), back _ 3 (by refine ⟨?_, ?_, rfl, rfl⟩ <;> repeat' (first | exact trivial | exact Or.inl rfl | exact Or.inr rfl | (refine And.intro (Or.inl rfl) ?_) | (refine And.intro (Or.inr (Or.inl rfl)) ?_) | (refine And.intro (Or.inr (Or.inr (Or.inr ⟨rfl, rfl⟩))) ?_) | (refine And.intro (Or.inr (Or.inr (Or.inl ⟨rfl, rfl, trivial⟩))) ?_) | exact ⟨(by show (_ : Nat) < 1000000000; omega), rfl, rfl⟩ | rfl | (refine And.intro (Or.inl ?_) ?_) | (refine And.intro ?_ ?_))) (by omega) (by omega)⟩
  · refine PW_sound env_ok ⟨_, fn_5, rfl⟩ 2000 _ _ (by kernel_rfl) ?_; simp only [go_sem, Nat.reduceBEq, ↓reduceIte, ↓reduceDIte, Nat.reduceAdd, Nat.reduceSub, Nat.reduceMul, Nat.reduceLeDiff, ← Bool.decide_and, ← Bool.decide_or, ← decide_not, Int.reduceLT, Int.reduceLE, Int.reduceToNat, Int.reduceNeg, by_nil, by32, by10, litP, appendC, Int.reduceEq, not_true_eq_false, not_false_eq_true, false_implies]
end Go.Proofs.YtmjnkaabooockaaGreatDoor
namespace Go.Proofs.YtmjnkaabooockaaGreatDoor
open Go.ChangeShapes Go.WideShapes Go.ChangeAt Go.RowKit
theorem lines_all (xs : List (Sigma Ty.den)) (h : xs.map (·.1) = [RawT, .st (.pair (.int .u16) (.pair (.int .u16) (.pair (.int .u16) (.int .u16)))), .str]) : PC env 5 xs .bool true := by
  match xs, h with
  | [⟨_, y0⟩, ⟨_, y1⟩, ⟨_, y2⟩], h =>
    injection h with h1 h
    injection h with h2 h
    injection h with h3 h
    dsimp only at h1 h2 h3
    subst h1 h2 h3
    exact c_Lines5 y0 y1 y2
set_option maxRecDepth 100000 in
theorem lines_lifted (os : Os) (started : os.Started) (H : Type) (enc : TypeId × Value → H) :
    ReturnsInHanded {} Tryz.checked os 5 .any (Rows.vaultLinesRow.pre enc Tryz.prog Tryz.f5 (OpenSpec.ofChange Rows.vaultLinesSpec)) (Rows.vaultLinesSpec.post enc Tryz.prog Tryz.f5 false true false false) := by
  rw [pre_laid (c := Rows.vaultLinesRow) (s := Rows.vaultLinesSpec) rfl]
  refine lift_laid (C := Tryz.checked) (X := fun w _ => laidMet Tryz.prog laidL w) laid_heap own_none started (by kernel_rfl) fn_5
    (ChangeSpec.witness_at (enc := enc) (C := Tryz.checked) (X := fun w _ => laidMet Tryz.prog laidL w) false (laidWorld os) #[.agg #[.int .u8 0, .int .u8 0, .int .u8 0, .int .u8 0, .int .u8 0, .int .u8 0], .agg #[.int .u16 0, .int .u16 0, .int .u16 0, .int .u16 0], .string ⟨#[]⟩] 8 (by kernel_rfl) (by kernel_rfl) (by kernel_rfl) (by kernel_rfl) (by kernel_rfl) (by kernel_rfl) (laid_met os _)) ?_
  intro W base args ds gs before hval hW hx hsh
  refine law_calls (E := env) (b0 := base) (Ts := [RawT, .st (.pair (.int .u16) (.pair (.int .u16) (.pair (.int .u16) (.int .u16)))), .str]) (tb := 4) env_ok laid_out (of_decide_eq_true (by kernel_rfl)) rfl rfl rfl (by kernel_rfl) rfl ?_ lines_all (tabs_of hsh hx) hval hW
  intro ds hds
  match ds, hds with
  | [d0, d1, d2], _ => rfl
theorem lines_holds : Rows.VaultLinesSaid :=
  OpenClaim.holds_of_wide 5 Tryz.f5 rfl rfl rfl rfl rfl rfl rfl ⟨rfl, rfl, rfl, rfl, rfl⟩ rfl rfl rfl rfl rfl (by kernel_rfl) fn_5 (by kernel_rfl)
    (of_decide_eq_true (by kernel_rfl)) (by unfold Func.isWrapper; first | (rw [if_pos (by decide +kernel)]; kernel_rfl) | (rw [if_neg (by decide +kernel)]; exact ⟨rfl, rfl⟩))
    (fun os started H enc _ => lines_lifted os started H enc)
theorem lines_card : Rows.VaultLinesCardSaid :=
  Claim7.holds_tied_plain_at .later [] [.data, .data, .data] true (true, "426d57a87c791b27104f04666428ef46072b02b99fc935c38a2ca183da242164") false
    lines_holds (fun _ h => by cases h) (by kernel_rfl) (fun _ h => by cases h) vaultLines_row_tie rfl ⟨rfl, rfl⟩ (by kernel_rfl) rfl
    (fun f fn hf hfn => by
      obtain rfl : f = 5 := Option.some.inj ((show Tryz.prog.funcNamed "syllabary/syllabarylaw27.VaultLines" = some 5 by kernel_rfl).symm.trans hf) |>.symm
      obtain rfl : fn = Tryz.f5 := (Option.some.inj (fn_5.symm.trans hfn)).symm
      exact ⟨by kernel_rfl, fun j t ht => by
        have hall : (Tryz.f5.params.toList.all fun u => !Tryz.prog.wantsStandIn u) = true := by kernel_rfl
        have hm : t ∈ Tryz.f5.params.toList := Array.mem_toList_iff.2 (Array.mem_of_getElem? ht)
        exact (show Tryz.prog.wantsStandIn t = false by simpa using List.all_eq_true.1 hall t hm)⟩)
    (by kernel_rfl)
end Go.Proofs.YtmjnkaabooockaaGreatDoor
