/- Contracts: an export. Nothing here is trusted; no condition. -/
import Derived.Test.YtmjnkaabooockaaGreatDoorB3
set_option linter.unusedSimpArgs false
set_option linter.unusedVariables false
namespace Go.Proofs.YtmjnkaabooockaaGreatDoor
open Go.Lib
set_option maxHeartbeats 4000000
set_option maxRecDepth 100000
def zR : Rec := (0, 0, 0, [], 0, 0)
def readV : List Nat → Rec → Str → Option Rec
  | [], r, _ => some r
  | f :: fs, r, s => if (Lib.cut s [32]).2.2 = decide (fs ≠ []) then (match fieldV f r (Lib.cut s [32]).1 with | some r' => readV fs r' (Lib.cut s [32]).2.1 | none => none) else none
def readE (fs : List Nat) (s : Str) : Rec × Bool := match readV fs zR s with | some r => (r, true) | none => (zR, false)
abbrev zBox : Blk := .box [.iv (.int .i64) (0 : Int), .iv (.int .i64) (0 : Int), .iv (.int .i64) (0 : Int), .iv .str ([] : Str), .iv (.int .i64) (0 : Int), .iv (.int .i64) (0 : Int)]
theorem inv_catch (p1 p2 : Addr) (w : World) : (invoke (.fn (.func 72) #[.pointer (some p1), .pointer (some p2)]) #[]).run env.P w = .ok (.enter 72 #[.pointer (some p1), .pointer (some p2)]) w := by
  show (invoke (.fn (.func 72) #[.pointer (some p1), .pointer (some p2)]) #[]).run Tryz.prog w = _
  simp [go_sem]
theorem at_read (s : Str) (fs : List Nat) : DeferAt2 env 43 40 Tryz.f43 (match Tryz.f43.body with | some (.seq _ (.seq _ r)) => r | _ => .skip) [.iv .str s, .iv (.sl .fnv) fs] 72 4 5
    ⟨(11, .fn 72 [.ref 4 0, .ref 5 0]) :: (5, .ref 5 0) :: (4, .ref 4 0) :: entrySl 0 [.iv .str s, .iv (.sl .fnv) fs], [(5, .box [.iv .bool false]), (4, zBox)]⟩ := by
  refine defer_at2 env_ok (y := 11) (s0 := ⟨(4, .ref 4 0) :: entrySl 0 [.iv .str s, .iv (.sl .fnv) fs], [(4, zBox)]⟩) (s1 := ⟨(5, .ref 5 0) :: (4, .ref 4 0) :: entrySl 0 [.iv .str s, .iv (.sl .fnv) fs], [(5, .box [.iv .bool false]), (4, zBox)]⟩) fn_43 rfl rfl rfl rfl rfl rfl rfl rfl rfl rfl rfl rfl rfl ?_ ?_ ?_ rfl rfl
  · simp only [go_sem, Nat.reduceBEq, ↓reduceIte, ↓reduceDIte, Nat.reduceAdd, Nat.reduceSub, Nat.reduceMul, Nat.reduceLeDiff, ← Bool.decide_and, ← Bool.decide_or, ← decide_not, Int.reduceLT, Int.reduceLE, Int.reduceToNat, Int.reduceNeg, by32, Int.reduceEq, not_true_eq_false, not_false_eq_true, false_implies, St.ren, rhoQ, mapSl, renBl, Blk.map, PV.renL, PV.ren, keepG, keepX, keepL, OutK]
    rfl
  · simp only [go_sem, Nat.reduceBEq, ↓reduceIte, ↓reduceDIte, Nat.reduceAdd, Nat.reduceSub, Nat.reduceMul, Nat.reduceLeDiff, ← Bool.decide_and, ← Bool.decide_or, ← decide_not, Int.reduceLT, Int.reduceLE, Int.reduceToNat, Int.reduceNeg, by32, Int.reduceEq, not_true_eq_false, not_false_eq_true, false_implies, St.ren, rhoQ, mapSl, renBl, Blk.map, PV.renL, PV.ren, keepG, keepX, keepL, OutK]
    rfl
  · simp only [go_sem, Nat.reduceBEq, ↓reduceIte, ↓reduceDIte, Nat.reduceAdd, Nat.reduceSub, Nat.reduceMul, Nat.reduceLeDiff, ← Bool.decide_and, ← Bool.decide_or, ← decide_not, Int.reduceLT, Int.reduceLE, Int.reduceToNat, Int.reduceNeg, by32, Int.reduceEq, not_true_eq_false, not_false_eq_true, false_implies, St.ren, rhoQ, mapSl, renBl, Blk.map, PV.renL, PV.ren, keepG, keepX, keepL, OutK]
    rfl
theorem load_ok (tmps : Array Value) (g1 g2 : Nat) (e1 e2 : TypeId) (w : World) (h1 : tmps.getD 4 undef = .pointer (some ⟨g1, 0, none⟩)) (h2 : tmps.getD 5 undef = .pointer (some ⟨g2, 0, none⟩))
    (h3 : w.heap[g1]? = some (.cells #[.int .i64 0, .int .i64 0, .int .i64 0, .string ⟨#[]⟩, .int .i64 0, .int .i64 0] e1 (0, 0))) (h4 : w.heap[g2]? = some (.cells #[.bool false] e2 (0, 0))) :
    (results Tryz.f43 tmps).run env.P w = .ok (.tuple #[.agg #[.int .i64 0, .int .i64 0, .int .i64 0, .string ⟨#[]⟩, .int .i64 0, .int .i64 0], .bool false]) w := by
  show (results Tryz.f43 tmps).run Tryz.prog w = _
  rw [Array.getD_eq_getD_getElem?] at h1 h2
  have c0 : w.cell? ⟨g1, 0, none⟩ = some (.int .i64 0) := by simp [World.cell?, h3]
  have c1 : w.cell? ⟨g1, 1, none⟩ = some (.int .i64 0) := by simp [World.cell?, h3]
  have c2 : w.cell? ⟨g1, 2, none⟩ = some (.int .i64 0) := by simp [World.cell?, h3]
  have c3 : w.cell? ⟨g1, 3, none⟩ = some (.string ⟨#[]⟩) := by simp [World.cell?, h3]
  have c4 : w.cell? ⟨g1, 4, none⟩ = some (.int .i64 0) := by simp [World.cell?, h3]
  have c5 : w.cell? ⟨g1, 5, none⟩ = some (.int .i64 0) := by simp [World.cell?, h3]
  have d0 : w.cell? ⟨g2, 0, none⟩ = some (.bool false) := by simp [World.cell?, h4]
  simp [results, Tryz.results43, go_sem, h1, h2, c0, c1, c2, c3, c4, c5, d0]
def knownF (f : Nat) : Prop := f = 65 ∨ f = 67 ∨ f = 68 ∨ f = 69 ∨ f = 70 ∨ f = 71
theorem fv0 {r r' : Rec} {t : Str} (h : fieldV 65 r t = some r') : ∃ n, numV 0 7 t = some n ∧ r' = (n, r.2) := by
  simp only [fieldV, Nat.reduceEqDiff, if_false, if_true] at h
  split at h
  · rename_i n hn; injection h with h; exact ⟨n, hn, h.symm⟩
  · cases h
theorem fn0 {r : Rec} {t : Str} (h : fieldV 65 r t = none) : numV 0 7 t = none := by
  simp only [fieldV, Nat.reduceEqDiff, if_false, if_true] at h
  split at h
  · cases h
  · assumption
theorem fv1 {r r' : Rec} {t : Str} (h : fieldV 67 r t = some r') : ∃ n, numV 1 1000000 t = some n ∧ r' = (r.1, n, r.2.2) := by
  simp only [fieldV, Nat.reduceEqDiff, if_false, if_true] at h
  split at h
  · rename_i n hn; injection h with h; exact ⟨n, hn, h.symm⟩
  · cases h
theorem fn1 {r : Rec} {t : Str} (h : fieldV 67 r t = none) : numV 1 1000000 t = none := by
  simp only [fieldV, Nat.reduceEqDiff, if_false, if_true] at h
  split at h
  · cases h
  · assumption
theorem fv2 {r r' : Rec} {t : Str} (h : fieldV 68 r t = some r') : ∃ n, numV 0 10000 t = some n ∧ r' = (r.1, r.2.1, n, r.2.2.2) := by
  simp only [fieldV, Nat.reduceEqDiff, if_false, if_true] at h
  split at h
  · rename_i n hn; injection h with h; exact ⟨n, hn, h.symm⟩
  · cases h
theorem fn2 {r : Rec} {t : Str} (h : fieldV 68 r t = none) : numV 0 10000 t = none := by
  simp only [fieldV, Nat.reduceEqDiff, if_false, if_true] at h
  split at h
  · cases h
  · assumption
theorem fv3 {r r' : Rec} {t : Str} (h : fieldV 69 r t = some r') : wordB t = true ∧ r' = (r.1, r.2.1, r.2.2.1, t, r.2.2.2.2) := by
  simp only [fieldV, Nat.reduceEqDiff, if_false, if_true] at h
  split at h
  · rename_i hw; injection h with h; exact ⟨hw, h.symm⟩
  · cases h
theorem fn3 {r : Rec} {t : Str} (h : fieldV 69 r t = none) : wordB t = false := by
  simp only [fieldV, Nat.reduceEqDiff, if_false, if_true] at h
  split at h
  · cases h
  · rename_i hw; simpa using hw
theorem fv4 {r r' : Rec} {t : Str} (h : fieldV 70 r t = some r') : ∃ n, numV 0 7 t = some n ∧ r' = (r.1, r.2.1, r.2.2.1, r.2.2.2.1, n, r.2.2.2.2.2) := by
  simp only [fieldV, Nat.reduceEqDiff, if_false, if_true] at h
  split at h
  · rename_i n hn; injection h with h; exact ⟨n, hn, h.symm⟩
  · cases h
theorem fn4 {r : Rec} {t : Str} (h : fieldV 70 r t = none) : numV 0 7 t = none := by
  simp only [fieldV, Nat.reduceEqDiff, if_false, if_true] at h
  split at h
  · cases h
  · assumption
theorem fv5 {r r' : Rec} {t : Str} (h : fieldV 71 r t = some r') : ∃ n, numV 1 1000 t = some n ∧ r' = (r.1, r.2.1, r.2.2.1, r.2.2.2.1, r.2.2.2.2.1, n) := by
  simp only [fieldV, Nat.reduceEqDiff, if_false, if_true] at h
  split at h
  · rename_i n hn; injection h with h; exact ⟨n, hn, h.symm⟩
  · cases h
theorem fn5 {r : Rec} {t : Str} (h : fieldV 71 r t = none) : numV 1 1000 t = none := by
  simp only [fieldV, Nat.reduceEqDiff, if_false, if_true] at h
  split at h
  · cases h
  · assumption
theorem cut_len (s : Str) : (Lib.cut s [32]).2.1.length ≤ s.length := by
  rcases first_c 32 s with h | ⟨x, r, rfl, h⟩
  · rw [cut_no h]; simp
  · rw [cut_yes h]; simp; omega
theorem h_read (fs : List Nat) (hfs : ∀ f, f ∈ fs → knownF f) (s : Str) (hs : s.length ≤ 1000000000) (R : Rec) (h : readV fs zR s = some R) :
    HC env 43 [.iv .str s, .iv (.sl .fnv) fs] [] (.iv (.tup RecordT .bool) (R, true)) [] := by
  refine HC.of_deferR2 (m := 2000) (Q1 := 1000000008) (Q2 := 1000000009) env_ok fn_43 (at_read s fs) rfl rfl (by kernel_rfl) catch_idle inv_catch ?_
  intro hx
  simp only [Tryz.f43]
  simp only [go_sem, Nat.reduceBEq, ↓reduceIte, ↓reduceDIte, Nat.reduceAdd, Nat.reduceSub, Nat.reduceMul, Nat.reduceLeDiff, ← Bool.decide_and, ← Bool.decide_or, ← decide_not, Int.reduceLT, Int.reduceLE, Int.reduceToNat, Int.reduceNeg, by32, Int.reduceEq, not_true_eq_false, not_false_eq_true, false_implies, St.ren, rhoQ, mapSl, renBl, Blk.map, PV.renL, PV.ren, keepG, keepX, keepL]
  have hfl : fs.length ≤ 9223372036854775807 := hx.2.1.1
  refine Walks.loopA (X := Nat × Rec × Str) (fun (z : Nat × Rec × Str) => [(14, .iv (.int .i64) (z.1 : Int)), (0, .iv .str z.2.2), (6, .any), (7, .any), (8, .any), (9, .any), (10, .any)]) (fun (z : Nat × Rec × Str) => [(1000000008, .box [.iv (.int .i64) z.2.1.1, .iv (.int .i64) z.2.1.2.1, .iv (.int .i64) z.2.1.2.2.1, .iv .str z.2.1.2.2.2.1, .iv (.int .i64) z.2.1.2.2.2.2.1, .iv (.int .i64) z.2.1.2.2.2.2.2])]) (fun (z : Nat × Rec × Str) => z.1 ≤ fs.length ∧ readV (fs.drop z.1) z.2.1 z.2.2 = some R ∧ z.2.2.length ≤ 1000000000) (fun (z : Nat × Rec × Str) => fs.length - z.1) (0, zR, s) ?_; intro b1 b2 hb1 hb2; simp (config := {maxSteps := 4000000}) only [go_sem, Nat.reduceBEq, ↓reduceIte, ↓reduceDIte, Nat.reduceAdd, Nat.reduceSub, Nat.reduceMul, Nat.reduceLeDiff, ← Bool.decide_and, ← Bool.decide_or, ← decide_not, Int.reduceLT, Int.reduceLE, Int.reduceToNat, Int.reduceNeg, by32, Int.reduceEq, not_true_eq_false, not_false_eq_true, false_implies, St.ren, rhoQ, mapSl, renBl, Blk.map, PV.renL, PV.ren, keepG, keepX, keepL] at hb1 hb2; subst hb1; subst hb2; refine ⟨(by refine ⟨?_, ?_, rfl, rfl⟩ <;> repeat' (first | exact trivial | exact Or.inl rfl | exact Or.inr rfl | (refine And.intro (Or.inl rfl) ?_) | (refine And.intro (Or.inr (Or.inl rfl)) ?_) | (refine And.intro (Or.inr (Or.inr (Or.inr ⟨rfl, rfl⟩))) ?_) | (refine And.intro (Or.inr (Or.inr (Or.inl ⟨rfl, rfl, trivial⟩))) ?_) | exact ⟨(by show (_ : Nat) < 1000000000; omega), rfl, rfl⟩ | rfl | (refine And.intro (Or.inl ?_) ?_) | (refine And.intro ?_ ?_))), ?_, ?_⟩
  · exact ⟨Nat.zero_le _, h, hs⟩
  clear h hs s hx
  intro ⟨i, r, s⟩ ⟨hi, hr, hs⟩ back
  dsimp only at hi hr hs
  refine PW_sound env_ok ⟨_, fn_43, rfl⟩ 2000 _ _ (by kernel_rfl) ?_; simp only [go_sem, Nat.reduceBEq, ↓reduceIte, ↓reduceDIte, Nat.reduceAdd, Nat.reduceSub, Nat.reduceMul, Nat.reduceLeDiff, ← Bool.decide_and, ← Bool.decide_or, ← decide_not, Int.reduceLT, Int.reduceLE, Int.reduceToNat, Int.reduceNeg, by32, Int.reduceEq, not_true_eq_false, not_false_eq_true, false_implies, St.ren, rhoQ, mapSl, renBl, Blk.map, PV.renL, PV.ren, keepG, keepX, keepL]
  refine ⟨fun hlt => ?_, fun hge => ?_⟩
  · obtain ⟨f, hf⟩ : ∃ f, fs[i]? = some f := get_of_lt (by omega)
    rw [drop_cons hf, readV] at hr
    have hrest : decide (fs.drop (i + 1) ≠ []) = decide ((i : Int) < (fs.length : Int) - 1) := decide_eq_decide.2 (by
      rw [ne_eq, List.drop_eq_nil_iff]; omega)
    rw [hrest] at hr
    split at hr
    case isFalse => cases hr
    rename_i hmore
    split at hr
    case h_2 => cases hr
    rename_i r' hfv
    have hcl : (Lib.cut s [32]).2.1.length ≤ 1000000000 := by
      have := cut_len s; omega
    refine ⟨Int.natCast_nonneg i, f, hf, _, c_Cut s [32] (by omega), fun _ => ⟨i64_ok (by omega) (by omega), ?_⟩⟩
    rcases hfs f (List.mem_of_getElem? hf) with rfl | rfl | rfl | rfl | rfl | rfl
    · obtain ⟨n, hn, rfl⟩ := fv0 hfv
      refine PB_cast (b' := false) (by rw [hmore, bne_dec]; simp) ?_
      simp only [go_sem, Nat.reduceBEq, ↓reduceIte, ↓reduceDIte, Nat.reduceAdd, Nat.reduceSub, Nat.reduceMul, Nat.reduceLeDiff, ← Bool.decide_and, ← Bool.decide_or, ← decide_not, Int.reduceLT, Int.reduceLE, Int.reduceToNat, Int.reduceNeg, by32, Int.reduceEq, not_true_eq_false, not_false_eq_true, false_implies, St.ren, rhoQ, mapSl, renBl, Blk.map, PV.renL, PV.ren, keepG, keepX, keepL]
      refine ⟨_, _, h_f0 r _ n hn, rfl, ?_⟩
      simp only [go_sem, Nat.reduceBEq, ↓reduceIte, ↓reduceDIte, Nat.reduceAdd, Nat.reduceSub, Nat.reduceMul, Nat.reduceLeDiff, ← Bool.decide_and, ← Bool.decide_or, ← decide_not, Int.reduceLT, Int.reduceLE, Int.reduceToNat, Int.reduceNeg, by32, Int.reduceEq, not_true_eq_false, not_false_eq_true, false_implies, St.ren, rhoQ, mapSl, renBl, Blk.map, PV.renL, PV.ren, keepG, keepX, keepL]
      intro _
      exact ⟨i64_ok (by omega) (by omega), back _ (i + 1, (n, r.2), (Lib.cut s [32]).2.1) (by refine ⟨?_, ?_, rfl, rfl⟩ <;> repeat' (first | exact trivial | exact Or.inl rfl | exact Or.inr rfl | (refine And.intro (Or.inl rfl) ?_) | (refine And.intro (Or.inr (Or.inl rfl)) ?_) | (refine And.intro (Or.inr (Or.inr (Or.inr ⟨rfl, rfl⟩))) ?_) | (refine And.intro (Or.inr (Or.inr (Or.inl ⟨rfl, rfl, trivial⟩))) ?_) | exact ⟨(by show (_ : Nat) < 1000000000; omega), rfl, rfl⟩ | rfl | (refine And.intro (Or.inl ?_) ?_) | (refine And.intro ?_ ?_))) ⟨by dsimp only; omega, hr, hcl⟩ (by dsimp only; omega)⟩
    · obtain ⟨n, hn, rfl⟩ := fv1 hfv
      refine PB_cast (b' := false) (by rw [hmore, bne_dec]; simp) ?_
      simp only [go_sem, Nat.reduceBEq, ↓reduceIte, ↓reduceDIte, Nat.reduceAdd, Nat.reduceSub, Nat.reduceMul, Nat.reduceLeDiff, ← Bool.decide_and, ← Bool.decide_or, ← decide_not, Int.reduceLT, Int.reduceLE, Int.reduceToNat, Int.reduceNeg, by32, Int.reduceEq, not_true_eq_false, not_false_eq_true, false_implies, St.ren, rhoQ, mapSl, renBl, Blk.map, PV.renL, PV.ren, keepG, keepX, keepL]
      refine ⟨_, _, h_f1 r _ n hn, rfl, ?_⟩
      simp only [go_sem, Nat.reduceBEq, ↓reduceIte, ↓reduceDIte, Nat.reduceAdd, Nat.reduceSub, Nat.reduceMul, Nat.reduceLeDiff, ← Bool.decide_and, ← Bool.decide_or, ← decide_not, Int.reduceLT, Int.reduceLE, Int.reduceToNat, Int.reduceNeg, by32, Int.reduceEq, not_true_eq_false, not_false_eq_true, false_implies, St.ren, rhoQ, mapSl, renBl, Blk.map, PV.renL, PV.ren, keepG, keepX, keepL]
      intro _
      exact ⟨i64_ok (by omega) (by omega), back _ (i + 1, (r.1, n, r.2.2), (Lib.cut s [32]).2.1) (by refine ⟨?_, ?_, rfl, rfl⟩ <;> repeat' (first | exact trivial | exact Or.inl rfl | exact Or.inr rfl | (refine And.intro (Or.inl rfl) ?_) | (refine And.intro (Or.inr (Or.inl rfl)) ?_) | (refine And.intro (Or.inr (Or.inr (Or.inr ⟨rfl, rfl⟩))) ?_) | (refine And.intro (Or.inr (Or.inr (Or.inl ⟨rfl, rfl, trivial⟩))) ?_) | exact ⟨(by show (_ : Nat) < 1000000000; omega), rfl, rfl⟩ | rfl | (refine And.intro (Or.inl ?_) ?_) | (refine And.intro ?_ ?_))) ⟨by dsimp only; omega, hr, hcl⟩ (by dsimp only; omega)⟩
    · obtain ⟨n, hn, rfl⟩ := fv2 hfv
      refine PB_cast (b' := false) (by rw [hmore, bne_dec]; simp) ?_
      simp only [go_sem, Nat.reduceBEq, ↓reduceIte, ↓reduceDIte, Nat.reduceAdd, Nat.reduceSub, Nat.reduceMul, Nat.reduceLeDiff, ← Bool.decide_and, ← Bool.decide_or, ← decide_not, Int.reduceLT, Int.reduceLE, Int.reduceToNat, Int.reduceNeg, by32, Int.reduceEq, not_true_eq_false, not_false_eq_true, false_implies, St.ren, rhoQ, mapSl, renBl, Blk.map, PV.renL, PV.ren, keepG, keepX, keepL]
      refine ⟨_, _, h_f2 r _ n hn, rfl, ?_⟩
      simp only [go_sem, Nat.reduceBEq, ↓reduceIte, ↓reduceDIte, Nat.reduceAdd, Nat.reduceSub, Nat.reduceMul, Nat.reduceLeDiff, ← Bool.decide_and, ← Bool.decide_or, ← decide_not, Int.reduceLT, Int.reduceLE, Int.reduceToNat, Int.reduceNeg, by32, Int.reduceEq, not_true_eq_false, not_false_eq_true, false_implies, St.ren, rhoQ, mapSl, renBl, Blk.map, PV.renL, PV.ren, keepG, keepX, keepL]
      intro _
      exact ⟨i64_ok (by omega) (by omega), back _ (i + 1, (r.1, r.2.1, n, r.2.2.2), (Lib.cut s [32]).2.1) (by refine ⟨?_, ?_, rfl, rfl⟩ <;> repeat' (first | exact trivial | exact Or.inl rfl | exact Or.inr rfl | (refine And.intro (Or.inl rfl) ?_) | (refine And.intro (Or.inr (Or.inl rfl)) ?_) | (refine And.intro (Or.inr (Or.inr (Or.inr ⟨rfl, rfl⟩))) ?_) | (refine And.intro (Or.inr (Or.inr (Or.inl ⟨rfl, rfl, trivial⟩))) ?_) | exact ⟨(by show (_ : Nat) < 1000000000; omega), rfl, rfl⟩ | rfl | (refine And.intro (Or.inl ?_) ?_) | (refine And.intro ?_ ?_))) ⟨by dsimp only; omega, hr, hcl⟩ (by dsimp only; omega)⟩
    · obtain ⟨hn, rfl⟩ := fv3 hfv
      refine PB_cast (b' := false) (by rw [hmore, bne_dec]; simp) ?_
      simp only [go_sem, Nat.reduceBEq, ↓reduceIte, ↓reduceDIte, Nat.reduceAdd, Nat.reduceSub, Nat.reduceMul, Nat.reduceLeDiff, ← Bool.decide_and, ← Bool.decide_or, ← decide_not, Int.reduceLT, Int.reduceLE, Int.reduceToNat, Int.reduceNeg, by32, Int.reduceEq, not_true_eq_false, not_false_eq_true, false_implies, St.ren, rhoQ, mapSl, renBl, Blk.map, PV.renL, PV.ren, keepG, keepX, keepL]
      refine ⟨_, _, h_word r _ hn, rfl, ?_⟩
      simp only [go_sem, Nat.reduceBEq, ↓reduceIte, ↓reduceDIte, Nat.reduceAdd, Nat.reduceSub, Nat.reduceMul, Nat.reduceLeDiff, ← Bool.decide_and, ← Bool.decide_or, ← decide_not, Int.reduceLT, Int.reduceLE, Int.reduceToNat, Int.reduceNeg, by32, Int.reduceEq, not_true_eq_false, not_false_eq_true, false_implies, St.ren, rhoQ, mapSl, renBl, Blk.map, PV.renL, PV.ren, keepG, keepX, keepL]
      intro _
      exact ⟨i64_ok (by omega) (by omega), back _ (i + 1, (r.1, r.2.1, r.2.2.1, (Lib.cut s [32]).1, r.2.2.2.2), (Lib.cut s [32]).2.1) (by refine ⟨?_, ?_, rfl, rfl⟩ <;> repeat' (first | exact trivial | exact Or.inl rfl | exact Or.inr rfl | (refine And.intro (Or.inl rfl) ?_) | (refine And.intro (Or.inr (Or.inl rfl)) ?_) | (refine And.intro (Or.inr (Or.inr (Or.inr ⟨rfl, rfl⟩))) ?_) | (refine And.intro (Or.inr (Or.inr (Or.inl ⟨rfl, rfl, trivial⟩))) ?_) | exact ⟨(by show (_ : Nat) < 1000000000; omega), rfl, rfl⟩ | rfl | (refine And.intro (Or.inl ?_) ?_) | (refine And.intro ?_ ?_))) ⟨by dsimp only; omega, hr, hcl⟩ (by dsimp only; omega)⟩
    · obtain ⟨n, hn, rfl⟩ := fv4 hfv
      refine PB_cast (b' := false) (by rw [hmore, bne_dec]; simp) ?_
      simp only [go_sem, Nat.reduceBEq, ↓reduceIte, ↓reduceDIte, Nat.reduceAdd, Nat.reduceSub, Nat.reduceMul, Nat.reduceLeDiff, ← Bool.decide_and, ← Bool.decide_or, ← decide_not, Int.reduceLT, Int.reduceLE, Int.reduceToNat, Int.reduceNeg, by32, Int.reduceEq, not_true_eq_false, not_false_eq_true, false_implies, St.ren, rhoQ, mapSl, renBl, Blk.map, PV.renL, PV.ren, keepG, keepX, keepL]
      refine ⟨_, _, h_f4 r _ n hn, rfl, ?_⟩
      simp only [go_sem, Nat.reduceBEq, ↓reduceIte, ↓reduceDIte, Nat.reduceAdd, Nat.reduceSub, Nat.reduceMul, Nat.reduceLeDiff, ← Bool.decide_and, ← Bool.decide_or, ← decide_not, Int.reduceLT, Int.reduceLE, Int.reduceToNat, Int.reduceNeg, by32, Int.reduceEq, not_true_eq_false, not_false_eq_true, false_implies, St.ren, rhoQ, mapSl, renBl, Blk.map, PV.renL, PV.ren, keepG, keepX, keepL]
      intro _
      exact ⟨i64_ok (by omega) (by omega), back _ (i + 1, (r.1, r.2.1, r.2.2.1, r.2.2.2.1, n, r.2.2.2.2.2), (Lib.cut s [32]).2.1) (by refine ⟨?_, ?_, rfl, rfl⟩ <;> repeat' (first | exact trivial | exact Or.inl rfl | exact Or.inr rfl | (refine And.intro (Or.inl rfl) ?_) | (refine And.intro (Or.inr (Or.inl rfl)) ?_) | (refine And.intro (Or.inr (Or.inr (Or.inr ⟨rfl, rfl⟩))) ?_) | (refine And.intro (Or.inr (Or.inr (Or.inl ⟨rfl, rfl, trivial⟩))) ?_) | exact ⟨(by show (_ : Nat) < 1000000000; omega), rfl, rfl⟩ | rfl | (refine And.intro (Or.inl ?_) ?_) | (refine And.intro ?_ ?_))) ⟨by dsimp only; omega, hr, hcl⟩ (by dsimp only; omega)⟩
    · obtain ⟨n, hn, rfl⟩ := fv5 hfv
      refine PB_cast (b' := false) (by rw [hmore, bne_dec]; simp) ?_
      simp only [go_sem, Nat.reduceBEq, ↓reduceIte, ↓reduceDIte, Nat.reduceAdd, Nat.reduceSub, Nat.reduceMul, Nat.reduceLeDiff, ← Bool.decide_and, ← Bool.decide_or, ← decide_not, Int.reduceLT, Int.reduceLE, Int.reduceToNat, Int.reduceNeg, by32, Int.reduceEq, not_true_eq_false, not_false_eq_true, false_implies, St.ren, rhoQ, mapSl, renBl, Blk.map, PV.renL, PV.ren, keepG, keepX, keepL]
      refine ⟨_, _, h_f5 r _ n hn, rfl, ?_⟩
      simp only [go_sem, Nat.reduceBEq, ↓reduceIte, ↓reduceDIte, Nat.reduceAdd, Nat.reduceSub, Nat.reduceMul, Nat.reduceLeDiff, ← Bool.decide_and, ← Bool.decide_or, ← decide_not, Int.reduceLT, Int.reduceLE, Int.reduceToNat, Int.reduceNeg, by32, Int.reduceEq, not_true_eq_false, not_false_eq_true, false_implies, St.ren, rhoQ, mapSl, renBl, Blk.map, PV.renL, PV.ren, keepG, keepX, keepL]
      intro _
      exact ⟨i64_ok (by omega) (by omega), back _ (i + 1, (r.1, r.2.1, r.2.2.1, r.2.2.2.1, r.2.2.2.2.1, n), (Lib.cut s [32]).2.1) (by refine ⟨?_, ?_, rfl, rfl⟩ <;> repeat' (first | exact trivial | exact Or.inl rfl | exact Or.inr rfl | (refine And.intro (Or.inl rfl) ?_) | (refine And.intro (Or.inr (Or.inl rfl)) ?_) | (refine And.intro (Or.inr (Or.inr (Or.inr ⟨rfl, rfl⟩))) ?_) | (refine And.intro (Or.inr (Or.inr (Or.inl ⟨rfl, rfl, trivial⟩))) ?_) | exact ⟨(by show (_ : Nat) < 1000000000; omega), rfl, rfl⟩ | rfl | (refine And.intro (Or.inl ?_) ?_) | (refine And.intro ?_ ?_))) ⟨by dsimp only; omega, hr, hcl⟩ (by dsimp only; omega)⟩
  · rw [List.drop_of_length_le (by omega), readV] at hr
    injection hr with hr
    rw [← hr]
theorem x_read (fs : List Nat) (hfs : ∀ f, f ∈ fs → knownF f) (s : Str) (hs : s.length ≤ 1000000000) (h : readV fs zR s = none) :
    HC env 43 [.iv .str s, .iv (.sl .fnv) fs] [] (.iv (.tup RecordT .bool) (zR, false)) [] := by
  refine HC.of_deferX2 (m := 2000) (Q1 := 1000000008) (Q2 := 1000000009) (T := .tup RecordT .bool) (r := (zR, false)) (t1 := none) (t2 := none) (bl1 := [(1000000008, .box [.any, .any, .any, .any, .any, .any]), (1000000009, .box [.any])]) env_ok fn_43 (at_read s fs) rfl rfl (by decide) (by decide) (by decide) (by decide) rfl rfl (by kernel_rfl) catch_panics inv_catch load_ok rfl ?_ ?_
  · intro w M
    refine ⟨[_, _], rfl, _, _, rfl, ⟨[.int .i64 0, .int .i64 0, .int .i64 0, .string ⟨#[]⟩, .int .i64 0, .int .i64 0], rfl, ?_⟩, _, rfl, rfl⟩
    exact ⟨[_], _, rfl, ⟨rfl, by decide, by decide⟩, [_], _, rfl, ⟨rfl, by decide, by decide⟩, [_], _, rfl, ⟨rfl, by decide, by decide⟩, [_], _, rfl, ⟨rfl, by decide⟩, [_], [_], rfl, ⟨rfl, by decide, by decide⟩, ⟨rfl, by decide, by decide⟩⟩
  intro hx
  simp only [Tryz.f43]
  simp only [go_sem, Nat.reduceBEq, ↓reduceIte, ↓reduceDIte, Nat.reduceAdd, Nat.reduceSub, Nat.reduceMul, Nat.reduceLeDiff, ← Bool.decide_and, ← Bool.decide_or, ← decide_not, Int.reduceLT, Int.reduceLE, Int.reduceToNat, Int.reduceNeg, by32, Int.reduceEq, not_true_eq_false, not_false_eq_true, false_implies, St.ren, rhoQ, mapSl, renBl, Blk.map, PV.renL, PV.ren, keepG, keepX, keepL]
  have hfl : fs.length ≤ 9223372036854775807 := hx.2.1.1
  refine Walks.loopA (X := Nat × Rec × Str) (fun (z : Nat × Rec × Str) => [(14, .iv (.int .i64) (z.1 : Int)), (0, .iv .str z.2.2), (6, .any), (7, .any), (8, .any), (9, .any), (10, .any)]) (fun (z : Nat × Rec × Str) => [(1000000008, .box [.iv (.int .i64) z.2.1.1, .iv (.int .i64) z.2.1.2.1, .iv (.int .i64) z.2.1.2.2.1, .iv .str z.2.1.2.2.2.1, .iv (.int .i64) z.2.1.2.2.2.2.1, .iv (.int .i64) z.2.1.2.2.2.2.2])]) (fun (z : Nat × Rec × Str) => z.1 ≤ fs.length ∧ readV (fs.drop z.1) z.2.1 z.2.2 = none ∧ z.2.2.length ≤ 1000000000) (fun (z : Nat × Rec × Str) => fs.length - z.1) (0, zR, s) ?_; intro b1 b2 hb1 hb2; simp (config := {maxSteps := 4000000}) only [go_sem, Nat.reduceBEq, ↓reduceIte, ↓reduceDIte, Nat.reduceAdd, Nat.reduceSub, Nat.reduceMul, Nat.reduceLeDiff, ← Bool.decide_and, ← Bool.decide_or, ← decide_not, Int.reduceLT, Int.reduceLE, Int.reduceToNat, Int.reduceNeg, by32, Int.reduceEq, not_true_eq_false, not_false_eq_true, false_implies, St.ren, rhoQ, mapSl, renBl, Blk.map, PV.renL, PV.ren, keepG, keepX, keepL] at hb1 hb2; subst hb1; subst hb2; refine ⟨(by refine ⟨?_, ?_, rfl, rfl⟩ <;> repeat' (first | exact trivial | exact Or.inl rfl | exact Or.inr rfl | (refine And.intro (Or.inl rfl) ?_) | (refine And.intro (Or.inr (Or.inl rfl)) ?_) | (refine And.intro (Or.inr (Or.inr (Or.inr ⟨rfl, rfl⟩))) ?_) | (refine And.intro (Or.inr (Or.inr (Or.inl ⟨rfl, rfl, trivial⟩))) ?_) | exact ⟨(by show (_ : Nat) < 1000000000; omega), rfl, rfl⟩ | rfl | (refine And.intro (Or.inl ?_) ?_) | (refine And.intro ?_ ?_))), ?_, ?_⟩
  · exact ⟨Nat.zero_le _, h, hs⟩
  clear h hs s hx
  intro ⟨i, r, s⟩ ⟨hi, hr, hs⟩ back
  dsimp only at hi hr hs
  refine PW_sound env_ok ⟨_, fn_43, rfl⟩ 2000 _ _ (by kernel_rfl) ?_; simp only [go_sem, Nat.reduceBEq, ↓reduceIte, ↓reduceDIte, Nat.reduceAdd, Nat.reduceSub, Nat.reduceMul, Nat.reduceLeDiff, ← Bool.decide_and, ← Bool.decide_or, ← decide_not, Int.reduceLT, Int.reduceLE, Int.reduceToNat, Int.reduceNeg, by32, Int.reduceEq, not_true_eq_false, not_false_eq_true, false_implies, St.ren, rhoQ, mapSl, renBl, Blk.map, PV.renL, PV.ren, keepG, keepX, keepL]
  refine ⟨fun hlt => ?_, fun hge => ?_⟩
  · obtain ⟨f, hf⟩ : ∃ f, fs[i]? = some f := get_of_lt (by omega)
    rw [drop_cons hf, readV] at hr
    have hrest : decide (fs.drop (i + 1) ≠ []) = decide ((i : Int) < (fs.length : Int) - 1) := decide_eq_decide.2 (by
      rw [ne_eq, List.drop_eq_nil_iff]; omega)
    rw [hrest] at hr
    have hcl : (Lib.cut s [32]).2.1.length ≤ 1000000000 := by
      have := cut_len s; omega
    refine ⟨Int.natCast_nonneg i, f, hf, _, c_Cut s [32] (by omega), fun _ => ⟨i64_ok (by omega) (by omega), ?_⟩⟩
    split at hr
    · rename_i hmore
      rcases hfs f (List.mem_of_getElem? hf) with rfl | rfl | rfl | rfl | rfl | rfl
      · refine PB_cast (b' := false) (by rw [hmore, bne_dec]; simp) ?_
        simp only [go_sem, Nat.reduceBEq, ↓reduceIte, ↓reduceDIte, Nat.reduceAdd, Nat.reduceSub, Nat.reduceMul, Nat.reduceLeDiff, ← Bool.decide_and, ← Bool.decide_or, ← decide_not, Int.reduceLT, Int.reduceLE, Int.reduceToNat, Int.reduceNeg, by32, Int.reduceEq, not_true_eq_false, not_false_eq_true, false_implies, St.ren, rhoQ, mapSl, renBl, Blk.map, PV.renL, PV.ren, keepG, keepX, keepL]
        split at hr
        · rename_i r' hfv
          obtain ⟨n, hn, rfl⟩ := fv0 hfv
          refine .inl ⟨_, _, h_f0 r _ n hn, rfl, ?_⟩
          simp only [go_sem, Nat.reduceBEq, ↓reduceIte, ↓reduceDIte, Nat.reduceAdd, Nat.reduceSub, Nat.reduceMul, Nat.reduceLeDiff, ← Bool.decide_and, ← Bool.decide_or, ← decide_not, Int.reduceLT, Int.reduceLE, Int.reduceToNat, Int.reduceNeg, by32, Int.reduceEq, not_true_eq_false, not_false_eq_true, false_implies, St.ren, rhoQ, mapSl, renBl, Blk.map, PV.renL, PV.ren, keepG, keepX, keepL]
          intro _
          exact ⟨i64_ok (by omega) (by omega), back _ (i + 1, (n, r.2), (Lib.cut s [32]).2.1) (by refine ⟨?_, ?_, rfl, rfl⟩ <;> repeat' (first | exact trivial | exact Or.inl rfl | exact Or.inr rfl | (refine And.intro (Or.inl rfl) ?_) | (refine And.intro (Or.inr (Or.inl rfl)) ?_) | (refine And.intro (Or.inr (Or.inr (Or.inr ⟨rfl, rfl⟩))) ?_) | (refine And.intro (Or.inr (Or.inr (Or.inl ⟨rfl, rfl, trivial⟩))) ?_) | exact ⟨(by show (_ : Nat) < 1000000000; omega), rfl, rfl⟩ | rfl | (refine And.intro (Or.inl ?_) ?_) | (refine And.intro ?_ ?_))) ⟨by dsimp only; omega, hr, hcl⟩ (by dsimp only; omega)⟩
        · rename_i hfv
          refine .inr ⟨_, x_f0 r _ (fn0 hfv), ?_⟩
          refine ⟨rfl, ?_⟩
          simp only [go_sem, Nat.reduceBEq, ↓reduceIte, ↓reduceDIte, Nat.reduceAdd, Nat.reduceSub, Nat.reduceMul, Nat.reduceLeDiff, ← Bool.decide_and, ← Bool.decide_or, ← decide_not, Int.reduceLT, Int.reduceLE, Int.reduceToNat, Int.reduceNeg, by32, Int.reduceEq, not_true_eq_false, not_false_eq_true, false_implies, St.ren, rhoQ, mapSl, renBl, Blk.map, PV.renL, PV.ren, keepG, keepX, keepL]
      · refine PB_cast (b' := false) (by rw [hmore, bne_dec]; simp) ?_
        simp only [go_sem, Nat.reduceBEq, ↓reduceIte, ↓reduceDIte, Nat.reduceAdd, Nat.reduceSub, Nat.reduceMul, Nat.reduceLeDiff, ← Bool.decide_and, ← Bool.decide_or, ← decide_not, Int.reduceLT, Int.reduceLE, Int.reduceToNat, Int.reduceNeg, by32, Int.reduceEq, not_true_eq_false, not_false_eq_true, false_implies, St.ren, rhoQ, mapSl, renBl, Blk.map, PV.renL, PV.ren, keepG, keepX, keepL]
        split at hr
        · rename_i r' hfv
          obtain ⟨n, hn, rfl⟩ := fv1 hfv
          refine .inl ⟨_, _, h_f1 r _ n hn, rfl, ?_⟩
          simp only [go_sem, Nat.reduceBEq, ↓reduceIte, ↓reduceDIte, Nat.reduceAdd, Nat.reduceSub, Nat.reduceMul, Nat.reduceLeDiff, ← Bool.decide_and, ← Bool.decide_or, ← decide_not, Int.reduceLT, Int.reduceLE, Int.reduceToNat, Int.reduceNeg, by32, Int.reduceEq, not_true_eq_false, not_false_eq_true, false_implies, St.ren, rhoQ, mapSl, renBl, Blk.map, PV.renL, PV.ren, keepG, keepX, keepL]
          intro _
          exact ⟨i64_ok (by omega) (by omega), back _ (i + 1, (r.1, n, r.2.2), (Lib.cut s [32]).2.1) (by refine ⟨?_, ?_, rfl, rfl⟩ <;> repeat' (first | exact trivial | exact Or.inl rfl | exact Or.inr rfl | (refine And.intro (Or.inl rfl) ?_) | (refine And.intro (Or.inr (Or.inl rfl)) ?_) | (refine And.intro (Or.inr (Or.inr (Or.inr ⟨rfl, rfl⟩))) ?_) | (refine And.intro (Or.inr (Or.inr (Or.inl ⟨rfl, rfl, trivial⟩))) ?_) | exact ⟨(by show (_ : Nat) < 1000000000; omega), rfl, rfl⟩ | rfl | (refine And.intro (Or.inl ?_) ?_) | (refine And.intro ?_ ?_))) ⟨by dsimp only; omega, hr, hcl⟩ (by dsimp only; omega)⟩
        · rename_i hfv
          refine .inr ⟨_, x_f1 r _ (fn1 hfv), ?_⟩
          refine ⟨rfl, ?_⟩
          simp only [go_sem, Nat.reduceBEq, ↓reduceIte, ↓reduceDIte, Nat.reduceAdd, Nat.reduceSub, Nat.reduceMul, Nat.reduceLeDiff, ← Bool.decide_and, ← Bool.decide_or, ← decide_not, Int.reduceLT, Int.reduceLE, Int.reduceToNat, Int.reduceNeg, by32, Int.reduceEq, not_true_eq_false, not_false_eq_true, false_implies, St.ren, rhoQ, mapSl, renBl, Blk.map, PV.renL, PV.ren, keepG, keepX, keepL]
      · refine PB_cast (b' := false) (by rw [hmore, bne_dec]; simp) ?_
        simp only [go_sem, Nat.reduceBEq, ↓reduceIte, ↓reduceDIte, Nat.reduceAdd, Nat.reduceSub, Nat.reduceMul, Nat.reduceLeDiff, ← Bool.decide_and, ← Bool.decide_or, ← decide_not, Int.reduceLT, Int.reduceLE, Int.reduceToNat, Int.reduceNeg, by32, Int.reduceEq, not_true_eq_false, not_false_eq_true, false_implies, St.ren, rhoQ, mapSl, renBl, Blk.map, PV.renL, PV.ren, keepG, keepX, keepL]
        split at hr
        · rename_i r' hfv
          obtain ⟨n, hn, rfl⟩ := fv2 hfv
          refine .inl ⟨_, _, h_f2 r _ n hn, rfl, ?_⟩
          simp only [go_sem, Nat.reduceBEq, ↓reduceIte, ↓reduceDIte, Nat.reduceAdd, Nat.reduceSub, Nat.reduceMul, Nat.reduceLeDiff, ← Bool.decide_and, ← Bool.decide_or, ← decide_not, Int.reduceLT, Int.reduceLE, Int.reduceToNat, Int.reduceNeg, by32, Int.reduceEq, not_true_eq_false, not_false_eq_true, false_implies, St.ren, rhoQ, mapSl, renBl, Blk.map, PV.renL, PV.ren, keepG, keepX, keepL]
          intro _
          exact ⟨i64_ok (by omega) (by omega), back _ (i + 1, (r.1, r.2.1, n, r.2.2.2), (Lib.cut s [32]).2.1) (by refine ⟨?_, ?_, rfl, rfl⟩ <;> repeat' (first | exact trivial | exact Or.inl rfl | exact Or.inr rfl | (refine And.intro (Or.inl rfl) ?_) | (refine And.intro (Or.inr (Or.inl rfl)) ?_) | (refine And.intro (Or.inr (Or.inr (Or.inr ⟨rfl, rfl⟩))) ?_) | (refine And.intro (Or.inr (Or.inr (Or.inl ⟨rfl, rfl, trivial⟩))) ?_) | exact ⟨(by show (_ : Nat) < 1000000000; omega), rfl, rfl⟩ | rfl | (refine And.intro (Or.inl ?_) ?_) | (refine And.intro ?_ ?_))) ⟨by dsimp only; omega, hr, hcl⟩ (by dsimp only; omega)⟩
        · rename_i hfv
          refine .inr ⟨_, x_f2 r _ (fn2 hfv), ?_⟩
          refine ⟨rfl, ?_⟩
          simp only [go_sem, Nat.reduceBEq, ↓reduceIte, ↓reduceDIte, Nat.reduceAdd, Nat.reduceSub, Nat.reduceMul, Nat.reduceLeDiff, ← Bool.decide_and, ← Bool.decide_or, ← decide_not, Int.reduceLT, Int.reduceLE, Int.reduceToNat, Int.reduceNeg, by32, Int.reduceEq, not_true_eq_false, not_false_eq_true, false_implies, St.ren, rhoQ, mapSl, renBl, Blk.map, PV.renL, PV.ren, keepG, keepX, keepL]
      · refine PB_cast (b' := false) (by rw [hmore, bne_dec]; simp) ?_
        simp only [go_sem, Nat.reduceBEq, ↓reduceIte, ↓reduceDIte, Nat.reduceAdd, Nat.reduceSub, Nat.reduceMul, Nat.reduceLeDiff, ← Bool.decide_and, ← Bool.decide_or, ← decide_not, Int.reduceLT, Int.reduceLE, Int.reduceToNat, Int.reduceNeg, by32, Int.reduceEq, not_true_eq_false, not_false_eq_true, false_implies, St.ren, rhoQ, mapSl, renBl, Blk.map, PV.renL, PV.ren, keepG, keepX, keepL]
        split at hr
        · rename_i r' hfv
          obtain ⟨hn, rfl⟩ := fv3 hfv
          refine .inl ⟨_, _, h_word r _ hn, rfl, ?_⟩
          simp only [go_sem, Nat.reduceBEq, ↓reduceIte, ↓reduceDIte, Nat.reduceAdd, Nat.reduceSub, Nat.reduceMul, Nat.reduceLeDiff, ← Bool.decide_and, ← Bool.decide_or, ← decide_not, Int.reduceLT, Int.reduceLE, Int.reduceToNat, Int.reduceNeg, by32, Int.reduceEq, not_true_eq_false, not_false_eq_true, false_implies, St.ren, rhoQ, mapSl, renBl, Blk.map, PV.renL, PV.ren, keepG, keepX, keepL]
          intro _
          exact ⟨i64_ok (by omega) (by omega), back _ (i + 1, (r.1, r.2.1, r.2.2.1, (Lib.cut s [32]).1, r.2.2.2.2), (Lib.cut s [32]).2.1) (by refine ⟨?_, ?_, rfl, rfl⟩ <;> repeat' (first | exact trivial | exact Or.inl rfl | exact Or.inr rfl | (refine And.intro (Or.inl rfl) ?_) | (refine And.intro (Or.inr (Or.inl rfl)) ?_) | (refine And.intro (Or.inr (Or.inr (Or.inr ⟨rfl, rfl⟩))) ?_) | (refine And.intro (Or.inr (Or.inr (Or.inl ⟨rfl, rfl, trivial⟩))) ?_) | exact ⟨(by show (_ : Nat) < 1000000000; omega), rfl, rfl⟩ | rfl | (refine And.intro (Or.inl ?_) ?_) | (refine And.intro ?_ ?_))) ⟨by dsimp only; omega, hr, hcl⟩ (by dsimp only; omega)⟩
        · rename_i hfv
          refine .inr ⟨_, x_word r _ (fn3 hfv), ?_⟩
          refine ⟨rfl, ?_⟩
          simp only [go_sem, Nat.reduceBEq, ↓reduceIte, ↓reduceDIte, Nat.reduceAdd, Nat.reduceSub, Nat.reduceMul, Nat.reduceLeDiff, ← Bool.decide_and, ← Bool.decide_or, ← decide_not, Int.reduceLT, Int.reduceLE, Int.reduceToNat, Int.reduceNeg, by32, Int.reduceEq, not_true_eq_false, not_false_eq_true, false_implies, St.ren, rhoQ, mapSl, renBl, Blk.map, PV.renL, PV.ren, keepG, keepX, keepL]
      · refine PB_cast (b' := false) (by rw [hmore, bne_dec]; simp) ?_
        simp only [go_sem, Nat.reduceBEq, ↓reduceIte, ↓reduceDIte, Nat.reduceAdd, Nat.reduceSub, Nat.reduceMul, Nat.reduceLeDiff, ← Bool.decide_and, ← Bool.decide_or, ← decide_not, Int.reduceLT, Int.reduceLE, Int.reduceToNat, Int.reduceNeg, by32, Int.reduceEq, not_true_eq_false, not_false_eq_true, false_implies, St.ren, rhoQ, mapSl, renBl, Blk.map, PV.renL, PV.ren, keepG, keepX, keepL]
        split at hr
        · rename_i r' hfv
          obtain ⟨n, hn, rfl⟩ := fv4 hfv
          refine .inl ⟨_, _, h_f4 r _ n hn, rfl, ?_⟩
          simp only [go_sem, Nat.reduceBEq, ↓reduceIte, ↓reduceDIte, Nat.reduceAdd, Nat.reduceSub, Nat.reduceMul, Nat.reduceLeDiff, ← Bool.decide_and, ← Bool.decide_or, ← decide_not, Int.reduceLT, Int.reduceLE, Int.reduceToNat, Int.reduceNeg, by32, Int.reduceEq, not_true_eq_false, not_false_eq_true, false_implies, St.ren, rhoQ, mapSl, renBl, Blk.map, PV.renL, PV.ren, keepG, keepX, keepL]
          intro _
          exact ⟨i64_ok (by omega) (by omega), back _ (i + 1, (r.1, r.2.1, r.2.2.1, r.2.2.2.1, n, r.2.2.2.2.2), (Lib.cut s [32]).2.1) (by refine ⟨?_, ?_, rfl, rfl⟩ <;> repeat' (first | exact trivial | exact Or.inl rfl | exact Or.inr rfl | (refine And.intro (Or.inl rfl) ?_) | (refine And.intro (Or.inr (Or.inl rfl)) ?_) | (refine And.intro (Or.inr (Or.inr (Or.inr ⟨rfl, rfl⟩))) ?_) | (refine And.intro (Or.inr (Or.inr (Or.inl ⟨rfl, rfl, trivial⟩))) ?_) | exact ⟨(by show (_ : Nat) < 1000000000; omega), rfl, rfl⟩ | rfl | (refine And.intro (Or.inl ?_) ?_) | (refine And.intro ?_ ?_))) ⟨by dsimp only; omega, hr, hcl⟩ (by dsimp only; omega)⟩
        · rename_i hfv
          refine .inr ⟨_, x_f4 r _ (fn4 hfv), ?_⟩
          refine ⟨rfl, ?_⟩
          simp only [go_sem, Nat.reduceBEq, ↓reduceIte, ↓reduceDIte, Nat.reduceAdd, Nat.reduceSub, Nat.reduceMul, Nat.reduceLeDiff, ← Bool.decide_and, ← Bool.decide_or, ← decide_not, Int.reduceLT, Int.reduceLE, Int.reduceToNat, Int.reduceNeg, by32, Int.reduceEq, not_true_eq_false, not_false_eq_true, false_implies, St.ren, rhoQ, mapSl, renBl, Blk.map, PV.renL, PV.ren, keepG, keepX, keepL]
      · refine PB_cast (b' := false) (by rw [hmore, bne_dec]; simp) ?_
        simp only [go_sem, Nat.reduceBEq, ↓reduceIte, ↓reduceDIte, Nat.reduceAdd, Nat.reduceSub, Nat.reduceMul, Nat.reduceLeDiff, ← Bool.decide_and, ← Bool.decide_or, ← decide_not, Int.reduceLT, Int.reduceLE, Int.reduceToNat, Int.reduceNeg, by32, Int.reduceEq, not_true_eq_false, not_false_eq_true, false_implies, St.ren, rhoQ, mapSl, renBl, Blk.map, PV.renL, PV.ren, keepG, keepX, keepL]
        split at hr
        · rename_i r' hfv
          obtain ⟨n, hn, rfl⟩ := fv5 hfv
          refine .inl ⟨_, _, h_f5 r _ n hn, rfl, ?_⟩
          simp only [go_sem, Nat.reduceBEq, ↓reduceIte, ↓reduceDIte, Nat.reduceAdd, Nat.reduceSub, Nat.reduceMul, Nat.reduceLeDiff, ← Bool.decide_and, ← Bool.decide_or, ← decide_not, Int.reduceLT, Int.reduceLE, Int.reduceToNat, Int.reduceNeg, by32, Int.reduceEq, not_true_eq_false, not_false_eq_true, false_implies, St.ren, rhoQ, mapSl, renBl, Blk.map, PV.renL, PV.ren, keepG, keepX, keepL]
          intro _
          exact ⟨i64_ok (by omega) (by omega), back _ (i + 1, (r.1, r.2.1, r.2.2.1, r.2.2.2.1, r.2.2.2.2.1, n), (Lib.cut s [32]).2.1) (by refine ⟨?_, ?_, rfl, rfl⟩ <;> repeat' (first | exact trivial | exact Or.inl rfl | exact Or.inr rfl | (refine And.intro (Or.inl rfl) ?_) | (refine And.intro (Or.inr (Or.inl rfl)) ?_) | (refine And.intro (Or.inr (Or.inr (Or.inr ⟨rfl, rfl⟩))) ?_) | (refine And.intro (Or.inr (Or.inr (Or.inl ⟨rfl, rfl, trivial⟩))) ?_) | exact ⟨(by show (_ : Nat) < 1000000000; omega), rfl, rfl⟩ | rfl | (refine And.intro (Or.inl ?_) ?_) | (refine And.intro ?_ ?_))) ⟨by dsimp only; omega, hr, hcl⟩ (by dsimp only; omega)⟩
        · rename_i hfv
          refine .inr ⟨_, x_f5 r _ (fn5 hfv), ?_⟩
          refine ⟨rfl, ?_⟩
          simp only [go_sem, Nat.reduceBEq, ↓reduceIte, ↓reduceDIte, Nat.reduceAdd, Nat.reduceSub, Nat.reduceMul, Nat.reduceLeDiff, ← Bool.decide_and, ← Bool.decide_or, ← decide_not, Int.reduceLT, Int.reduceLE, Int.reduceToNat, Int.reduceNeg, by32, Int.reduceEq, not_true_eq_false, not_false_eq_true, false_implies, St.ren, rhoQ, mapSl, renBl, Blk.map, PV.renL, PV.ren, keepG, keepX, keepL]
    · rename_i hmore
      refine PB_cast (b' := true) (by rw [bne_dec]; simpa using hmore) ?_
      simp only [go_sem, Nat.reduceBEq, ↓reduceIte, ↓reduceDIte, Nat.reduceAdd, Nat.reduceSub, Nat.reduceMul, Nat.reduceLeDiff, ← Bool.decide_and, ← Bool.decide_or, ← decide_not, Int.reduceLT, Int.reduceLE, Int.reduceToNat, Int.reduceNeg, by32, Int.reduceEq, not_true_eq_false, not_false_eq_true, false_implies, St.ren, rhoQ, mapSl, renBl, Blk.map, PV.renL, PV.ren, keepG, keepX, keepL]
  · rw [List.drop_of_length_le (by omega), readV] at hr
    cases hr
theorem PC.of_HCd {E : Env} {f : Nat} {xs : List (Sigma Ty.den)} {T : Ty} {r : T.den} (h : HC E f (ivs xs) [] (.iv T r) []) : PC E f xs T r := by
  intro w S vs hS hT hrep
  have hft : ∀ (ν : Nat → Value) (g : Nat), ¬ foot ν [] g := by rintro ν g ⟨i, b, hb, _⟩; cases hb
  refine (h w S (fun _ => undef) vs hS hT (fun g hg => (hft _ g hg).elim) (fun i b hb => by cases hb) ⟨hS, fun b hb => .inl hb, fun i b hb => (by cases hb), fun i j b c _ hi => (by cases hi)⟩ (ivs_rel (w := w) (M := ⟨S, fun g => w.heap.size ≤ g⟩) rfl (fun _ h => h) hrep)).mono ?_
  rintro e w' ⟨v, rfl, hk, ν, S', h1, h2, h3, hW, hp⟩
  have hnew : ∀ g, own0 w ⟨S, foot (fun _ => undef) [], fun _ => undef, []⟩ g → w.heap.size ≤ g := fun g hg => by
    rcases hg with hg | hg
    · exact hg
    · exact (hft _ g hg).elim
  simp only [PRel] at hp
  refine ⟨v, rfl, ⟨⟨hk.os, hk.tape, hk.output, hk.size, fun k hk' => hk.block k hk' (hft _ k)⟩, hk.drawn⟩, S', h1, fun b hb => ?_, hW.lt, RepR_mono (M := ⟨S', own0 w ⟨S, foot (fun _ => undef) [], fun _ => undef, []⟩⟩) (M' := ⟨S', fun g => w.heap.size ≤ g⟩) (fun _ _ => rfl) (fun _ h => h) hp.1 hp.2⟩
  rcases h2 b hb with h' | h'
  · exact .inl h'
  · exact .inr (hnew b h')
theorem c_read (fs : List Nat) (hfs : ∀ f, f ∈ fs → knownF f) (s : Str) (hs : s.length ≤ 1000000000) : PC env 43 [⟨.str, s⟩, ⟨.sl .fnv, fs⟩] (.tup RecordT .bool) (readE fs s) := by
  unfold readE
  cases h : readV fs zR s with
  | some r => exact PC.of_HCd (h_read fs hfs s hs r h)
  | none => exact PC.of_HCd (x_read fs hfs s hs h)
end Go.Proofs.YtmjnkaabooockaaGreatDoor
namespace Go.Proofs.YtmjnkaabooockaaGreatDoor
open Go.Lib
set_option maxHeartbeats 4000000
set_option maxRecDepth 100000
def lineE (r : Rec) : Str := joinC 32 [itoa r.1, itoa r.2.1, itoa r.2.2.1, r.2.2.2.1, itoa r.2.2.2.2.1, itoa r.2.2.2.2.2]
theorem right_nums {r : Rec} (h : rightR r = true) : (0 ≤ r.1 ∧ r.1 ≤ 7) ∧ (1 ≤ r.2.1 ∧ r.2.1 ≤ 1000000) ∧ (0 ≤ r.2.2.1 ∧ r.2.2.1 ≤ 10000) ∧ wordB r.2.2.2.1 = true ∧ (0 ≤ r.2.2.2.2.1 ∧ r.2.2.2.2.1 ≤ 7) ∧ (1 ≤ r.2.2.2.2.2 ∧ r.2.2.2.2.2 ≤ 1000) := by
  simp only [rightR, Bool.and_eq_true, decide_eq_true_eq] at h
  exact ⟨h.1.1, h.1.2.1, h.1.2.2, h.2.1, h.2.2.1, h.2.2.2⟩
theorem itoa_len7 {n : Int} (h0 : 0 ≤ n) (h1 : n ≤ 1000000) : (itoa n).length ≤ 7 := by
  rw [itoa_dec h0]
  exact dec_len 6 _ (by omega)
theorem line_len {r : Rec} (h : rightR r = true) : (lineE r).length ≤ 60 := by
  obtain ⟨h1, h2, h3, h4, h5, h6⟩ := right_nums h
  have a1 := itoa_len7 (n := r.1) (by omega) (by omega)
  have a2 := itoa_len7 (n := r.2.1) (by omega) (by omega)
  have a3 := itoa_len7 (n := r.2.2.1) (by omega) (by omega)
  have a5 := itoa_len7 (n := r.2.2.2.2.1) (by omega) (by omega)
  have a6 := itoa_len7 (n := r.2.2.2.2.2) (by omega) (by omega)
  have a4 : r.2.2.2.1.length ≤ 20 := by simp only [wordB, Bool.and_eq_true, decide_eq_true_eq] at h4; omega
  simp only [lineE, joinC, List.length_append, List.length_cons]
  omega
theorem c_Line (r : Rec) (h : rightR r = true) : PC env 19 [⟨RecordT, r⟩] .str (lineE r) := by
  refine PC.of_PW (m := 2000) env_ok fn_19 rfl rfl rfl rfl (by kernel_rfl) ?_; intro hx; simp only [Tryz.f19]; simp only [go_sem, Nat.reduceBEq, ↓reduceIte, ↓reduceDIte, Nat.reduceAdd, Nat.reduceSub, Nat.reduceMul, Nat.reduceLeDiff, ← Bool.decide_and, ← Bool.decide_or, ← decide_not, Int.reduceLT, Int.reduceLE, Int.reduceToNat, Int.reduceNeg, by32, litP, appendC, Int.reduceEq, not_true_eq_false, not_false_eq_true, false_implies, List.append_assoc]
  have hl := line_len h
  have kj := c_Join [itoa r.1, itoa r.2.1, itoa r.2.2.1, r.2.2.2.1, itoa r.2.2.2.2.1, itoa r.2.2.2.2.2] [32] (by simp) (by rw [join_joinC]; exact Nat.le_trans hl (by decide))
  rw [join_joinC] at kj
  exact ⟨_, c_Itoa _, fun _ => ⟨_, c_Itoa _, fun _ => ⟨_, c_Itoa _, fun _ => ⟨_, c_Itoa _, fun _ => ⟨_, c_Itoa _, fun _ => ⟨_, kj, fun _ => rfl⟩⟩⟩⟩⟩⟩
theorem c_Line2 (r : Rec) (h : rightR r = true) : PC env 21 [⟨RecordT, r⟩] .str (lineE r) := by
  refine PC.of_PW (m := 2000) env_ok fn_21 rfl rfl rfl rfl (by kernel_rfl) ?_; intro hx; simp only [Tryz.f21]; simp only [go_sem, Nat.reduceBEq, ↓reduceIte, ↓reduceDIte, Nat.reduceAdd, Nat.reduceSub, Nat.reduceMul, Nat.reduceLeDiff, ← Bool.decide_and, ← Bool.decide_or, ← decide_not, Int.reduceLT, Int.reduceLE, Int.reduceToNat, Int.reduceNeg, by32, litP, appendC, Int.reduceEq, not_true_eq_false, not_false_eq_true, false_implies, List.append_assoc]
  obtain ⟨h1, h2, h3, h4, h5, h6⟩ := right_nums h
  have a1 := itoa_len7 (n := r.1) (by omega) (by omega)
  have a2 := itoa_len7 (n := r.2.1) (by omega) (by omega)
  have a3 := itoa_len7 (n := r.2.2.1) (by omega) (by omega)
  have a5 := itoa_len7 (n := r.2.2.2.2.1) (by omega) (by omega)
  have a6 := itoa_len7 (n := r.2.2.2.2.2) (by omega) (by omega)
  have a4 : r.2.2.2.1.length ≤ 20 := by simp only [wordB, Bool.and_eq_true, decide_eq_true_eq] at h4; omega
  have k1 := c_Decimal (n := r.1) (by omega) (by omega)
  have k2 := c_Decimal (n := r.2.1) (by omega) (by omega)
  have k3 := c_Decimal (n := r.2.2.1) (by omega) (by omega)
  have k5 := c_Decimal (n := r.2.2.2.2.1) (by omega) (by omega)
  have k6 := c_Decimal (n := r.2.2.2.2.2) (by omega) (by omega)
  refine ⟨_, k1, fun _ => ⟨by omega, _, k2, fun _ => ?_⟩⟩
  simp only [List.length_append, List.length_cons, List.length_nil]
  refine ⟨by omega, by omega, _, k3, fun _ => ⟨by omega, by omega, by omega, by omega, _, k5, fun _ => ⟨by omega, by omega, _, k6, fun _ => ⟨by omega, ?_⟩⟩⟩⟩
  simp [lineE, joinC]
theorem c_recordFields : PC env 42 [] (.st (.pair .fnv (.pair .fnv (.pair .fnv (.pair .fnv (.pair .fnv .fnv)))))) (65, 67, 68, 69, 70, 71) := by
  refine PC.of_PW (m := 2000) env_ok fn_42 rfl rfl rfl rfl (by kernel_rfl) ?_; intro hx; simp only [Tryz.f42]; simp only [go_sem, Nat.reduceBEq, ↓reduceIte, ↓reduceDIte, Nat.reduceAdd, Nat.reduceSub, Nat.reduceMul, Nat.reduceLeDiff, ← Bool.decide_and, ← Bool.decide_or, ← decide_not, Int.reduceLT, Int.reduceLE, Int.reduceToNat, Int.reduceNeg, by32, litP, appendC, Int.reduceEq, not_true_eq_false, not_false_eq_true, false_implies, List.append_assoc]
theorem c_listFields : PC env 80 [] (.st (.pair .fnv .fnv)) (69, 71) := by
  refine PC.of_PW (m := 2000) env_ok fn_80 rfl rfl rfl rfl (by kernel_rfl) ?_; intro hx; simp only [Tryz.f80]; simp only [go_sem, Nat.reduceBEq, ↓reduceIte, ↓reduceDIte, Nat.reduceAdd, Nat.reduceSub, Nat.reduceMul, Nat.reduceLeDiff, ← Bool.decide_and, ← Bool.decide_or, ← decide_not, Int.reduceLT, Int.reduceLE, Int.reduceToNat, Int.reduceNeg, by32, litP, appendC, Int.reduceEq, not_true_eq_false, not_false_eq_true, false_implies, List.append_assoc]
def recFs : List Nat := [65, 67, 68, 69, 70, 71]
def listFs : List Nat := [69, 71]
theorem known_rec : ∀ f, f ∈ recFs → knownF f := by
  intro f hf
  simp only [recFs, List.mem_cons, List.not_mem_nil, or_false] at hf
  simp only [knownF]
  rcases hf with h | h | h | h | h | h <;> simp [h]
theorem known_list : ∀ f, f ∈ listFs → knownF f := by
  intro f hf
  simp only [listFs, List.mem_cons, List.not_mem_nil, or_false] at hf
  simp only [knownF]
  rcases hf with h | h <;> simp [h]
def parseE (s : Str) : Rec × Int := match readV recFs zR s with | some r => (r, 0) | none => (zR, 3)
theorem c_Parse (s : Str) (hs : s.length ≤ 1000000000) : PC env 20 [⟨.str, s⟩] (.tup RecordT (.int .i64)) (parseE s) := by
  refine PC.of_PW (m := 2000) env_ok fn_20 rfl rfl rfl rfl (by kernel_rfl) ?_; intro hx; simp only [Tryz.f20]; simp only [go_sem, Nat.reduceBEq, ↓reduceIte, ↓reduceDIte, Nat.reduceAdd, Nat.reduceSub, Nat.reduceMul, Nat.reduceLeDiff, ← Bool.decide_and, ← Bool.decide_or, ← decide_not, Int.reduceLT, Int.reduceLE, Int.reduceToNat, Int.reduceNeg, by32, litP, appendC, Int.reduceEq, not_true_eq_false, not_false_eq_true, false_implies, List.append_assoc]
  refine ⟨_, c_recordFields, ?_⟩
  simp only [go_sem, Nat.reduceBEq, ↓reduceIte, ↓reduceDIte, Nat.reduceAdd, Nat.reduceSub, Nat.reduceMul, Nat.reduceLeDiff, ← Bool.decide_and, ← Bool.decide_or, ← decide_not, Int.reduceLT, Int.reduceLE, Int.reduceToNat, Int.reduceNeg, by32, litP, appendC, Int.reduceEq, not_true_eq_false, not_false_eq_true, false_implies, List.append_assoc]
  refine Walks.sealw [4] ?_
  simp only [go_sem, Nat.reduceBEq, ↓reduceIte, ↓reduceDIte, Nat.reduceAdd, Nat.reduceSub, Nat.reduceMul, Nat.reduceLeDiff, ← Bool.decide_and, ← Bool.decide_or, ← decide_not, Int.reduceLT, Int.reduceLE, Int.reduceToNat, Int.reduceNeg, by32, litP, appendC, Int.reduceEq, not_true_eq_false, not_false_eq_true, false_implies, List.append_assoc]
  refine PW_go env_ok ⟨_, fn_20, rfl⟩ 2000 _ _ (by kernel_rfl) ?_; simp only [go_sem, Nat.reduceBEq, ↓reduceIte, ↓reduceDIte, Nat.reduceAdd, Nat.reduceSub, Nat.reduceMul, Nat.reduceLeDiff, ← Bool.decide_and, ← Bool.decide_or, ← decide_not, Int.reduceLT, Int.reduceLE, Int.reduceToNat, Int.reduceNeg, by32, litP, appendC, Int.reduceEq, not_true_eq_false, not_false_eq_true, false_implies, List.append_assoc]
  have k := c_read recFs known_rec s hs
  unfold readE at k
  unfold parseE
  cases h : readV recFs zR s
  · rw [h] at k
    refine ⟨_, k, fun _ => ?_⟩
    simp only [go_sem, Nat.reduceBEq, ↓reduceIte, ↓reduceDIte, Nat.reduceAdd, Nat.reduceSub, Nat.reduceMul, Nat.reduceLeDiff, ← Bool.decide_and, ← Bool.decide_or, ← decide_not, Int.reduceLT, Int.reduceLE, Int.reduceToNat, Int.reduceNeg, by32, litP, appendC, Int.reduceEq, not_true_eq_false, not_false_eq_true, false_implies, List.append_assoc]
    try rfl
  · rw [h] at k
    refine ⟨_, k, fun _ => ?_⟩
    simp only [go_sem, Nat.reduceBEq, ↓reduceIte, ↓reduceDIte, Nat.reduceAdd, Nat.reduceSub, Nat.reduceMul, Nat.reduceLeDiff, ← Bool.decide_and, ← Bool.decide_or, ← decide_not, Int.reduceLT, Int.reduceLE, Int.reduceToNat, Int.reduceNeg, by32, litP, appendC, Int.reduceEq, not_true_eq_false, not_false_eq_true, false_implies, List.append_assoc]
    try rfl
end Go.Proofs.YtmjnkaabooockaaGreatDoor
namespace Go.Proofs.YtmjnkaabooockaaGreatDoor
open Go.Lib
set_option maxHeartbeats 4000000
set_option maxRecDepth 100000
theorem by10 : bytesOf ⟨#[10]⟩ = ([10] : Str) := rfl
def lineV (s : Str) : Option Rec := match readV recFs zR s with | some r => some r | none => readV listFs zR s
def linesN : Nat → Str → List Rec → List Rec × Int
  | 0, _, l => (l, -1)
  | n + 1, s, l => if s = [] then (l, -1) else if (Lib.cut s [10]).2.2 = false then ([], (l.length : Int)) else (match lineV (Lib.cut s [10]).1 with
    | none => ([], (l.length : Int)) | some r => linesN n (Lib.cut s [10]).2.1 (l ++ [r]))
def linesE (s : Str) : List Rec × Int := linesN (s.length + 1) s []
theorem cut_less {s : Str} (h : (Lib.cut s [10]).2.2 = true) : (Lib.cut s [10]).2.1.length < s.length ∧ (Lib.cut s [10]).1.length ≤ s.length := by
  rcases first_c 10 s with h' | ⟨x, r, rfl, h'⟩
  · rw [cut_no h'] at h; cases h
  · rw [cut_yes h']; simp; omega
theorem c_lines (s : Str) (hs : s.length ≤ 1000000000) : PC env 59 [⟨.str, s⟩] (.tup (.sl RecordT) (.int .i64)) (linesE s) := by
  refine PC.of_PW (m := 2000) env_ok fn_59 rfl rfl rfl rfl (by kernel_rfl) ?_; intro hx; simp only [Tryz.f59]; simp only [go_sem, Nat.reduceBEq, ↓reduceIte, ↓reduceDIte, Nat.reduceAdd, Nat.reduceSub, Nat.reduceMul, Nat.reduceLeDiff, ← Bool.decide_and, ← Bool.decide_or, ← decide_not, Int.reduceLT, Int.reduceLE, Int.reduceToNat, Int.reduceNeg, by_nil, by32, by10, litP, appendC, Int.reduceEq, not_true_eq_false, not_false_eq_true, false_implies, List.append_assoc]
  refine ⟨_, c_recordFields, _, c_listFields, ?_⟩
  simp only [go_sem, Nat.reduceBEq, ↓reduceIte, ↓reduceDIte, Nat.reduceAdd, Nat.reduceSub, Nat.reduceMul, Nat.reduceLeDiff, ← Bool.decide_and, ← Bool.decide_or, ← decide_not, Int.reduceLT, Int.reduceLE, Int.reduceToNat, Int.reduceNeg, by_nil, by32, by10, litP, appendC, Int.reduceEq, not_true_eq_false, not_false_eq_true, false_implies, List.append_assoc]
  refine Walks.sealw [4, 5] ?_
  simp only [go_sem, Nat.reduceBEq, ↓reduceIte, ↓reduceDIte, Nat.reduceAdd, Nat.reduceSub, Nat.reduceMul, Nat.reduceLeDiff, ← Bool.decide_and, ← Bool.decide_or, ← decide_not, Int.reduceLT, Int.reduceLE, Int.reduceToNat, Int.reduceNeg, by_nil, by32, by10, litP, appendC, Int.reduceEq, not_true_eq_false, not_false_eq_true, false_implies, List.append_assoc]
  refine PW_go env_ok ⟨_, fn_59, rfl⟩ 2000 _ _ (by kernel_rfl) ?_; simp only [go_sem, Nat.reduceBEq, ↓reduceIte, ↓reduceDIte, Nat.reduceAdd, Nat.reduceSub, Nat.reduceMul, Nat.reduceLeDiff, ← Bool.decide_and, ← Bool.decide_or, ← decide_not, Int.reduceLT, Int.reduceLE, Int.reduceToNat, Int.reduceNeg, by_nil, by32, by10, litP, appendC, Int.reduceEq, not_true_eq_false, not_false_eq_true, false_implies, List.append_assoc]
  refine Walks.loopA (X := Nat × Str × List Rec) (fun (z : Nat × Str × List Rec) => [(0, .iv .str z.2.1), (6, .lfull 47)]) (fun (z : Nat × Str × List Rec) => [(47, .arr RecordT z.2.2)]) (fun (z : Nat × Str × List Rec) => z.2.1.length < z.1 ∧ z.2.1.length + z.2.2.length ≤ 1000000000 ∧ linesN z.1 z.2.1 z.2.2 = linesE s) (fun (z : Nat × Str × List Rec) => z.1) (s.length + 1, s, []) ?_; intro b1 b2 hb1 hb2; simp (config := {maxSteps := 4000000}) only [go_sem, Nat.reduceBEq, ↓reduceIte, ↓reduceDIte, Nat.reduceAdd, Nat.reduceSub, Nat.reduceMul, Nat.reduceLeDiff, ← Bool.decide_and, ← Bool.decide_or, ← decide_not, Int.reduceLT, Int.reduceLE, Int.reduceToNat, Int.reduceNeg, by_nil, by32, by10, litP, appendC, Int.reduceEq, not_true_eq_false, not_false_eq_true, false_implies, List.append_assoc] at hb1 hb2; subst hb1; subst hb2; refine ⟨(by refine ⟨?_, ?_, rfl, rfl⟩ <;> repeat' (first | exact trivial | exact Or.inl rfl | exact Or.inr rfl | (refine And.intro (Or.inl rfl) ?_) | (refine And.intro (Or.inr (Or.inl rfl)) ?_) | (refine And.intro (Or.inr (Or.inr (Or.inr ⟨rfl, rfl⟩))) ?_) | (refine And.intro (Or.inr (Or.inr (Or.inl ⟨rfl, rfl, trivial⟩))) ?_) | exact ⟨(by show (_ : Nat) < 1000000000; omega), rfl, rfl⟩ | rfl | (refine And.intro (Or.inl ?_) ?_) | (refine And.intro ?_ ?_))), ?_, ?_⟩
  · exact ⟨Nat.lt_succ_self _, hs, rfl⟩
  intro ⟨n, t, l⟩ ⟨h1, h2, h3⟩ back
  dsimp only at h1 h2 h3
  obtain ⟨m, rfl⟩ : ∃ m, n = m + 1 := ⟨n - 1, by omega⟩
  rw [linesN] at h3
  refine PW_sound env_ok ⟨_, fn_59, rfl⟩ 2000 _ _ (by kernel_rfl) ?_; simp only [go_sem, Nat.reduceBEq, ↓reduceIte, ↓reduceDIte, Nat.reduceAdd, Nat.reduceSub, Nat.reduceMul, Nat.reduceLeDiff, ← Bool.decide_and, ← Bool.decide_or, ← decide_not, Int.reduceLT, Int.reduceLE, Int.reduceToNat, Int.reduceNeg, by_nil, by32, by10, litP, appendC, Int.reduceEq, not_true_eq_false, not_false_eq_true, false_implies, List.append_assoc]
  refine ⟨fun g => ?_, fun g => ?_⟩
  · rw [if_neg g] at h3
    refine ⟨_, c_Cut t [10] (by omega), fun _ => ?_⟩
    cases hc : (Lib.cut t [10]).2.2
    · rw [if_pos hc] at h3
      simp only [go_sem, Nat.reduceBEq, ↓reduceIte, ↓reduceDIte, Nat.reduceAdd, Nat.reduceSub, Nat.reduceMul, Nat.reduceLeDiff, ← Bool.decide_and, ← Bool.decide_or, ← decide_not, Int.reduceLT, Int.reduceLE, Int.reduceToNat, Int.reduceNeg, by_nil, by32, by10, litP, appendC, Int.reduceEq, not_true_eq_false, not_false_eq_true, false_implies, List.append_assoc]
      exact h3
    · rw [if_neg (by rw [hc]; decide)] at h3
      obtain ⟨k1, k2⟩ := cut_less hc
      simp only [go_sem, Nat.reduceBEq, ↓reduceIte, ↓reduceDIte, Nat.reduceAdd, Nat.reduceSub, Nat.reduceMul, Nat.reduceLeDiff, ← Bool.decide_and, ← Bool.decide_or, ← decide_not, Int.reduceLT, Int.reduceLE, Int.reduceToNat, Int.reduceNeg, by_nil, by32, by10, litP, appendC, Int.reduceEq, not_true_eq_false, not_false_eq_true, false_implies, List.append_assoc]
      have r1 := c_read recFs known_rec (Lib.cut t [10]).1 (by omega)
      have r2 := c_read listFs known_list (Lib.cut t [10]).1 (by omega)
      unfold readE at r1 r2
      unfold lineV at h3
      cases ha : readV recFs zR (Lib.cut t [10]).1
      · rw [ha] at r1 h3
        dsimp only at h3
        refine ⟨_, r1, fun _ => ?_⟩
        simp only [go_sem, Nat.reduceBEq, ↓reduceIte, ↓reduceDIte, Nat.reduceAdd, Nat.reduceSub, Nat.reduceMul, Nat.reduceLeDiff, ← Bool.decide_and, ← Bool.decide_or, ← decide_not, Int.reduceLT, Int.reduceLE, Int.reduceToNat, Int.reduceNeg, by_nil, by32, by10, litP, appendC, Int.reduceEq, not_true_eq_false, not_false_eq_true, false_implies, List.append_assoc]
        cases hb : readV listFs zR (Lib.cut t [10]).1
        · rw [hb] at r2 h3
          refine ⟨_, r2, fun _ => ?_⟩
          simp only [go_sem, Nat.reduceBEq, ↓reduceIte, ↓reduceDIte, Nat.reduceAdd, Nat.reduceSub, Nat.reduceMul, Nat.reduceLeDiff, ← Bool.decide_and, ← Bool.decide_or, ← decide_not, Int.reduceLT, Int.reduceLE, Int.reduceToNat, Int.reduceNeg, by_nil, by32, by10, litP, appendC, Int.reduceEq, not_true_eq_false, not_false_eq_true, false_implies, List.append_assoc]
          exact h3
        · rename_i q
          rw [hb] at r2 h3
          refine ⟨_, r2, fun _ => ?_⟩
          simp only [go_sem, Nat.reduceBEq, ↓reduceIte, ↓reduceDIte, Nat.reduceAdd, Nat.reduceSub, Nat.reduceMul, Nat.reduceLeDiff, ← Bool.decide_and, ← Bool.decide_or, ← decide_not, Int.reduceLT, Int.reduceLE, Int.reduceToNat, Int.reduceNeg, by_nil, by32, by10, litP, appendC, Int.reduceEq, not_true_eq_false, not_false_eq_true, false_implies, List.append_assoc]
          exact ⟨by omega, back _ (m, (Lib.cut t [10]).2.1, l ++ [q]) (by refine ⟨?_, ?_, rfl, rfl⟩ <;> repeat' (first | exact trivial | exact Or.inl rfl | exact Or.inr rfl | (refine And.intro (Or.inl rfl) ?_) | (refine And.intro (Or.inr (Or.inl rfl)) ?_) | (refine And.intro (Or.inr (Or.inr (Or.inr ⟨rfl, rfl⟩))) ?_) | (refine And.intro (Or.inr (Or.inr (Or.inl ⟨rfl, rfl, trivial⟩))) ?_) | exact ⟨(by show (_ : Nat) < 1000000000; omega), rfl, rfl⟩ | rfl | (refine And.intro (Or.inl ?_) ?_) | (refine And.intro ?_ ?_))) ⟨by dsimp only; omega, by simp only [List.length_append, List.length_cons, List.length_nil]; omega, h3⟩ (by dsimp only; omega)⟩
      · rename_i q
        rw [ha] at r1 h3
        refine ⟨_, r1, fun _ => ?_⟩
        simp only [go_sem, Nat.reduceBEq, ↓reduceIte, ↓reduceDIte, Nat.reduceAdd, Nat.reduceSub, Nat.reduceMul, Nat.reduceLeDiff, ← Bool.decide_and, ← Bool.decide_or, ← decide_not, Int.reduceLT, Int.reduceLE, Int.reduceToNat, Int.reduceNeg, by_nil, by32, by10, litP, appendC, Int.reduceEq, not_true_eq_false, not_false_eq_true, false_implies, List.append_assoc]
        exact ⟨by omega, back _ (m, (Lib.cut t [10]).2.1, l ++ [q]) (by refine ⟨?_, ?_, rfl, rfl⟩ <;> repeat' (first | exact trivial | exact Or.inl rfl | exact Or.inr rfl | (refine And.intro (Or.inl rfl) ?_) | (refine And.intro (Or.inr (Or.inl rfl)) ?_) | (refine And.intro (Or.inr (Or.inr (Or.inr ⟨rfl, rfl⟩))) ?_) | (refine And.intro (Or.inr (Or.inr (Or.inl ⟨rfl, rfl, trivial⟩))) ?_) | exact ⟨(by show (_ : Nat) < 1000000000; omega), rfl, rfl⟩ | rfl | (refine And.intro (Or.inl ?_) ?_) | (refine And.intro ?_ ?_))) ⟨by dsimp only; omega, by simp only [List.length_append, List.length_cons, List.length_nil]; omega, h3⟩ (by dsimp only; omega)⟩
  · have g' : t = [] := by simpa using g
    rw [if_pos g'] at h3
    exact h3
end Go.Proofs.YtmjnkaabooockaaGreatDoor
namespace Go.Proofs.YtmjnkaabooockaaGreatDoor
open Go.Lib
set_option maxHeartbeats 4000000
set_option maxRecDepth 100000
theorem means_S (o : Ord') (r : Rec) : (decide (r.2.2.1 ≤ o.2.2.1) && rightR r && rightO o && meantB o r) = meansS o r := by
  unfold meansS meantB
  cases decide (r.2.2.1 ≤ o.2.2.1) <;> cases rightR r <;> cases rightO o <;> simp
theorem h_res1 (o : Ord') (r : Rec) : HC env 86 [.iv OrderT o, .ref 1000000000 0] [(1000000000, .box [.iv (.int .i64) r.1, .iv (.int .i64) r.2.1, .iv (.int .i64) r.2.2.1, .iv .str r.2.2.2.1, .iv (.int .i64) r.2.2.2.2.1, .iv (.int .i64) r.2.2.2.2.2])] (.iv .bool (meansS o r)) [(1000000000, .box [.iv (.int .i64) r.1, .iv (.int .i64) r.2.1, .iv (.int .i64) r.2.2.1, .iv .str r.2.2.2.1, .iv (.int .i64) r.2.2.2.2.1, .iv (.int .i64) r.2.2.2.2.2])] := by
  refine HC.of_PW (m := 2000) env_ok fn_86 rfl rfl rfl rfl (by kernel_rfl) ?_; intro hx hbl; simp only [Tryz.f86]; simp only [go_sem, Nat.reduceBEq, ↓reduceIte, ↓reduceDIte, Nat.reduceAdd, Nat.reduceSub, Nat.reduceMul, Nat.reduceLeDiff, ← Bool.decide_and, ← Bool.decide_or, ← decide_not, Int.reduceLT, Int.reduceLE, Int.reduceToNat, Int.reduceNeg, litP, appendC, Int.reduceEq, not_true_eq_false, not_false_eq_true, false_implies]
  have k := c_Means o r
  rw [means_S] at k
  exact ⟨_, k, rfl⟩
def samePl (o : Ord') (r : Rec) : Bool := decide (o.1 = r.1 ∧ o.2.1 = r.2.1)
theorem h_res3 (o : Ord') (r : Rec) : HC env 90 [.iv OrderT o, .ref 1000000000 0] [(1000000000, .box [.iv (.int .i64) r.1, .iv (.int .i64) r.2.1, .iv (.int .i64) r.2.2.1, .iv .str r.2.2.2.1, .iv (.int .i64) r.2.2.2.2.1, .iv (.int .i64) r.2.2.2.2.2])] (.iv .bool (samePl o r)) [(1000000000, .box [.iv (.int .i64) r.1, .iv (.int .i64) r.2.1, .iv (.int .i64) r.2.2.1, .iv .str r.2.2.2.1, .iv (.int .i64) r.2.2.2.2.1, .iv (.int .i64) r.2.2.2.2.2])] := by
  refine HC.of_PW (m := 2000) env_ok fn_90 rfl rfl rfl rfl (by kernel_rfl) ?_; intro hx hbl; simp only [Tryz.f90]; simp only [go_sem, Nat.reduceBEq, ↓reduceIte, ↓reduceDIte, Nat.reduceAdd, Nat.reduceSub, Nat.reduceMul, Nat.reduceLeDiff, ← Bool.decide_and, ← Bool.decide_or, ← decide_not, Int.reduceLT, Int.reduceLE, Int.reduceToNat, Int.reduceNeg, litP, appendC, Int.reduceEq, not_true_eq_false, not_false_eq_true, false_implies]
  unfold samePl
  repeat' (first | (with_reducible intro _) | (with_reducible apply And.intro) | fail)
  all_goals (simp_all)

theorem h_IndexA (l : List Ord') (r : Rec) : HC env 122 [.iv (.sl OrderT) l, .fn 86 [.ref 1000000000 0]] [(1000000000, .box [.iv (.int .i64) r.1, .iv (.int .i64) r.2.1, .iv (.int .i64) r.2.2.1, .iv .str r.2.2.2.1, .iv (.int .i64) r.2.2.2.2.1, .iv (.int .i64) r.2.2.2.2.2])] (.iv (.int .i64) (idxL (fun o => meansS o r) l)) [(1000000000, .box [.iv (.int .i64) r.1, .iv (.int .i64) r.2.1, .iv (.int .i64) r.2.2.1, .iv .str r.2.2.2.1, .iv (.int .i64) r.2.2.2.2.1, .iv (.int .i64) r.2.2.2.2.2])] := by
  refine HC.of_PW (m := 2000) env_ok fn_122 rfl rfl rfl rfl (by kernel_rfl) ?_; intro hx hbl; simp only [Tryz.f122]; simp only [go_sem, Nat.reduceBEq, ↓reduceIte, ↓reduceDIte, Nat.reduceAdd, Nat.reduceSub, Nat.reduceMul, Nat.reduceLeDiff, ← Bool.decide_and, ← Bool.decide_or, ← decide_not, Int.reduceLT, Int.reduceLE, Int.reduceToNat, Int.reduceNeg, litP, appendC, Int.reduceEq, not_true_eq_false, not_false_eq_true, false_implies]
  have hlen : l.length ≤ 9223372036854775807 := hx.1.1
  refine Walks.loopA (X := Nat) (fun (i : Nat) => [(8, .iv (.int .i64) (i : Int)), (5, .any), (4, .any)]) (fun (i : Nat) => []) (fun (i : Nat) => i ≤ l.length ∧ (l.take i).any (fun o => meansS o r) = false) (fun (i : Nat) => l.length - i) 0 ?_; intro b1 b2 hb1 hb2; simp (config := {maxSteps := 4000000}) only [go_sem, Nat.reduceBEq, ↓reduceIte, ↓reduceDIte, Nat.reduceAdd, Nat.reduceSub, Nat.reduceMul, Nat.reduceLeDiff, ← Bool.decide_and, ← Bool.decide_or, ← decide_not, Int.reduceLT, Int.reduceLE, Int.reduceToNat, Int.reduceNeg, litP, appendC, Int.reduceEq, not_true_eq_false, not_false_eq_true, false_implies] at hb1 hb2; subst hb1; subst hb2; refine ⟨(by refine ⟨?_, ?_, rfl, rfl⟩ <;> repeat' (first | exact trivial | exact Or.inl rfl | exact Or.inr rfl | (refine And.intro (Or.inl rfl) ?_) | (refine And.intro (Or.inr (Or.inl rfl)) ?_) | (refine And.intro (Or.inr (Or.inr (Or.inr ⟨rfl, rfl⟩))) ?_) | (refine And.intro (Or.inr (Or.inr (Or.inl ⟨rfl, rfl, trivial⟩))) ?_) | exact ⟨(by show (_ : Nat) < 1000000000; omega), rfl, rfl⟩ | rfl | (refine And.intro (Or.inl ?_) ?_) | (refine And.intro ?_ ?_))), ?_, ?_⟩
  · exact ⟨Nat.zero_le _, rfl⟩
  intro i ⟨hi, hb⟩ back
  refine PW_sound env_ok ⟨_, fn_122, rfl⟩ 2000 _ _ (by kernel_rfl) ?_; simp only [go_sem, Nat.reduceBEq, ↓reduceIte, ↓reduceDIte, Nat.reduceAdd, Nat.reduceSub, Nat.reduceMul, Nat.reduceLeDiff, ← Bool.decide_and, ← Bool.decide_or, ← decide_not, Int.reduceLT, Int.reduceLE, Int.reduceToNat, Int.reduceNeg, litP, appendC, Int.reduceEq, not_true_eq_false, not_false_eq_true, false_implies]
  refine ⟨fun h => ?_, fun h => ?_⟩
  · obtain ⟨x, hxi⟩ : ∃ x, l[i]? = some x := get_of_lt (by omega)
    refine ⟨Int.natCast_nonneg i, x, hxi, _, _, h_res1 x r, rfl, ?_⟩
    cases hm : (fun o => meansS o r) x
    · dsimp only at hm
      rw [hm]
      simp only [go_sem, Nat.reduceBEq, ↓reduceIte, ↓reduceDIte, Nat.reduceAdd, Nat.reduceSub, Nat.reduceMul, Nat.reduceLeDiff, ← Bool.decide_and, ← Bool.decide_or, ← decide_not, Int.reduceLT, Int.reduceLE, Int.reduceToNat, Int.reduceNeg, litP, appendC, Int.reduceEq, not_true_eq_false, not_false_eq_true, false_implies]
      intro _
      refine ⟨i64_ok (by omega) (by omega), back _ (i + 1) (by refine ⟨?_, ?_, rfl, rfl⟩ <;> repeat' (first | exact trivial | exact Or.inl rfl | exact Or.inr rfl | (refine And.intro (Or.inl rfl) ?_) | (refine And.intro (Or.inr (Or.inl rfl)) ?_) | (refine And.intro (Or.inr (Or.inr (Or.inr ⟨rfl, rfl⟩))) ?_) | (refine And.intro (Or.inr (Or.inr (Or.inl ⟨rfl, rfl, trivial⟩))) ?_) | exact ⟨(by show (_ : Nat) < 1000000000; omega), rfl, rfl⟩ | rfl | (refine And.intro (Or.inl ?_) ?_) | (refine And.intro ?_ ?_))) ⟨by omega, by rw [any_step hxi, hb, hm]; rfl⟩ (by omega)⟩
    · dsimp only at hm
      rw [hm]
      simp only [go_sem, Nat.reduceBEq, ↓reduceIte, ↓reduceDIte, Nat.reduceAdd, Nat.reduceSub, Nat.reduceMul, Nat.reduceLeDiff, ← Bool.decide_and, ← Bool.decide_or, ← decide_not, Int.reduceLT, Int.reduceLE, Int.reduceToNat, Int.reduceNeg, litP, appendC, Int.reduceEq, not_true_eq_false, not_false_eq_true, false_implies]
      intro _
      exact (idx_hit hxi hb hm).symm
  · have e : l.take i = l := List.take_of_length_le (by omega)
    rw [e] at hb
    unfold idxL
    rw [hb]
    rfl
theorem h_ContainsA (l : List Ord') (r : Rec) : HC env 85 [.iv (.sl OrderT) l, .fn 86 [.ref 1000000000 0]] [(1000000000, .box [.iv (.int .i64) r.1, .iv (.int .i64) r.2.1, .iv (.int .i64) r.2.2.1, .iv .str r.2.2.2.1, .iv (.int .i64) r.2.2.2.2.1, .iv (.int .i64) r.2.2.2.2.2])] (.iv .bool (l.any (fun o => meansS o r))) [(1000000000, .box [.iv (.int .i64) r.1, .iv (.int .i64) r.2.1, .iv (.int .i64) r.2.2.1, .iv .str r.2.2.2.1, .iv (.int .i64) r.2.2.2.2.1, .iv (.int .i64) r.2.2.2.2.2])] := by
  refine HC.of_PW (m := 2000) env_ok fn_85 rfl rfl rfl rfl (by kernel_rfl) ?_; intro hx hbl; simp only [Tryz.f85]; simp only [go_sem, Nat.reduceBEq, ↓reduceIte, ↓reduceDIte, Nat.reduceAdd, Nat.reduceSub, Nat.reduceMul, Nat.reduceLeDiff, ← Bool.decide_and, ← Bool.decide_or, ← decide_not, Int.reduceLT, Int.reduceLE, Int.reduceToNat, Int.reduceNeg, litP, appendC, Int.reduceEq, not_true_eq_false, not_false_eq_true, false_implies]
  refine ⟨_, _, h_IndexA l r, rfl, ?_⟩
  simp only [go_sem, Nat.reduceBEq, ↓reduceIte, ↓reduceDIte, Nat.reduceAdd, Nat.reduceSub, Nat.reduceMul, Nat.reduceLeDiff, ← Bool.decide_and, ← Bool.decide_or, ← decide_not, Int.reduceLT, Int.reduceLE, Int.reduceToNat, Int.reduceNeg, litP, appendC, Int.reduceEq, not_true_eq_false, not_false_eq_true, false_implies]
  intro _ _
  unfold idxL
  cases h : l.any (fun o => meansS o r)
  · rfl
  · simp

theorem h_IndexB (l : List Ord') (r : Rec) : HC env 122 [.iv (.sl OrderT) l, .fn 90 [.ref 1000000000 0]] [(1000000000, .box [.iv (.int .i64) r.1, .iv (.int .i64) r.2.1, .iv (.int .i64) r.2.2.1, .iv .str r.2.2.2.1, .iv (.int .i64) r.2.2.2.2.1, .iv (.int .i64) r.2.2.2.2.2])] (.iv (.int .i64) (idxL (fun o => samePl o r) l)) [(1000000000, .box [.iv (.int .i64) r.1, .iv (.int .i64) r.2.1, .iv (.int .i64) r.2.2.1, .iv .str r.2.2.2.1, .iv (.int .i64) r.2.2.2.2.1, .iv (.int .i64) r.2.2.2.2.2])] := by
  refine HC.of_PW (m := 2000) env_ok fn_122 rfl rfl rfl rfl (by kernel_rfl) ?_; intro hx hbl; simp only [Tryz.f122]; simp only [go_sem, Nat.reduceBEq, ↓reduceIte, ↓reduceDIte, Nat.reduceAdd, Nat.reduceSub, Nat.reduceMul, Nat.reduceLeDiff, ← Bool.decide_and, ← Bool.decide_or, ← decide_not, Int.reduceLT, Int.reduceLE, Int.reduceToNat, Int.reduceNeg, litP, appendC, Int.reduceEq, not_true_eq_false, not_false_eq_true, false_implies]
  have hlen : l.length ≤ 9223372036854775807 := hx.1.1
  refine Walks.loopA (X := Nat) (fun (i : Nat) => [(8, .iv (.int .i64) (i : Int)), (5, .any), (4, .any)]) (fun (i : Nat) => []) (fun (i : Nat) => i ≤ l.length ∧ (l.take i).any (fun o => samePl o r) = false) (fun (i : Nat) => l.length - i) 0 ?_; intro b1 b2 hb1 hb2; simp (config := {maxSteps := 4000000}) only [go_sem, Nat.reduceBEq, ↓reduceIte, ↓reduceDIte, Nat.reduceAdd, Nat.reduceSub, Nat.reduceMul, Nat.reduceLeDiff, ← Bool.decide_and, ← Bool.decide_or, ← decide_not, Int.reduceLT, Int.reduceLE, Int.reduceToNat, Int.reduceNeg, litP, appendC, Int.reduceEq, not_true_eq_false, not_false_eq_true, false_implies] at hb1 hb2; subst hb1; subst hb2; refine ⟨(by refine ⟨?_, ?_, rfl, rfl⟩ <;> repeat' (first | exact trivial | exact Or.inl rfl | exact Or.inr rfl | (refine And.intro (Or.inl rfl) ?_) | (refine And.intro (Or.inr (Or.inl rfl)) ?_) | (refine And.intro (Or.inr (Or.inr (Or.inr ⟨rfl, rfl⟩))) ?_) | (refine And.intro (Or.inr (Or.inr (Or.inl ⟨rfl, rfl, trivial⟩))) ?_) | exact ⟨(by show (_ : Nat) < 1000000000; omega), rfl, rfl⟩ | rfl | (refine And.intro (Or.inl ?_) ?_) | (refine And.intro ?_ ?_))), ?_, ?_⟩
  · exact ⟨Nat.zero_le _, rfl⟩
  intro i ⟨hi, hb⟩ back
  refine PW_sound env_ok ⟨_, fn_122, rfl⟩ 2000 _ _ (by kernel_rfl) ?_; simp only [go_sem, Nat.reduceBEq, ↓reduceIte, ↓reduceDIte, Nat.reduceAdd, Nat.reduceSub, Nat.reduceMul, Nat.reduceLeDiff, ← Bool.decide_and, ← Bool.decide_or, ← decide_not, Int.reduceLT, Int.reduceLE, Int.reduceToNat, Int.reduceNeg, litP, appendC, Int.reduceEq, not_true_eq_false, not_false_eq_true, false_implies]
  refine ⟨fun h => ?_, fun h => ?_⟩
  · obtain ⟨x, hxi⟩ : ∃ x, l[i]? = some x := get_of_lt (by omega)
    refine ⟨Int.natCast_nonneg i, x, hxi, _, _, h_res3 x r, rfl, ?_⟩
    cases hm : (fun o => samePl o r) x
    · dsimp only at hm
      rw [hm]
      simp only [go_sem, Nat.reduceBEq, ↓reduceIte, ↓reduceDIte, Nat.reduceAdd, Nat.reduceSub, Nat.reduceMul, Nat.reduceLeDiff, ← Bool.decide_and, ← Bool.decide_or, ← decide_not, Int.reduceLT, Int.reduceLE, Int.reduceToNat, Int.reduceNeg, litP, appendC, Int.reduceEq, not_true_eq_false, not_false_eq_true, false_implies]
      intro _
      refine ⟨i64_ok (by omega) (by omega), back _ (i + 1) (by refine ⟨?_, ?_, rfl, rfl⟩ <;> repeat' (first | exact trivial | exact Or.inl rfl | exact Or.inr rfl | (refine And.intro (Or.inl rfl) ?_) | (refine And.intro (Or.inr (Or.inl rfl)) ?_) | (refine And.intro (Or.inr (Or.inr (Or.inr ⟨rfl, rfl⟩))) ?_) | (refine And.intro (Or.inr (Or.inr (Or.inl ⟨rfl, rfl, trivial⟩))) ?_) | exact ⟨(by show (_ : Nat) < 1000000000; omega), rfl, rfl⟩ | rfl | (refine And.intro (Or.inl ?_) ?_) | (refine And.intro ?_ ?_))) ⟨by omega, by rw [any_step hxi, hb, hm]; rfl⟩ (by omega)⟩
    · dsimp only at hm
      rw [hm]
      simp only [go_sem, Nat.reduceBEq, ↓reduceIte, ↓reduceDIte, Nat.reduceAdd, Nat.reduceSub, Nat.reduceMul, Nat.reduceLeDiff, ← Bool.decide_and, ← Bool.decide_or, ← decide_not, Int.reduceLT, Int.reduceLE, Int.reduceToNat, Int.reduceNeg, litP, appendC, Int.reduceEq, not_true_eq_false, not_false_eq_true, false_implies]
      intro _
      exact (idx_hit hxi hb hm).symm
  · have e : l.take i = l := List.take_of_length_le (by omega)
    rw [e] at hb
    unfold idxL
    rw [hb]
    rfl
theorem h_ContainsB (l : List Ord') (r : Rec) : HC env 85 [.iv (.sl OrderT) l, .fn 90 [.ref 1000000000 0]] [(1000000000, .box [.iv (.int .i64) r.1, .iv (.int .i64) r.2.1, .iv (.int .i64) r.2.2.1, .iv .str r.2.2.2.1, .iv (.int .i64) r.2.2.2.2.1, .iv (.int .i64) r.2.2.2.2.2])] (.iv .bool (l.any (fun o => samePl o r))) [(1000000000, .box [.iv (.int .i64) r.1, .iv (.int .i64) r.2.1, .iv (.int .i64) r.2.2.1, .iv .str r.2.2.2.1, .iv (.int .i64) r.2.2.2.2.1, .iv (.int .i64) r.2.2.2.2.2])] := by
  refine HC.of_PW (m := 2000) env_ok fn_85 rfl rfl rfl rfl (by kernel_rfl) ?_; intro hx hbl; simp only [Tryz.f85]; simp only [go_sem, Nat.reduceBEq, ↓reduceIte, ↓reduceDIte, Nat.reduceAdd, Nat.reduceSub, Nat.reduceMul, Nat.reduceLeDiff, ← Bool.decide_and, ← Bool.decide_or, ← decide_not, Int.reduceLT, Int.reduceLE, Int.reduceToNat, Int.reduceNeg, litP, appendC, Int.reduceEq, not_true_eq_false, not_false_eq_true, false_implies]
  refine ⟨_, _, h_IndexB l r, rfl, ?_⟩
  simp only [go_sem, Nat.reduceBEq, ↓reduceIte, ↓reduceDIte, Nat.reduceAdd, Nat.reduceSub, Nat.reduceMul, Nat.reduceLeDiff, ← Bool.decide_and, ← Bool.decide_or, ← decide_not, Int.reduceLT, Int.reduceLE, Int.reduceToNat, Int.reduceNeg, litP, appendC, Int.reduceEq, not_true_eq_false, not_false_eq_true, false_implies]
  intro _ _
  unfold idxL
  cases h : l.any (fun o => samePl o r)
  · rfl
  · simp

theorem c_res2 (x y : Rec) : PC env 89 [⟨RecordT, x⟩, ⟨RecordT, y⟩] (.int .i64) (cmpP (plR x) (plR y)) := by
  refine PC.of_PW (m := 2000) env_ok fn_89 rfl rfl rfl rfl (by kernel_rfl) ?_; intro hx; simp only [Tryz.f89]; simp only [go_sem, Nat.reduceBEq, ↓reduceIte, ↓reduceDIte, Nat.reduceAdd, Nat.reduceSub, Nat.reduceMul, Nat.reduceLeDiff, ← Bool.decide_and, ← Bool.decide_or, ← decide_not, Int.reduceLT, Int.reduceLE, Int.reduceToNat, Int.reduceNeg, litP, appendC, Int.reduceEq, not_true_eq_false, not_false_eq_true, false_implies]
  refine ⟨_, c_Compare _ _, fun _ => ⟨_, c_Compare _ _, fun _ => ⟨_, c_Or _, fun _ => ?_⟩⟩⟩
  unfold cmpP
  by_cases h : cmpI x.1 y.1 = 0 <;> by_cases h2 : cmpI x.2.1 y.2.1 = 0 <;> simp [plR, h, h2]
theorem hit_some {α : Type} {pl : α → Int × Int} {l : List α} {p : Int × Int} {i : Nat} (h : hitAt pl l p i = true) : ∃ x, l[i]? = some x ∧ cmpP (pl x) p = 0 := by
  unfold hitAt at h
  split at h
  · rename_i x hx
    exact ⟨x, hx, of_decide_eq_true h⟩
  · cases h
theorem hit_no {l : List Rec} {r : Rec} {i : Nat} (h : hitAt plR l (plR r) i = false) : l[i]? ≠ some r := fun e => by
  unfold hitAt at h
  rw [e] at h
  have : cmpP (plR r) (plR r) = 0 := by unfold cmpP cmpI; simp
  simp [this] at h
theorem c_bsRR (l : List Rec) (p : Rec) (hl : l.length ≤ 1000000) : PC env 88 [⟨.sl RecordT, l⟩, ⟨RecordT, p⟩, ⟨.fnv, (89 : Nat)⟩] (.tup (.int .i64) .bool) (((bsI plR l (plR p) : Nat) : Int), hitAt plR l (plR p) (bsI plR l (plR p))) := by
  refine PC.of_PW (m := 2000) env_ok fn_88 rfl rfl rfl rfl (by kernel_rfl) ?_; intro hx; simp only [Tryz.f88]; simp only [go_sem, Nat.reduceBEq, ↓reduceIte, ↓reduceDIte, Nat.reduceAdd, Nat.reduceSub, Nat.reduceMul, Nat.reduceLeDiff, ← Bool.decide_and, ← Bool.decide_or, ← decide_not, Int.reduceLT, Int.reduceLE, Int.reduceToNat, Int.reduceNeg, litP, appendC, Int.reduceEq, not_true_eq_false, not_false_eq_true, false_implies]
  refine Walks.loopA (X := Nat × Nat) (fun (z : Nat × Nat) => [(9, .iv (.int .i64) (z.1 : Int)), (10, .iv (.int .i64) (z.2 : Int))]) (fun (z : Nat × Nat) => []) (fun (z : Nat × Nat) => z.1 ≤ z.2 ∧ z.2 ≤ l.length ∧ bsF (ltAt plR l (plR p)) z.1 z.2 = bsI plR l (plR p)) (fun (z : Nat × Nat) => z.2 - z.1) (0, l.length) ?_; intro b1 b2 hb1 hb2; simp (config := {maxSteps := 4000000}) only [go_sem, Nat.reduceBEq, ↓reduceIte, ↓reduceDIte, Nat.reduceAdd, Nat.reduceSub, Nat.reduceMul, Nat.reduceLeDiff, ← Bool.decide_and, ← Bool.decide_or, ← decide_not, Int.reduceLT, Int.reduceLE, Int.reduceToNat, Int.reduceNeg, litP, appendC, Int.reduceEq, not_true_eq_false, not_false_eq_true, false_implies] at hb1 hb2; subst hb1; subst hb2; refine ⟨(by refine ⟨?_, ?_, rfl, rfl⟩ <;> repeat' (first | exact trivial | exact Or.inl rfl | exact Or.inr rfl | (refine And.intro (Or.inl rfl) ?_) | (refine And.intro (Or.inr (Or.inl rfl)) ?_) | (refine And.intro (Or.inr (Or.inr (Or.inr ⟨rfl, rfl⟩))) ?_) | (refine And.intro (Or.inr (Or.inr (Or.inl ⟨rfl, rfl, trivial⟩))) ?_) | exact ⟨(by show (_ : Nat) < 1000000000; omega), rfl, rfl⟩ | rfl | (refine And.intro (Or.inl ?_) ?_) | (refine And.intro ?_ ?_))), ?_, ?_⟩
  · exact ⟨Nat.zero_le _, Nat.le_refl _, rfl⟩
  intro ⟨i, j⟩ ⟨hij, hj, hb⟩ back
  dsimp only at hij hj hb
  refine PW_sound env_ok ⟨_, fn_88, rfl⟩ 2000 _ _ (by kernel_rfl) ?_; simp only [go_sem, Nat.reduceBEq, ↓reduceIte, ↓reduceDIte, Nat.reduceAdd, Nat.reduceSub, Nat.reduceMul, Nat.reduceLeDiff, ← Bool.decide_and, ← Bool.decide_or, ← decide_not, Int.reduceLT, Int.reduceLE, Int.reduceToNat, Int.reduceNeg, litP, appendC, Int.reduceEq, not_true_eq_false, not_false_eq_true, false_implies]
  have hw := half_wrap (i := i) (j := j) (by omega)
  have hu : IntKind.u64.wrap ((i : Int) + j) = (i : Int) + j := wrap_in _ ⟨by simp only [min_u64]; omega, by simp only [max_u64]; omega⟩
  refine ⟨fun h => ?_, fun h => ?_⟩
  · obtain ⟨x, hxi⟩ : ∃ x, l[(i + j) / 2]? = some x := get_of_lt (by omega)
    rw [hw, hu, Int.toNat_natCast]
    unfold bsF at hb
    rw [if_pos (by omega)] at hb
    have hlt : ltAt plR l (plR p) ((i + j) / 2) = decide (cmpP (plR x) (plR p) < 0) := by unfold ltAt; rw [hxi]
    refine ⟨i64_ok (by omega) (by omega), by omega, x, hxi, _, c_res2 x p, fun _ => ⟨fun c => ⟨i64_ok (by omega) (by omega), ?_⟩, fun c => ?_⟩⟩
    · rw [hlt, decide_eq_true c, if_pos rfl] at hb
      exact back _ ((i + j) / 2 + 1, j) (by refine ⟨?_, ?_, rfl, rfl⟩ <;> repeat' (first | exact trivial | exact Or.inl rfl | exact Or.inr rfl | (refine And.intro (Or.inl rfl) ?_) | (refine And.intro (Or.inr (Or.inl rfl)) ?_) | (refine And.intro (Or.inr (Or.inr (Or.inr ⟨rfl, rfl⟩))) ?_) | (refine And.intro (Or.inr (Or.inr (Or.inl ⟨rfl, rfl, trivial⟩))) ?_) | exact ⟨(by show (_ : Nat) < 1000000000; omega), rfl, rfl⟩ | rfl | (refine And.intro (Or.inl ?_) ?_) | (refine And.intro ?_ ?_))) ⟨by dsimp only; omega, hj, hb⟩ (by dsimp only; omega)
    · rw [hlt, decide_eq_false c, if_neg (by decide)] at hb
      exact back _ (i, (i + j) / 2) (by refine ⟨?_, ?_, rfl, rfl⟩ <;> repeat' (first | exact trivial | exact Or.inl rfl | exact Or.inr rfl | (refine And.intro (Or.inl rfl) ?_) | (refine And.intro (Or.inr (Or.inl rfl)) ?_) | (refine And.intro (Or.inr (Or.inr (Or.inr ⟨rfl, rfl⟩))) ?_) | (refine And.intro (Or.inr (Or.inr (Or.inl ⟨rfl, rfl, trivial⟩))) ?_) | exact ⟨(by show (_ : Nat) < 1000000000; omega), rfl, rfl⟩ | rfl | (refine And.intro (Or.inl ?_) ?_) | (refine And.intro ?_ ?_))) ⟨by dsimp only; omega, by dsimp only; omega, hb⟩ (by dsimp only; omega)
  · unfold bsF at hb
    rw [if_neg (by omega)] at hb
    rw [← hb]
    refine ⟨fun c => ?_, fun c => ?_⟩
    · obtain ⟨x, hxi⟩ : ∃ x, l[i]? = some x := get_of_lt (by omega)
      refine ⟨Int.natCast_nonneg i, x, hxi, _, c_res2 x p, fun _ => ?_⟩
      unfold hitAt
      rw [hxi]
    · unfold hitAt
      rw [List.getElem?_eq_none (by omega)]
def restS (u : Usr) (r : Rec) : Usr × Int :=
  if u.2.1.any (fun o => meansS o r) = true then (u, 0)
  else if u.1[bsI plR u.1 (plR r)]? = some r then (u, 0)
  else if (hitAt plR u.1 (plR r) (bsI plR u.1 (plR r)) || u.2.1.any (fun o => samePl o r)) = true then (u, 260)
  else if 400 ≤ u.1.length then (u, 2)
  else ((insAt u.1 (bsI plR u.1 (plR r)) r, u.2.1, setL u.2.2 r.1 (max (getL u.2.2 r.1) r.2.1)), 0)
theorem c_restore (u : Usr) (r : Rec) (hl : u.1.length ≤ 1000000) (hd : 0 ≤ r.1 ∧ r.1 ≤ 7) : PC env 61 [⟨UserT, u⟩, ⟨RecordT, r⟩] (.tup UserT (.int .i64)) (restS u r) := by
  refine PC.of_PW (m := 2000) env_ok fn_61 rfl rfl rfl rfl (by kernel_rfl) ?_; intro hx; simp only [Tryz.f61]; simp only [go_sem, Nat.reduceBEq, ↓reduceIte, ↓reduceDIte, Nat.reduceAdd, Nat.reduceSub, Nat.reduceMul, Nat.reduceLeDiff, ← Bool.decide_and, ← Bool.decide_or, ← decide_not, Int.reduceLT, Int.reduceLE, Int.reduceToNat, Int.reduceNeg, litP, appendC, Int.reduceEq, not_true_eq_false, not_false_eq_true, false_implies]
  refine ⟨_, _, h_ContainsA u.2.1 r, rfl, ?_⟩
  unfold restS
  cases hm : u.2.1.any (fun o => meansS o r)
  · simp only [go_sem, Nat.reduceBEq, ↓reduceIte, ↓reduceDIte, Nat.reduceAdd, Nat.reduceSub, Nat.reduceMul, Nat.reduceLeDiff, ← Bool.decide_and, ← Bool.decide_or, ← decide_not, Int.reduceLT, Int.reduceLE, Int.reduceToNat, Int.reduceNeg, litP, appendC, Int.reduceEq, not_true_eq_false, not_false_eq_true, false_implies]
    intro _
    refine ⟨_, c_bsRR u.1 r hl, fun _ => ?_⟩
    cases hh : hitAt plR u.1 (plR r) (bsI plR u.1 (plR r))
    · rw [if_neg (by decide), if_neg (hit_no hh)]
      simp only [go_sem, Nat.reduceBEq, ↓reduceIte, ↓reduceDIte, Nat.reduceAdd, Nat.reduceSub, Nat.reduceMul, Nat.reduceLeDiff, ← Bool.decide_and, ← Bool.decide_or, ← decide_not, Int.reduceLT, Int.reduceLE, Int.reduceToNat, Int.reduceNeg, litP, appendC, Int.reduceEq, not_true_eq_false, not_false_eq_true, false_implies]
      refine ⟨_, _, h_ContainsB u.2.1 r, rfl, ?_⟩
      simp only [go_sem, Nat.reduceBEq, ↓reduceIte, ↓reduceDIte, Nat.reduceAdd, Nat.reduceSub, Nat.reduceMul, Nat.reduceLeDiff, ← Bool.decide_and, ← Bool.decide_or, ← decide_not, Int.reduceLT, Int.reduceLE, Int.reduceToNat, Int.reduceNeg, litP, appendC, Int.reduceEq, not_true_eq_false, not_false_eq_true, false_implies]
      intro _
      cases hs : u.2.1.any (fun o => samePl o r)
      · simp only [go_sem, Nat.reduceBEq, ↓reduceIte, ↓reduceDIte, Nat.reduceAdd, Nat.reduceSub, Nat.reduceMul, Nat.reduceLeDiff, ← Bool.decide_and, ← Bool.decide_or, ← decide_not, Int.reduceLT, Int.reduceLE, Int.reduceToNat, Int.reduceNeg, litP, appendC, Int.reduceEq, not_true_eq_false, not_false_eq_true, false_implies]
        have hle := bsI_le plR u.1 (plR r)
        refine ⟨fun g => ?_, fun g => ?_⟩
        · rw [if_neg (by decide), if_pos (by omega)]
        · rw [if_neg (by decide), if_neg (by omega)]
          have hfl : [u.1.take (bsI plR u.1 (plR r)), [r], u.1.drop (bsI plR u.1 (plR r))].flatten = insAt u.1 (bsI plR u.1 (plR r)) r := by simp [insAt]
          have hsl : sumLen [u.1.take (bsI plR u.1 (plR r)), [r], u.1.drop (bsI plR u.1 (plR r))] = u.1.length + 1 := by
            simp only [sumLen, List.map_cons, List.map_nil, List.sum_cons, List.sum_nil, List.length_take, List.length_drop, List.length_cons, List.length_nil]; omega
          have kc := c_ConcatR [u.1.take (bsI plR u.1 (plR r)), [r], u.1.drop (bsI plR u.1 (plR r))] (by omega) (by omega) (by simp)
          rw [hfl] at kc
          exact ⟨⟨Int.natCast_nonneg _, by omega⟩, ⟨Int.natCast_nonneg _, by omega⟩, _, kc, fun _ => ⟨⟨hd.1, by omega⟩, getL u.2.2 r.1, lst_at u.2.2 hd.1 hd.2, ⟨hd.1, by omega⟩, rfl⟩⟩
      · simp only [go_sem, Nat.reduceBEq, ↓reduceIte, ↓reduceDIte, Nat.reduceAdd, Nat.reduceSub, Nat.reduceMul, Nat.reduceLeDiff, ← Bool.decide_and, ← Bool.decide_or, ← decide_not, Int.reduceLT, Int.reduceLE, Int.reduceToNat, Int.reduceNeg, litP, appendC, Int.reduceEq, not_true_eq_false, not_false_eq_true, false_implies]
    · obtain ⟨x, hx1, hx2⟩ := hit_some hh
      rw [if_neg (by decide), hx1]
      simp only [go_sem, Nat.reduceBEq, ↓reduceIte, ↓reduceDIte, Nat.reduceAdd, Nat.reduceSub, Nat.reduceMul, Nat.reduceLeDiff, ← Bool.decide_and, ← Bool.decide_or, ← decide_not, Int.reduceLT, Int.reduceLE, Int.reduceToNat, Int.reduceNeg, litP, appendC, Int.reduceEq, not_true_eq_false, not_false_eq_true, false_implies]
      refine ⟨Int.natCast_nonneg _, x, hx1, fun g => ?_, fun g => ?_⟩
      · rw [if_pos (by rw [show x = (x.1, x.2.1, x.2.2.1, x.2.2.2.1, x.2.2.2.2.1, x.2.2.2.2.2) from rfl, g.1, g.2.1, g.2.2.1, g.2.2.2.1, g.2.2.2.2.1, g.2.2.2.2.2])]
      · rw [if_neg (fun e => g (by rw [e]; exact ⟨rfl, rfl, rfl, rfl, rfl, rfl⟩))]
        refine ⟨_, _, h_ContainsB u.2.1 r, rfl, ?_⟩
        simp only [go_sem, Nat.reduceBEq, ↓reduceIte, ↓reduceDIte, Nat.reduceAdd, Nat.reduceSub, Nat.reduceMul, Nat.reduceLeDiff, ← Bool.decide_and, ← Bool.decide_or, ← decide_not, Int.reduceLT, Int.reduceLE, Int.reduceToNat, Int.reduceNeg, litP, appendC, Int.reduceEq, not_true_eq_false, not_false_eq_true, false_implies]
        exact fun _ => trivial
  · simp only [go_sem, Nat.reduceBEq, ↓reduceIte, ↓reduceDIte, Nat.reduceAdd, Nat.reduceSub, Nat.reduceMul, Nat.reduceLeDiff, ← Bool.decide_and, ← Bool.decide_or, ← decide_not, Int.reduceLT, Int.reduceLE, Int.reduceToNat, Int.reduceNeg, litP, appendC, Int.reduceEq, not_true_eq_false, not_false_eq_true, false_implies]
    exact fun _ => trivial
end Go.Proofs.YtmjnkaabooockaaGreatDoor
namespace Go.Proofs.YtmjnkaabooockaaGreatDoor
open Go.Lib
set_option maxHeartbeats 1000000
set_option maxRecDepth 100000
theorem itoa_num {n : Int} (h0 : 0 ≤ n) (h1 : n ≤ 9999999) : numOK (itoa n) = true ∧ (valS (itoa n) : Int) = n := by
  rw [itoa_dec h0]
  have hv := valS_dec n.toNat
  have hl := dec_len 6 n.toNat (by omega)
  obtain ⟨x, r, he, k1, k2⟩ := dec_head n.toNat
  refine ⟨?_, by omega⟩
  have hd := dig_dec n.toNat
  simp only [numOK, Bool.and_eq_true, decide_eq_true_eq]
  refine ⟨⟨by rw [he]; simp, by omega, fun ⟨g1, g2⟩ => ?_⟩, hd⟩
  rw [he] at g1 g2
  simp only [List.getElem?_cons_zero, Option.some.injEq, List.length_cons] at g1 g2
  have := k1 (fun e => by rw [e] at g2; simp at g2)
  rw [g1] at this
  exact absurd this (by decide)
theorem num_itoa {s : Str} (h : numOK s = true) : itoa (valS s : Int) = s := by
  simp only [numOK, Bool.and_eq_true, decide_eq_true_eq] at h
  obtain ⟨⟨h1, h2, h3⟩, h4⟩ := h
  rw [itoa_dec (by omega), Int.toNat_natCast]
  refine dec_val _ s rfl (fun e => by rw [e] at h1; simp at h1) h4 (fun x r he hr => ?_)
  have hx : dig x = true := List.all_eq_true.1 h4 x (by rw [he]; simp)
  simp only [dig, decide_eq_true_eq] at hx
  rcases Nat.lt_or_ge x.toNat 49 with hlt | hge
  · exfalso
    refine h3 ⟨?_, ?_⟩
    · rw [he]
      simp only [List.getElem?_cons_zero, Option.some.injEq]
      exact UInt8.toNat_inj.1 (by rw [show (48 : UInt8).toNat = 48 from rfl]; omega)
    · rw [he]
      cases r
      · exact absurd rfl hr
      · simp
  · exact hge
theorem numV_iff {lo hi n : Int} {s : Str} (h0 : 0 ≤ lo) (h1 : hi ≤ 9999999) : numV lo hi s = some n ↔ (lo ≤ n ∧ n ≤ hi) ∧ s = itoa n := by
  unfold numV
  constructor
  · intro h
    split at h
    · rename_i hh
      injection h with h
      subst h
      exact ⟨hh.2, (num_itoa hh.1).symm⟩
    · cases h
  · rintro ⟨⟨h2, h3⟩, rfl⟩
    obtain ⟨k1, k2⟩ := itoa_num (n := n) (by omega) (by omega)
    rw [if_pos ⟨k1, by omega, by omega⟩, k2]
def readL : List Nat → Rec → List Str → Option Rec
  | [], r, [] => some r
  | f :: fs, r, x :: xs => (match fieldV f r x with | some r' => readL fs r' xs | none => none)
  | _, _, _ => none
theorem rd_spl : ∀ (fs : List Nat) (r : Rec) (s : Str), fs ≠ [] → readV fs r s = readL fs r (spl 32 s)
  | [], _, _, h => absurd rfl h
  | f :: fs, r, s, _ => by
    rcases first_c 32 s with h | ⟨x, t, rfl, h⟩
    · rw [readV, cut_no h, spl_no 32 h, readL]
      dsimp only
      cases fs with
      | nil =>
        cases hf : fieldV f r s <;> simp [readV, readL, hf]
      | cons g gs =>
        rw [if_neg (by simp)]
        cases fieldV f r s <;> rfl
    · rw [readV, cut_yes h, spl_cons 32 t h, readL]
      dsimp only
      cases fs with
      | nil =>
        rw [if_neg (by simp)]
        cases fieldV f r x
        · rfl
        · cases hh : spl 32 t
          · exact absurd hh (spl_ne _ _)
          · rfl
      | cons g gs =>
        rw [if_pos (by simp)]
        cases hh : fieldV f r x
        · rfl
        · exact rd_spl (g :: gs) _ t (by simp)
theorem no32_num (n : Int) (h0 : 0 ≤ n) : (32 : UInt8) ∉ itoa n := by
  rw [itoa_dec h0]
  exact all_no_c (p := dig) (by decide) (dig_dec _)
theorem no10_num (n : Int) (h0 : 0 ≤ n) : (10 : UInt8) ∉ itoa n := by
  rw [itoa_dec h0]
  exact all_no_c (p := dig) (by decide) (dig_dec _)
theorem okU32 : okU 32 = false := by decide
theorem okU10 : okU 10 = false := by decide
theorem word_all {s : Str} (h : wordB s = true) : s.all okU = true := by
  simp only [wordB, Bool.and_eq_true] at h
  exact h.2
theorem spl_line {r : Rec} (h : rightR r = true) : spl 32 (lineE r) = [itoa r.1, itoa r.2.1, itoa r.2.2.1, r.2.2.2.1, itoa r.2.2.2.2.1, itoa r.2.2.2.2.2] := by
  obtain ⟨h1, h2, h3, h4, h5, h6⟩ := right_nums h
  refine spl_join 32 (by simp) (fun x hx => ?_)
  simp only [List.mem_cons, List.not_mem_nil, or_false] at hx
  rcases hx with rfl | rfl | rfl | rfl | rfl | rfl
  · exact no32_num _ (by omega)
  · exact no32_num _ (by omega)
  · exact no32_num _ (by omega)
  · exact all_no_c okU32 (word_all h4)
  · exact no32_num _ (by omega)
  · exact no32_num _ (by omega)
theorem right_of {r : Rec} (h : (0 ≤ r.1 ∧ r.1 ≤ 7) ∧ (1 ≤ r.2.1 ∧ r.2.1 ≤ 1000000) ∧ (0 ≤ r.2.2.1 ∧ r.2.2.1 ≤ 10000) ∧ wordB r.2.2.2.1 = true ∧ (0 ≤ r.2.2.2.2.1 ∧ r.2.2.2.2.1 ≤ 7) ∧ (1 ≤ r.2.2.2.2.2 ∧ r.2.2.2.2.2 ≤ 1000)) : rightR r = true := by
  simp only [rightR, Bool.and_eq_true, decide_eq_true_eq]
  exact ⟨⟨h.1, h.2.1, h.2.2.1⟩, h.2.2.2.1, h.2.2.2.2.1, h.2.2.2.2.2⟩
theorem readL_rec (l : List Str) (r : Rec) : readL recFs zR l = some r ↔ rightR r = true ∧ l = [itoa r.1, itoa r.2.1, itoa r.2.2.1, r.2.2.2.1, itoa r.2.2.2.2.1, itoa r.2.2.2.2.2] := by
  constructor
  · intro h
    unfold recFs at h
    rcases l with _ | ⟨a, _ | ⟨b, _ | ⟨c, _ | ⟨d, _ | ⟨e, _ | ⟨f, _ | ⟨g, l⟩⟩⟩⟩⟩⟩⟩ <;> simp only [readL] at h
    all_goals (try (cases h; done))
    all_goals (split at h <;> try (cases h; done))
    all_goals (rename_i r1 g1; obtain ⟨n1, h1, rfl⟩ := fv0 g1)
    all_goals (try (cases h; done))
    all_goals (split at h <;> try (cases h; done))
    all_goals (rename_i r1 g2; obtain ⟨n2, h2, rfl⟩ := fv1 g2)
    all_goals (try (cases h; done))
    all_goals (split at h <;> try (cases h; done))
    all_goals (rename_i r1 g3; obtain ⟨n3, h3, rfl⟩ := fv2 g3)
    all_goals (try (cases h; done))
    all_goals (split at h <;> try (cases h; done))
    all_goals (rename_i r1 g4; obtain ⟨h4, rfl⟩ := fv3 g4)
    all_goals (try (cases h; done))
    all_goals (split at h <;> try (cases h; done))
    all_goals (rename_i r1 g5; obtain ⟨n5, h5, rfl⟩ := fv4 g5)
    all_goals (try (cases h; done))
    all_goals (split at h <;> try (cases h; done))
    all_goals (rename_i r1 g6; obtain ⟨n6, h6, rfl⟩ := fv5 g6)
    all_goals (try (cases h; done))
    injection h with h
    subst h
    rw [numV_iff (by decide) (by decide)] at h1 h2 h3 h5 h6
    refine ⟨right_of ⟨h1.1, h2.1, h3.1, h4, h5.1, h6.1⟩, ?_⟩
    rw [h1.2, h2.2, h3.2, h5.2, h6.2]
  · rintro ⟨h, rfl⟩
    obtain ⟨h1, h2, h3, h4, h5, h6⟩ := right_nums h
    have k1 := (numV_iff (s := itoa r.1) (Int.le_refl 0) (by decide : (7 : Int) ≤ 9999999)).2 ⟨h1, rfl⟩
    have k2 := (numV_iff (s := itoa r.2.1) (by decide : (0 : Int) ≤ 1) (by decide : (1000000 : Int) ≤ 9999999)).2 ⟨h2, rfl⟩
    have k3 := (numV_iff (s := itoa r.2.2.1) (Int.le_refl 0) (by decide : (10000 : Int) ≤ 9999999)).2 ⟨h3, rfl⟩
    have k5 := (numV_iff (s := itoa r.2.2.2.2.1) (Int.le_refl 0) (by decide : (7 : Int) ≤ 9999999)).2 ⟨h5, rfl⟩
    have k6 := (numV_iff (s := itoa r.2.2.2.2.2) (by decide : (0 : Int) ≤ 1) (by decide : (1000 : Int) ≤ 9999999)).2 ⟨h6, rfl⟩
    simp only [recFs, readL, fieldV, Nat.reduceEqDiff, if_true, if_false, k1, k2, k3, k5, k6, h4]
theorem parse_iff (s : Str) (r : Rec) : readV recFs zR s = some r ↔ rightR r = true ∧ lineE r = s := by
  rw [rd_spl _ _ _ (by decide), readL_rec]
  constructor
  · rintro ⟨h1, h2⟩
    refine ⟨h1, ?_⟩
    rw [← joinC_spl 32 s, h2]
    rfl
  · rintro ⟨h1, rfl⟩
    exact ⟨h1, spl_line h1⟩
def listE (w : Str) (n : Int) : Str := w ++ 32 :: itoa n
theorem readL_list (l : List Str) (r : Rec) : readL listFs zR l = some r ↔ (wordB r.2.2.2.1 = true ∧ 1 ≤ r.2.2.2.2.2 ∧ r.2.2.2.2.2 ≤ 1000 ∧ r = (0, 0, 0, r.2.2.2.1, 0, r.2.2.2.2.2)) ∧ l = [r.2.2.2.1, itoa r.2.2.2.2.2] := by
  constructor
  · intro h
    unfold listFs at h
    rcases l with _ | ⟨a, _ | ⟨b, _ | ⟨c, l⟩⟩⟩ <;> simp only [readL] at h
    all_goals (try (cases h; done))
    all_goals (split at h <;> try (cases h; done))
    all_goals (rename_i r1 g4; obtain ⟨h4, rfl⟩ := fv3 g4)
    all_goals (try (cases h; done))
    all_goals (split at h <;> try (cases h; done))
    all_goals (rename_i r1 g6; obtain ⟨n6, h6, rfl⟩ := fv5 g6)
    all_goals (try (cases h; done))
    injection h with h
    subst h
    rw [numV_iff (by decide) (by decide)] at h6
    refine ⟨⟨h4, h6.1.1, h6.1.2, rfl⟩, ?_⟩
    rw [h6.2]
  · rintro ⟨⟨h4, h5, h6, h7⟩, rfl⟩
    have k6 := (numV_iff (s := itoa r.2.2.2.2.2) (by decide : (0 : Int) ≤ 1) (by decide : (1000 : Int) ≤ 9999999)).2 ⟨⟨h5, h6⟩, rfl⟩
    simp only [listFs, readL, fieldV, Nat.reduceEqDiff, if_true, if_false, k6, h4]
    conv => rhs; rw [h7]
    rfl
theorem list_iff (s : Str) (r : Rec) : readV listFs zR s = some r ↔ (wordB r.2.2.2.1 = true ∧ 1 ≤ r.2.2.2.2.2 ∧ r.2.2.2.2.2 ≤ 1000 ∧ r = (0, 0, 0, r.2.2.2.1, 0, r.2.2.2.2.2)) ∧ listE r.2.2.2.1 r.2.2.2.2.2 = s := by
  rw [rd_spl _ _ _ (by decide), readL_list]
  constructor
  · rintro ⟨h1, h2⟩
    refine ⟨h1, ?_⟩
    rw [← joinC_spl 32 s, h2]
    rfl
  · rintro ⟨h1, rfl⟩
    refine ⟨h1, ?_⟩
    show spl 32 (joinC 32 [r.2.2.2.1, itoa r.2.2.2.2.2]) = _
    refine spl_join 32 (by simp) (fun x hx => ?_)
    simp only [List.mem_cons, List.not_mem_nil, or_false] at hx
    rcases hx with rfl | rfl
    · exact all_no_c okU32 (word_all h1.1)
    · exact no32_num _ (by omega)
theorem parse_line {r : Rec} (h : rightR r = true) : readV recFs zR (lineE r) = some r := (parse_iff _ _).2 ⟨h, rfl⟩
theorem lineV_line {r : Rec} (h : rightR r = true) : lineV (lineE r) = some r := by unfold lineV; rw [parse_line h]
theorem lineV_list {w : Str} {n : Int} (h : wordB w = true) (h1 : 1 ≤ n) (h2 : n ≤ 1000) : lineV (listE w n) = some (0, 0, 0, w, 0, n) := by
  have hl : readV listFs zR (listE w n) = some (0, 0, 0, w, 0, n) := (list_iff _ _).2 ⟨⟨h, h1, h2, rfl⟩, rfl⟩
  unfold lineV
  cases hr : readV recFs zR (listE w n) with
  | none => exact hl
  | some q =>
    exfalso
    rw [rd_spl _ _ _ (by decide), readL_rec] at hr
    rw [rd_spl _ _ _ (by decide), readL_list] at hl
    rw [hl.2] at hr
    exact absurd (congrArg List.length hr.2) (by simp)
def said (r : Rec) : Prop := rightR r = true ∨ (r.2.1 = 0 ∧ wordB r.2.2.2.1 = true ∧ 1 ≤ r.2.2.2.2.2 ∧ r.2.2.2.2.2 ≤ 1000 ∧ r = (0, 0, 0, r.2.2.2.1, 0, r.2.2.2.2.2))
theorem lineV_said {s : Str} {r : Rec} (h : lineV s = some r) : said r := by
  unfold lineV at h
  cases hr : readV recFs zR s with
  | some q =>
    rw [hr] at h
    injection h with h
    subst h
    exact .inl ((parse_iff _ _).1 hr).1
  | none =>
    rw [hr] at h
    obtain ⟨⟨h1, h2, h3, h4⟩, _⟩ := (list_iff _ _).1 h
    exact .inr ⟨by rw [h4], h1, h2, h3, h4⟩
theorem linesN_said : ∀ (n : Nat) (s : Str) (l : List Rec), (∀ r, r ∈ l → said r) → ∀ r, r ∈ (linesN n s l).1 → said r
  | 0, _, l, h, r, hr => h r hr
  | n + 1, s, l, h, r, hr => by
    rw [linesN] at hr
    split at hr
    · exact h r hr
    · split at hr
      · cases hr
      · split at hr
        · cases hr
        · rename_i q hq
          refine linesN_said n _ _ (fun r' hr' => ?_) r hr
          rcases List.mem_append.1 hr' with h' | h'
          · exact h r' h'
          · rw [List.mem_singleton.1 h']
            exact lineV_said hq
theorem linesN_len : ∀ (n : Nat) (s : Str) (l : List Rec), (linesN n s l).1.length ≤ s.length + l.length
  | 0, s, l => by rw [linesN]; exact Nat.le_add_left _ _
  | n + 1, s, l => by
    rw [linesN]
    split
    · exact Nat.le_add_left _ _
    · split
      · exact Nat.zero_le _
      · rename_i hc
        split
        · exact Nat.zero_le _
        · have h1 := linesN_len n (Lib.cut s [10]).2.1 (l ++ [‹Rec›])
          have h2 := (cut_less (s := s) (by simpa using hc)).1
          simp only [List.length_append, List.length_cons, List.length_nil] at h1
          omega
end Go.Proofs.YtmjnkaabooockaaGreatDoor
namespace Go.Proofs.YtmjnkaabooockaaGreatDoor
open Go.Lib
set_option maxHeartbeats 4000000
set_option maxRecDepth 100000
def stepI (d e : Int) (v : Usr) (r : Rec) : Usr × Int := if r.2.1 = 0 then ((learnS v (d, r.2.1, e, r.2.2.2)).1, (learnS v (d, r.2.1, e, r.2.2.2)).2.2) else restS v r
def impL (d e : Int) (u : Usr) : Nat → Usr → List Rec → Usr × Int × Int
  | _, v, [] => (v, (v.1.length : Int) - (u.1.length : Int), 0)
  | i, v, r :: rs => if (stepI d e v r).2 = 0 then impL d e u (i + 1) (stepI d e v r).1 rs else (u, (i : Int), (stepI d e v r).2)
def importS (u : Usr) (s : Str) (d e : Int) : Usr × Int × Int :=
  if d < 0 ∨ 8 ≤ d ∨ e < 0 ∨ 10000 < e then (u, 0, 1)
  else if 0 ≤ (linesE s).2 then (u, (linesE s).2, 3)
  else impL d e u 0 u (linesE s).1
theorem learnS_len (v : Usr) (r : Rec) : (learnS v r).1.1.length ≤ max v.1.length 400 := by
  unfold learnS
  split
  · split
    · exact Nat.le_max_left ..
    · dsimp only
      split
      · exact Nat.le_max_left ..
      · rw [len_insAt (bsI_le _ _ _)]
        omega
  · exact Nat.le_max_left ..
theorem restS_len (v : Usr) (r : Rec) : (restS v r).1.1.length ≤ max v.1.length 400 := by
  unfold restS
  repeat' split
  all_goals first
    | exact Nat.le_max_left ..
    | (dsimp only; rw [len_insAt (bsI_le _ _ _)]; omega)
theorem stepI_len (d e : Int) (v : Usr) (r : Rec) : (stepI d e v r).1.1.length ≤ max v.1.length 400 := by
  unfold stepI
  split
  · exact learnS_len _ _
  · exact restS_len _ _
theorem c_Import (u : Usr) (s : Str) (d e : Int) (hs : s.length ≤ 1000000000) (hu : u.1.length ≤ 1000) : PC env 33 [⟨UserT, u⟩, ⟨.str, s⟩, ⟨.int .i64, d⟩, ⟨.int .i64, e⟩] (.tup UserT (.tup (.int .i64) (.int .i64))) (importS u s d e) := by
  refine PC.of_PW (m := 2000) env_ok fn_33 rfl rfl rfl rfl (by kernel_rfl) ?_; intro hx; simp only [Tryz.f33]; simp only [go_sem, Nat.reduceBEq, ↓reduceIte, ↓reduceDIte, Nat.reduceAdd, Nat.reduceSub, Nat.reduceMul, Nat.reduceLeDiff, ← Bool.decide_and, ← Bool.decide_or, ← decide_not, Int.reduceLT, Int.reduceLE, Int.reduceToNat, Int.reduceNeg, litP, appendC, Int.reduceEq, not_true_eq_false, not_false_eq_true, false_implies, l8Cells]
  have hbad : (d < 0 ∨ 8 ≤ d ∨ e < 0 ∨ 10000 < e) → (u, (0 : Int), (1 : Int)) = importS u s d e := fun h => (if_pos h).symm
  refine ⟨fun h1 => ⟨fun h2 => ⟨fun h3 => ⟨fun h4 => hbad (by omega), fun h4 => ?_⟩, fun h3 => hbad (by omega)⟩, fun h2 => hbad (by omega)⟩, fun h1 => hbad (by omega)⟩
  have hR : importS u s d e = if 0 ≤ (linesE s).2 then (u, (linesE s).2, 3) else impL d e u 0 u (linesE s).1 := if_neg (by omega)
  clear hbad
  rw [hR]
  refine ⟨_, c_lines s hs, fun _ => ⟨fun g => by rw [if_pos g], fun g => ?_⟩⟩
  rw [if_neg g]
  have hl := linesN_len (s.length + 1) s []
  have hsaid := linesN_said (s.length + 1) s [] (by simp)
  change (linesE s).1.length ≤ s.length + 0 at hl
  change ∀ r, r ∈ (linesE s).1 → said r at hsaid
  generalize (linesE s).1 = l at hl hsaid
  clear hR g hx
  refine Walks.loopA (X := Nat × Usr) (fun (z : Nat × Usr) => [(44, .iv (.int .i64) (z.1 : Int))]) (fun (z : Nat × Usr) => [(13, .box [.iv (.sl RecordT) z.2.1, .iv (.sl OrderT) z.2.2.1, .iv (.int .i64) z.2.2.2.1, .iv (.int .i64) z.2.2.2.2.1, .iv (.int .i64) z.2.2.2.2.2.1, .iv (.int .i64) z.2.2.2.2.2.2.1, .iv (.int .i64) z.2.2.2.2.2.2.2.1, .iv (.int .i64) z.2.2.2.2.2.2.2.2.1, .iv (.int .i64) z.2.2.2.2.2.2.2.2.2.1, .iv (.int .i64) z.2.2.2.2.2.2.2.2.2.2])]) (fun (z : Nat × Usr) => z.1 ≤ l.length ∧ z.2.1.length ≤ 1000 ∧ impL d e u z.1 z.2 (l.drop z.1) = impL d e u 0 u l) (fun (z : Nat × Usr) => l.length - z.1) (0, u) ?_; intro b1 b2 hb1 hb2; simp (config := {maxSteps := 4000000}) only [go_sem, Nat.reduceBEq, ↓reduceIte, ↓reduceDIte, Nat.reduceAdd, Nat.reduceSub, Nat.reduceMul, Nat.reduceLeDiff, ← Bool.decide_and, ← Bool.decide_or, ← decide_not, Int.reduceLT, Int.reduceLE, Int.reduceToNat, Int.reduceNeg, litP, appendC, Int.reduceEq, not_true_eq_false, not_false_eq_true, false_implies, l8Cells] at hb1 hb2; subst hb1; subst hb2; refine ⟨(by refine ⟨?_, ?_, rfl, rfl⟩ <;> repeat' (first | exact trivial | exact Or.inl rfl | exact Or.inr rfl | (refine And.intro (Or.inl rfl) ?_) | (refine And.intro (Or.inr (Or.inl rfl)) ?_) | (refine And.intro (Or.inr (Or.inr (Or.inr ⟨rfl, rfl⟩))) ?_) | (refine And.intro (Or.inr (Or.inr (Or.inl ⟨rfl, rfl, trivial⟩))) ?_) | exact ⟨(by show (_ : Nat) < 1000000000; omega), rfl, rfl⟩ | rfl | (refine And.intro (Or.inl ?_) ?_) | (refine And.intro ?_ ?_))), ?_, ?_⟩
  · exact ⟨Nat.zero_le _, hu, rfl⟩
  intro ⟨i, v⟩ ⟨k1, k2, k3⟩ back
  dsimp only at k1 k2 k3
  refine PW_sound env_ok ⟨_, fn_33, rfl⟩ 2000 _ _ (by kernel_rfl) ?_; simp only [go_sem, Nat.reduceBEq, ↓reduceIte, ↓reduceDIte, Nat.reduceAdd, Nat.reduceSub, Nat.reduceMul, Nat.reduceLeDiff, ← Bool.decide_and, ← Bool.decide_or, ← decide_not, Int.reduceLT, Int.reduceLE, Int.reduceToNat, Int.reduceNeg, litP, appendC, Int.reduceEq, not_true_eq_false, not_false_eq_true, false_implies, l8Cells]
  refine ⟨fun hlt => ?_, fun hge => ?_⟩
  · obtain ⟨r, hr⟩ : ∃ r, l[i]? = some r := get_of_lt (by omega)
    rw [drop_cons hr, impL] at k3
    have hlen := stepI_len d e v r
    have hs1 := hsaid r (List.mem_of_getElem? hr)
    refine ⟨Int.natCast_nonneg _, r, hr, fun g0 => ?_, fun g0 => ?_⟩
    · have hst : stepI d e v r = ((learnS v (d, r.2.1, e, r.2.2.2)).1, (learnS v (d, r.2.1, e, r.2.2.2)).2.2) := if_pos g0
      rw [hst] at k3 hlen
      refine ⟨_, c_Learn v (d, r.2.1, e, r.2.2.2), fun _ => ⟨fun g1 => ?_, fun g1 => ?_⟩⟩
      · rw [if_neg g1] at k3
        exact k3
      · rw [if_pos g1] at k3
        exact ⟨i64_ok (by omega) (by omega), back _ (i + 1, (learnS v (d, r.2.1, e, r.2.2.2)).1) (by refine ⟨?_, ?_, rfl, rfl⟩ <;> repeat' (first | exact trivial | exact Or.inl rfl | exact Or.inr rfl | (refine And.intro (Or.inl rfl) ?_) | (refine And.intro (Or.inr (Or.inl rfl)) ?_) | (refine And.intro (Or.inr (Or.inr (Or.inr ⟨rfl, rfl⟩))) ?_) | (refine And.intro (Or.inr (Or.inr (Or.inl ⟨rfl, rfl, trivial⟩))) ?_) | exact ⟨(by show (_ : Nat) < 1000000000; omega), rfl, rfl⟩ | rfl | (refine And.intro (Or.inl ?_) ?_) | (refine And.intro ?_ ?_))) ⟨by dsimp only; omega, by dsimp only at hlen ⊢; omega, k3⟩ (by dsimp only; omega)⟩
    · have hst : stepI d e v r = restS v r := if_neg g0
      rw [hst] at k3 hlen
      have hd : 0 ≤ r.1 ∧ r.1 ≤ 7 := by
        rcases hs1 with h | h
        · exact rec_dev h
        · exact absurd h.1 g0
      refine ⟨_, c_restore v r (by omega) hd, fun _ => ⟨fun g1 => ?_, fun g1 => ?_⟩⟩
      · rw [if_neg g1] at k3
        exact k3
      · rw [if_pos g1] at k3
        exact ⟨i64_ok (by omega) (by omega), back _ (i + 1, (restS v r).1) (by refine ⟨?_, ?_, rfl, rfl⟩ <;> repeat' (first | exact trivial | exact Or.inl rfl | exact Or.inr rfl | (refine And.intro (Or.inl rfl) ?_) | (refine And.intro (Or.inr (Or.inl rfl)) ?_) | (refine And.intro (Or.inr (Or.inr (Or.inr ⟨rfl, rfl⟩))) ?_) | (refine And.intro (Or.inr (Or.inr (Or.inl ⟨rfl, rfl, trivial⟩))) ?_) | exact ⟨(by show (_ : Nat) < 1000000000; omega), rfl, rfl⟩ | rfl | (refine And.intro (Or.inl ?_) ?_) | (refine And.intro ?_ ?_))) ⟨by dsimp only; omega, by dsimp only at hlen ⊢; omega, k3⟩ (by dsimp only; omega)⟩
  · rw [List.drop_of_length_le (by omega), impL] at k3
    rw [← k3]
    exact ⟨i64_ok (by omega) (by omega), rfl⟩
end Go.Proofs.YtmjnkaabooockaaGreatDoor
namespace Go.Proofs.YtmjnkaabooockaaGreatDoor
open Go.Lib
set_option maxHeartbeats 4000000
set_option maxRecDepth 100000
def lead0 (s : Str) : Prop := s[0]? = some 48 ∧ 1 < s.length
instance (s : Str) : Decidable (lead0 s) := inferInstanceAs (Decidable (_ ∧ _))
def numR (s : Str) : Int := if s ≠ [] ∧ s.all dig = true ∧ ¬ lead0 s ∧ valS s ≤ 1000000 then (valS s : Int) else -1
theorem valS_take (s : Str) (i : Nat) : valS (s.take i) ≤ valS s := by
  conv => rhs; rw [← List.take_append_drop i s]
  unfold valS
  rw [List.foldl_append]
  exact val_mono _ _
theorem numR_V {s : Str} {n : Int} (h : numV 0 1000000 s = some n) : numR s = n := by
  unfold numV at h
  split at h
  · rename_i hh
    injection h with h
    obtain ⟨k1, k2, k3⟩ := hh
    simp only [numOK, Bool.and_eq_true, decide_eq_true_eq] at k1
    unfold numR
    rw [if_pos ⟨fun e => by rw [e] at k1; simp at k1, k1.2, k1.1.2.2, by omega⟩, h]
  · cases h
theorem numR_ge {s : Str} (h : 0 ≤ numR s) : numV 0 1000000 s = some (numR s) := by
  unfold numR at h ⊢
  split at h
  case isFalse => omega
  rename_i hh
  rw [if_pos hh]
  obtain ⟨h1, h2, h3, h4⟩ := hh
  have he : decDigits (valS s) = s := dec_val _ s rfl h1 h2 (fun x r he hr => by
    have hx : dig x = true := List.all_eq_true.1 h2 x (by rw [he]; simp)
    simp only [dig, decide_eq_true_eq] at hx
    rcases Nat.lt_or_ge x.toNat 49 with hlt | hge
    · exfalso
      refine h3 ⟨?_, ?_⟩
      · rw [he]
        simp only [List.getElem?_cons_zero, Option.some.injEq]
        exact UInt8.toNat_inj.1 (by rw [show (48 : UInt8).toNat = 48 from rfl]; omega)
      · rw [he]
        cases r
        · exact absurd rfl hr
        · simp
    · exact hge)
  refine (numV_iff (Int.le_refl 0) (by decide)).2 ⟨⟨by omega, by omega⟩, ?_⟩
  rw [itoa_dec (by omega), Int.toNat_natCast, he]
theorem c_Number (s : Str) (hs : s.length ≤ 1000000000) : PC env 46 [⟨.str, s⟩] (.int .i64) (numR s) := by
  refine PC.of_PW (m := 2000) env_ok fn_46 rfl rfl rfl rfl (by kernel_rfl) ?_; intro hx; simp only [Tryz.f46]; simp only [go_sem, Nat.reduceBEq, ↓reduceIte, ↓reduceDIte, Nat.reduceAdd, Nat.reduceSub, Nat.reduceMul, Nat.reduceLeDiff, ← Bool.decide_and, ← Bool.decide_or, ← decide_not, Int.reduceLT, Int.reduceLE, Int.reduceToNat, Int.reduceNeg, by_nil, by32, by10, litP, appendC, Int.reduceEq, not_true_eq_false, not_false_eq_true, false_implies, List.append_assoc]
  refine Walks.loopA (X := Nat) (fun (i : Nat) => [(4, .iv (.int .i64) (i : Int)), (3, .iv (.int .i64) ((valS (s.take i) : Nat) : Int))]) (fun (i : Nat) => []) (fun (i : Nat) => i ≤ s.length ∧ (s.take i).all dig = true ∧ valS (s.take i) ≤ 10000009) (fun (i : Nat) => s.length - i) 0 ?_; intro b1 b2 hb1 hb2; simp (config := {maxSteps := 4000000}) only [go_sem, Nat.reduceBEq, ↓reduceIte, ↓reduceDIte, Nat.reduceAdd, Nat.reduceSub, Nat.reduceMul, Nat.reduceLeDiff, ← Bool.decide_and, ← Bool.decide_or, ← decide_not, Int.reduceLT, Int.reduceLE, Int.reduceToNat, Int.reduceNeg, by_nil, by32, by10, litP, appendC, Int.reduceEq, not_true_eq_false, not_false_eq_true, false_implies, List.append_assoc] at hb1 hb2; subst hb1; subst hb2; refine ⟨(by refine ⟨?_, ?_, rfl, rfl⟩ <;> repeat' (first | exact trivial | exact Or.inl rfl | exact Or.inr rfl | (refine And.intro (Or.inl rfl) ?_) | (refine And.intro (Or.inr (Or.inl rfl)) ?_) | (refine And.intro (Or.inr (Or.inr (Or.inr ⟨rfl, rfl⟩))) ?_) | (refine And.intro (Or.inr (Or.inr (Or.inl ⟨rfl, rfl, trivial⟩))) ?_) | exact ⟨(by show (_ : Nat) < 1000000000; omega), rfl, rfl⟩ | rfl | (refine And.intro (Or.inl ?_) ?_) | (refine And.intro ?_ ?_))), ?_, ?_⟩
  · exact ⟨Nat.zero_le _, rfl, by show (0 : Nat) ≤ _; omega⟩
  intro i ⟨hi, hd, hv⟩ back
  refine PW_sound env_ok ⟨_, fn_46, rfl⟩ 2000 _ _ (by kernel_rfl) ?_; simp only [go_sem, Nat.reduceBEq, ↓reduceIte, ↓reduceDIte, Nat.reduceAdd, Nat.reduceSub, Nat.reduceMul, Nat.reduceLeDiff, ← Bool.decide_and, ← Bool.decide_or, ← decide_not, Int.reduceLT, Int.reduceLE, Int.reduceToNat, Int.reduceNeg, by_nil, by32, by10, litP, appendC, Int.reduceEq, not_true_eq_false, not_false_eq_true, false_implies, List.append_assoc]
  have i0 := Int.natCast_nonneg i
  have hmono := valS_take s i
  refine ⟨fun h1 => ?_, fun h1 => ?_⟩
  · obtain ⟨x, hxi⟩ : ∃ x, s[i]? = some x := get_of_lt (by omega)
    have hno : ¬ (48 ≤ x.toNat ∧ x.toNat ≤ 57) → -1 = numR s := fun h => by
      unfold numR
      rw [if_neg]
      rintro ⟨_, k, _⟩
      have := List.all_eq_true.1 k x (List.mem_of_getElem? hxi)
      simp only [dig, decide_eq_true_eq] at this
      exact h this
    have hbig : 1000000 < valS (s.take i) → -1 = numR s := fun h => by
      unfold numR
      rw [if_neg]
      rintro ⟨_, _, _, k⟩
      omega
    refine ⟨i0, _, ⟨x, hxi, rfl⟩, fun g1 => ?_, fun g1 => hno (by omega)⟩
    refine ⟨i0, _, ⟨x, hxi, rfl⟩, fun g2 => ?_, fun g2 => hno (by omega)⟩
    refine ⟨fun g3 => hbig (by omega), fun g3 => ?_⟩
    have hdx : dig x = true := by simp only [dig, decide_eq_true_eq]; omega
    have hval : (10 * ((valS (s.take i) : Nat) : Int) + ((x.toNat : Int) - 48)) = ((valS (s.take (i + 1)) : Nat) : Int) := by
      rw [take_snoc hxi, valS_snoc]; omega
    refine ⟨i64_ok (by omega) (by omega), i0, _, ⟨x, hxi, rfl⟩, u8_ok (by omega) (by omega), i64_ok (by omega) (by omega), i64_ok (by omega) (by omega), ?_⟩
    rw [hval]
    exact back _ (i + 1) (by refine ⟨?_, ?_, rfl, rfl⟩ <;> repeat' (first | exact trivial | exact Or.inl rfl | exact Or.inr rfl | (refine And.intro (Or.inl rfl) ?_) | (refine And.intro (Or.inr (Or.inl rfl)) ?_) | (refine And.intro (Or.inr (Or.inr (Or.inr ⟨rfl, rfl⟩))) ?_) | (refine And.intro (Or.inr (Or.inr (Or.inl ⟨rfl, rfl, trivial⟩))) ?_) | exact ⟨(by show (_ : Nat) < 1000000000; omega), rfl, rfl⟩ | rfl | (refine And.intro (Or.inl ?_) ?_) | (refine And.intro ?_ ?_))) ⟨by omega, by rw [all_step hxi, hd, hdx]; rfl, by omega⟩ (by omega)
  · have e : s.take i = s := List.take_of_length_le (by omega)
    rw [e] at hd hv ⊢
    have hyes : s ≠ [] → ¬ lead0 s → valS s ≤ 1000000 → ((valS s : Nat) : Int) = numR s := fun k1 k2 k3 => by
      unfold numR
      rw [if_pos ⟨k1, hd, k2, k3⟩]
    have hno : (s = [] ∨ lead0 s ∨ 1000000 < valS s) → -1 = numR s := fun h => by
      unfold numR
      rw [if_neg]
      rintro ⟨k1, _, k2, k3⟩
      rcases h with h | h | h
      · exact k1 h
      · exact k2 h
      · omega
    refine ⟨fun g1 => ?_, fun g1 => hno (.inl (List.length_eq_zero_iff.1 (by omega)))⟩
    have hne : s ≠ [] := fun h => g1 (by rw [h]; rfl)
    refine ⟨fun g2 => ?_, fun g2 => ?_⟩
    · obtain ⟨x, hx0⟩ : ∃ x, s[0]? = some x := get_of_lt (by omega)
      refine ⟨_, ⟨x, hx0, rfl⟩, fun g3 => ⟨fun g4 => hno (.inr (.inr (by omega))), fun g4 => hyes hne (fun h => g3 ?_) (by omega)⟩, fun g3 => ?_⟩
      · have := h.1
        rw [hx0] at this
        injection this with this
        rw [this]
        rfl
      · refine hno (.inr (.inl ⟨?_, by omega⟩))
        rw [hx0]
        congr 1
        exact UInt8.toNat_inj.1 (by rw [show (48 : UInt8).toNat = 48 from rfl]; omega)
    · refine ⟨fun g4 => hno (.inr (.inr (by omega))), fun g4 => hyes hne (fun h => g2 ?_) (by omega)⟩
      have := h.2
      omega
def recR (l : List Str) : Rec := (numR (l.getD 0 []), numR (l.getD 1 []), numR (l.getD 2 []), l.getD 3 [], numR (l.getD 4 []), numR (l.getD 5 []))
def parseR (s : Str) : Rec × Int := if (spl 32 s).length = 6 ∧ rightR (recR (spl 32 s)) = true then (recR (spl 32 s), 0) else (zR, 3)
theorem spl_len : ∀ (s : Str) (x : Str), x ∈ spl 32 s → x.length ≤ s.length := by
  intro s
  induction hn : s.length using Nat.strongRecOn generalizing s with
  | _ n ih =>
    intro x hx
    rcases first_c 32 s with h | ⟨y, t, rfl, h⟩
    · rw [spl_no 32 h] at hx
      rw [List.mem_singleton.1 hx]
      omega
    · rw [spl_cons 32 t h] at hx
      simp only [List.length_append, List.length_cons] at hn
      rcases List.mem_cons.1 hx with rfl | hx
      · omega
      · have := ih t.length (by omega) t rfl x hx
        omega
theorem c_ParseR (s : Str) (hs : s.length ≤ 1000000000) : PC env 22 [⟨.str, s⟩] (.tup RecordT (.int .i64)) (parseR s) := by
  refine PC.of_PW (m := 2000) env_ok fn_22 rfl rfl rfl rfl (by kernel_rfl) ?_; intro hx; simp only [Tryz.f22]; simp only [go_sem, Nat.reduceBEq, ↓reduceIte, ↓reduceDIte, Nat.reduceAdd, Nat.reduceSub, Nat.reduceMul, Nat.reduceLeDiff, ← Bool.decide_and, ← Bool.decide_or, ← decide_not, Int.reduceLT, Int.reduceLE, Int.reduceToNat, Int.reduceNeg, by_nil, by32, by10, litP, appendC, Int.reduceEq, not_true_eq_false, not_false_eq_true, false_implies, List.append_assoc]
  refine ⟨_, c_SplitR s 32 hs, fun _ => ⟨fun g => ?_, fun g => ?_⟩⟩
  · unfold parseR
    rw [if_neg (fun h => g (by rw [h.1]; rfl))]
    rfl
  · have hlen := spl_len s
    unfold parseR
    generalize spl 32 s = l at g hlen
    rcases l with _ | ⟨a, _ | ⟨b, _ | ⟨c, _ | ⟨d, _ | ⟨e, _ | ⟨f, _ | ⟨g', l⟩⟩⟩⟩⟩⟩⟩
    all_goals first
      | (exfalso; simp only [List.length_cons, List.length_nil] at g; omega)
      | skip
    have q : ∀ x, x ∈ [a, b, c, d, e, f] → x.length ≤ 1000000000 := fun x hx => Nat.le_trans (hlen x hx) hs
    refine ⟨a, rfl, _, c_Number a (q a (by simp)), fun _ => ⟨b, rfl, _, c_Number b (q b (by simp)), fun _ => ⟨c, rfl, _, c_Number c (q c (by simp)), fun _ => ⟨d, rfl, e, rfl, _, c_Number e (q e (by simp)), fun _ => ⟨f, rfl, _, c_Number f (q f (by simp)), fun _ => ⟨_, c_Right _, ?_⟩⟩⟩⟩⟩⟩
    show PB _ _ _ (.iv .bool (!(rightR (recR [a, b, c, d, e, f])))) _ _ _ _
    cases hr : rightR (recR [a, b, c, d, e, f])
    · simp only [go_sem, Nat.reduceBEq, ↓reduceIte, ↓reduceDIte, Nat.reduceAdd, Nat.reduceSub, Nat.reduceMul, Nat.reduceLeDiff, ← Bool.decide_and, ← Bool.decide_or, ← decide_not, Int.reduceLT, Int.reduceLE, Int.reduceToNat, Int.reduceNeg, by_nil, by32, by10, litP, appendC, Int.reduceEq, not_true_eq_false, not_false_eq_true, false_implies, List.append_assoc]
      simp [zR]
    · simp only [go_sem, Nat.reduceBEq, ↓reduceIte, ↓reduceDIte, Nat.reduceAdd, Nat.reduceSub, Nat.reduceMul, Nat.reduceLeDiff, ← Bool.decide_and, ← Bool.decide_or, ← decide_not, Int.reduceLT, Int.reduceLE, Int.reduceToNat, Int.reduceNeg, by_nil, by32, by10, litP, appendC, Int.reduceEq, not_true_eq_false, not_false_eq_true, false_implies, List.append_assoc]
      simp [recR]
theorem parse_same (s : Str) : parseR s = parseE s := by
  unfold parseR parseE
  cases h : readV recFs zR s with
  | some r =>
    obtain ⟨h1, rfl⟩ := (parse_iff _ _).1 h
    obtain ⟨k1, k2, k3, k4, k5, k6⟩ := right_nums h1
    have hs := spl_line h1
    have e : recR (spl 32 (lineE r)) = r := by
      rw [hs]
      unfold recR
      have q1 : numR (itoa r.1) = r.1 := numR_V ((numV_iff (Int.le_refl 0) (by decide)).2 ⟨⟨by omega, by omega⟩, rfl⟩)
      have q2 : numR (itoa r.2.1) = r.2.1 := numR_V ((numV_iff (Int.le_refl 0) (by decide)).2 ⟨⟨by omega, by omega⟩, rfl⟩)
      have q3 : numR (itoa r.2.2.1) = r.2.2.1 := numR_V ((numV_iff (Int.le_refl 0) (by decide)).2 ⟨⟨by omega, by omega⟩, rfl⟩)
      have q5 : numR (itoa r.2.2.2.2.1) = r.2.2.2.2.1 := numR_V ((numV_iff (Int.le_refl 0) (by decide)).2 ⟨⟨by omega, by omega⟩, rfl⟩)
      have q6 : numR (itoa r.2.2.2.2.2) = r.2.2.2.2.2 := numR_V ((numV_iff (Int.le_refl 0) (by decide)).2 ⟨⟨by omega, by omega⟩, rfl⟩)
      simp only [List.getD_cons_zero, List.getD_cons_succ, q1, q2, q3, q5, q6]
    rw [e, if_pos ⟨by rw [hs]; rfl, h1⟩]
  | none =>
    rw [if_neg]
    rintro ⟨h1, h2⟩
    have hx : lineE (recR (spl 32 s)) = s := by
      obtain ⟨k1, k2, k3, k4, k5, k6⟩ := right_nums h2
      conv => rhs; rw [← joinC_spl 32 s]
      generalize spl 32 s = l at h1 k1 k2 k3 k4 k5 k6
      rcases l with _ | ⟨a, _ | ⟨b, _ | ⟨c, _ | ⟨d, _ | ⟨e, _ | ⟨f, _ | ⟨g', l⟩⟩⟩⟩⟩⟩⟩
      all_goals first
        | (exfalso; simp only [List.length_cons, List.length_nil] at h1; omega)
        | skip
      have num : ∀ x : Str, 0 ≤ numR x → itoa (numR x) = x := fun x h => ((numV_iff (Int.le_refl 0) (by decide)).1 (numR_ge h)).2.symm
      simp only [recR, List.getD_cons_zero, List.getD_cons_succ] at k1 k2 k3 k5 k6
      unfold lineE
      simp only [recR, List.getD_cons_zero, List.getD_cons_succ]
      rw [num a (by omega), num b (by omega), num c (by omega), num e (by omega), num f (by omega)]
    rw [(parse_iff s _).2 ⟨h2, hx⟩] at h
    cases h
def listT (l : List (Int × Int)) : Str := (l.map fun p => listE (rawW p.1) (1 + p.2) ++ [10]).flatten
theorem flat_step {α : Type} {l : List α} {k : Nat} {x : α} (f : α → Str) (h : l[k]? = some x) : ((l.take (k + 1)).map f).flatten = ((l.take k).map f).flatten ++ f x := by
  rw [take_snoc h]
  simp
theorem flat_len {α : Type} (f : α → Str) (b : Nat) : ∀ (l : List α), (∀ x, x ∈ l → (f x).length ≤ b) → ((l.map f).flatten).length ≤ b * l.length
  | [], _ => by simp
  | a :: l, h => by
    have h1 := flat_len f b l (fun x hx => h x (by simp [hx]))
    have h2 := h a (by simp)
    simp only [List.map_cons, List.flatten_cons, List.length_append, List.length_cons, Nat.mul_succ]
    omega
theorem rawW_len (n : Int) : (rawW n).length ≤ 2 := by
  unfold rawW fourW
  have h4 : n % 4 = 0 ∨ n % 4 = 1 ∨ n % 4 = 2 ∨ n % 4 = 3 := by omega
  rcases h4 with h | h | h | h <;> rw [h] <;> decide
theorem c_List (l : List (Int × Int)) (n : Int) (h0 : 0 ≤ n) (hn : n ≤ 100) : PC env 23 [⟨.sl (.st (.pair (.int .u8) (.int .u8))), l⟩, ⟨.int .i64, n⟩] .str (listT (l.take n.toNat)) := by
  refine PC.of_PW (m := 2000) env_ok fn_23 rfl rfl rfl rfl (by kernel_rfl) ?_; intro hx; simp only [Tryz.f23]; simp only [go_sem, Nat.reduceBEq, ↓reduceIte, ↓reduceDIte, Nat.reduceAdd, Nat.reduceSub, Nat.reduceMul, Nat.reduceLeDiff, ← Bool.decide_and, ← Bool.decide_or, ← decide_not, Int.reduceLT, Int.reduceLE, Int.reduceToNat, Int.reduceNeg, by_nil, by32, by10, litP, appendC, Int.reduceEq, not_true_eq_false, not_false_eq_true, false_implies, List.append_assoc]
  refine Walks.loopA (X := Nat) (fun (i : Nat) => [(6, .iv (.int .i64) (i : Int)), (5, .iv .str (listT (l.take i)))]) (fun (i : Nat) => []) (fun (i : Nat) => i ≤ l.length ∧ i ≤ n.toNat) (fun (i : Nat) => n.toNat - i) 0 ?_; intro b1 b2 hb1 hb2; simp (config := {maxSteps := 4000000}) only [go_sem, Nat.reduceBEq, ↓reduceIte, ↓reduceDIte, Nat.reduceAdd, Nat.reduceSub, Nat.reduceMul, Nat.reduceLeDiff, ← Bool.decide_and, ← Bool.decide_or, ← decide_not, Int.reduceLT, Int.reduceLE, Int.reduceToNat, Int.reduceNeg, by_nil, by32, by10, litP, appendC, Int.reduceEq, not_true_eq_false, not_false_eq_true, false_implies, List.append_assoc] at hb1 hb2; subst hb1; subst hb2; refine ⟨(by refine ⟨?_, ?_, rfl, rfl⟩ <;> repeat' (first | exact trivial | exact Or.inl rfl | exact Or.inr rfl | (refine And.intro (Or.inl rfl) ?_) | (refine And.intro (Or.inr (Or.inl rfl)) ?_) | (refine And.intro (Or.inr (Or.inr (Or.inr ⟨rfl, rfl⟩))) ?_) | (refine And.intro (Or.inr (Or.inr (Or.inl ⟨rfl, rfl, trivial⟩))) ?_) | exact ⟨(by show (_ : Nat) < 1000000000; omega), rfl, rfl⟩ | rfl | (refine And.intro (Or.inl ?_) ?_) | (refine And.intro ?_ ?_))), ?_, ?_⟩
  · exact ⟨Nat.zero_le _, Nat.zero_le _⟩
  have hlen : ∀ x, x ∈ l → ((0 ≤ x.1 ∧ x.1 ≤ 255) ∧ (0 ≤ x.2 ∧ x.2 ≤ 255)) ∧ (listE (rawW x.1) (1 + x.2) ++ [10]).length ≤ 20 := fun x hxm => by
    have hb := hx.1.2 x hxm
    have hb1 := u8_of hb.1
    have hb2 := u8_of hb.2
    have := itoa_len7 (n := 1 + x.2) (by omega) (by omega)
    have := rawW_len x.1
    refine ⟨⟨hb1, hb2⟩, ?_⟩
    simp only [listE, List.length_append, List.length_cons, List.length_nil]
    omega
  clear hx
  intro i ⟨h1, h2⟩ back
  refine PW_sound env_ok ⟨_, fn_23, rfl⟩ 2000 _ _ (by kernel_rfl) ?_; simp only [go_sem, Nat.reduceBEq, ↓reduceIte, ↓reduceDIte, Nat.reduceAdd, Nat.reduceSub, Nat.reduceMul, Nat.reduceLeDiff, ← Bool.decide_and, ← Bool.decide_or, ← decide_not, Int.reduceLT, Int.reduceLE, Int.reduceToNat, Int.reduceNeg, by_nil, by32, by10, litP, appendC, Int.reduceEq, not_true_eq_false, not_false_eq_true, false_implies, List.append_assoc]
  refine ⟨fun h3 => ⟨fun h4 => ?_, fun h4 => ?_⟩, fun h3 => ?_⟩
  · obtain ⟨x, hxi⟩ : ∃ x, l[i]? = some x := get_of_lt (by omega)
    have hxm := hlen x (List.mem_of_getElem? hxi)
    have i0 := Int.natCast_nonneg i
    have hl := flat_len (fun p : Int × Int => listE (rawW p.1) (1 + p.2) ++ [10]) 20 (l.take i) (fun y hy => (hlen y (List.mem_of_mem_take hy)).2)
    rw [List.length_take, Nat.min_eq_left h1] at hl
    change (listT (l.take i)).length ≤ _ at hl
    have hst : listT (l.take (i + 1)) = listT (l.take i) ++ (listE (rawW x.1) (1 + x.2) ++ [10]) := flat_step _ hxi
    have hl2 := hxm.2
    simp only [listE, List.length_append, List.length_cons, List.length_nil] at hl2
    have hst2 : listT (l.take i) ++ (rawW x.1 ++ 32 :: (itoa (1 + x.2) ++ [10])) = listT (l.take (i + 1)) := by rw [hst]; simp [listE]
    refine ⟨i0, x, hxi, _, c_WordR x.1, fun _ => ⟨by omega, i0, x, hxi, i64_ok (by omega) (by omega), _, c_Decimal (n := 1 + x.2) (by omega) (by omega), fun _ => ?_⟩⟩
    simp only [List.length_append, List.length_cons, List.length_nil]
    refine ⟨by omega, by omega, by omega, i64_ok (by omega) (by omega), ?_⟩
    rw [hst2]
    exact back _ (i + 1) (by refine ⟨?_, ?_, rfl, rfl⟩ <;> repeat' (first | exact trivial | exact Or.inl rfl | exact Or.inr rfl | (refine And.intro (Or.inl rfl) ?_) | (refine And.intro (Or.inr (Or.inl rfl)) ?_) | (refine And.intro (Or.inr (Or.inr (Or.inr ⟨rfl, rfl⟩))) ?_) | (refine And.intro (Or.inr (Or.inr (Or.inl ⟨rfl, rfl, trivial⟩))) ?_) | exact ⟨(by show (_ : Nat) < 1000000000; omega), rfl, rfl⟩ | rfl | (refine And.intro (Or.inl ?_) ?_) | (refine And.intro ?_ ?_))) ⟨by omega, by omega⟩ (by omega)
  · have e : i = n.toNat := by omega
    rw [← e]
  · have e : l.take n.toNat = l.take i := by rw [List.take_of_length_le (by omega), List.take_of_length_le (by omega)]
    rw [e]
def lineR (x : Raw6) : Rec := ((recS x).1, 1 + x.1 % 9, (recS x).2.2)
def linesT (l : List Raw6) : Str := (l.map fun x => lineE (lineR x) ++ [10]).flatten
theorem lineR_right {x : Raw6} (h : RawT.ok x) : rightR (lineR x) = true := rightR_at (recS_right h) (by have := (raw_pos h).1; omega) (by have := (raw_pos h).1; omega)
theorem c_Lines (l : List Raw6) (n : Int) (h0 : 0 ≤ n) (hn : n ≤ 100) : PC env 27 [⟨.sl RawT, l⟩, ⟨.int .i64, n⟩] .str (linesT (l.take n.toNat)) := by
  refine PC.of_PW (m := 2000) env_ok fn_27 rfl rfl rfl rfl (by kernel_rfl) ?_; intro hx; simp only [Tryz.f27]; simp only [go_sem, Nat.reduceBEq, ↓reduceIte, ↓reduceDIte, Nat.reduceAdd, Nat.reduceSub, Nat.reduceMul, Nat.reduceLeDiff, ← Bool.decide_and, ← Bool.decide_or, ← decide_not, Int.reduceLT, Int.reduceLE, Int.reduceToNat, Int.reduceNeg, by_nil, by32, by10, litP, appendC, Int.reduceEq, not_true_eq_false, not_false_eq_true, false_implies, List.append_assoc]
  have hR : ∀ x, x ∈ l → RawT.ok x := hx.1.2
  clear hx
  refine Walks.loopA (X := Nat) (fun (i : Nat) => [(6, .iv (.int .i64) (i : Int)), (5, .iv .str (linesT (l.take i)))]) (fun (i : Nat) => []) (fun (i : Nat) => i ≤ l.length ∧ i ≤ n.toNat) (fun (i : Nat) => n.toNat - i) 0 ?_; intro b1 b2 hb1 hb2; simp (config := {maxSteps := 4000000}) only [go_sem, Nat.reduceBEq, ↓reduceIte, ↓reduceDIte, Nat.reduceAdd, Nat.reduceSub, Nat.reduceMul, Nat.reduceLeDiff, ← Bool.decide_and, ← Bool.decide_or, ← decide_not, Int.reduceLT, Int.reduceLE, Int.reduceToNat, Int.reduceNeg, by_nil, by32, by10, litP, appendC, Int.reduceEq, not_true_eq_false, not_false_eq_true, false_implies, List.append_assoc] at hb1 hb2; subst hb1; subst hb2; refine ⟨(by refine ⟨?_, ?_, rfl, rfl⟩ <;> repeat' (first | exact trivial | exact Or.inl rfl | exact Or.inr rfl | (refine And.intro (Or.inl rfl) ?_) | (refine And.intro (Or.inr (Or.inl rfl)) ?_) | (refine And.intro (Or.inr (Or.inr (Or.inr ⟨rfl, rfl⟩))) ?_) | (refine And.intro (Or.inr (Or.inr (Or.inl ⟨rfl, rfl, trivial⟩))) ?_) | exact ⟨(by show (_ : Nat) < 1000000000; omega), rfl, rfl⟩ | rfl | (refine And.intro (Or.inl ?_) ?_) | (refine And.intro ?_ ?_))), ?_, ?_⟩
  · exact ⟨Nat.zero_le _, Nat.zero_le _⟩
  intro i ⟨h1, h2⟩ back
  refine PW_sound env_ok ⟨_, fn_27, rfl⟩ 2000 _ _ (by kernel_rfl) ?_; simp only [go_sem, Nat.reduceBEq, ↓reduceIte, ↓reduceDIte, Nat.reduceAdd, Nat.reduceSub, Nat.reduceMul, Nat.reduceLeDiff, ← Bool.decide_and, ← Bool.decide_or, ← decide_not, Int.reduceLT, Int.reduceLE, Int.reduceToNat, Int.reduceNeg, by_nil, by32, by10, litP, appendC, Int.reduceEq, not_true_eq_false, not_false_eq_true, false_implies, List.append_assoc]
  refine ⟨fun h3 => ⟨fun h4 => ?_, fun h4 => ?_⟩, fun h3 => ?_⟩
  · obtain ⟨x, hxi⟩ : ∃ x, l[i]? = some x := get_of_lt (by omega)
    have hxo := hR x (List.mem_of_getElem? hxi)
    have hp := (raw_pos hxo).1
    have i0 := Int.natCast_nonneg i
    have hl := flat_len (fun x => lineE (lineR x) ++ [10]) 61 (l.take i) (fun y hy => by
      have := line_len (lineR_right (hR y (List.mem_of_mem_take hy)))
      simp only [List.length_append, List.length_cons, List.length_nil]; omega)
    rw [List.length_take, Nat.min_eq_left h1] at hl
    change (linesT (l.take i)).length ≤ _ at hl
    have hll := line_len (lineR_right hxo)
    have hst : linesT (l.take i) ++ (lineE (lineR x) ++ [10]) = linesT (l.take (i + 1)) := (flat_step _ hxi).symm
    have hm : Int.tmod x.1 9 = x.1 % 9 := Int.tmod_eq_emod_of_nonneg hp
    refine ⟨i0, x, hxi, _, c_Record x, fun _ => ⟨i0, x, hxi, ?_⟩⟩
    rw [hm]
    refine ⟨i64_ok (by omega) (by omega), _, c_Line2 (lineR x) (lineR_right hxo), fun _ => ?_⟩
    simp only [List.length_append, List.length_cons, List.length_nil]
    refine ⟨by omega, by omega, i64_ok (by omega) (by omega), ?_⟩
    rw [hst]
    exact back _ (i + 1) (by refine ⟨?_, ?_, rfl, rfl⟩ <;> repeat' (first | exact trivial | exact Or.inl rfl | exact Or.inr rfl | (refine And.intro (Or.inl rfl) ?_) | (refine And.intro (Or.inr (Or.inl rfl)) ?_) | (refine And.intro (Or.inr (Or.inr (Or.inr ⟨rfl, rfl⟩))) ?_) | (refine And.intro (Or.inr (Or.inr (Or.inl ⟨rfl, rfl, trivial⟩))) ?_) | exact ⟨(by show (_ : Nat) < 1000000000; omega), rfl, rfl⟩ | rfl | (refine And.intro (Or.inl ?_) ?_) | (refine And.intro ?_ ?_))) ⟨by omega, by omega⟩ (by omega)
  · have e : i = n.toNat := by omega
    rw [← e]
  · have e : l.take n.toNat = l.take i := by rw [List.take_of_length_le (by omega), List.take_of_length_le (by omega)]
    rw [e]
end Go.Proofs.YtmjnkaabooockaaGreatDoor
namespace Go.Proofs.YtmjnkaabooockaaGreatDoor
open Go.Lib
set_option maxHeartbeats 4000000
set_option maxRecDepth 100000
def textX (l : List Rec) : Str := (l.map fun r => lineE r ++ [10]).flatten
theorem h_Clone0 : HC env 51 [.iv (.sl RecordT) []] [] (.iv (.sl RecordT) []) [] := by
  refine HC.of_PW (m := 2000) env_ok fn_51 rfl rfl rfl rfl (by kernel_rfl) ?_; intro hx hbl; simp only [Tryz.f51]; simp only [go_sem, Nat.reduceBEq, ↓reduceIte, ↓reduceDIte, Nat.reduceAdd, Nat.reduceSub, Nat.reduceMul, Nat.reduceLeDiff, ← Bool.decide_and, ← Bool.decide_or, ← decide_not, Int.reduceLT, Int.reduceLE, Int.reduceToNat, Int.reduceNeg, St.ren, permF, by_nil, by32, by10, litP, appendC, Int.reduceEq, not_true_eq_false, not_false_eq_true, false_implies, List.append_assoc]
  intro b hb
  cases b
  · simp only [go_sem, Nat.reduceBEq, ↓reduceIte, ↓reduceDIte, Nat.reduceAdd, Nat.reduceSub, Nat.reduceMul, Nat.reduceLeDiff, ← Bool.decide_and, ← Bool.decide_or, ← decide_not, Int.reduceLT, Int.reduceLE, Int.reduceToNat, Int.reduceNeg, St.ren, permF, by_nil, by32, by10, litP, appendC, Int.reduceEq, not_true_eq_false, not_false_eq_true, false_implies, List.append_assoc]
  · simp only [go_sem, Nat.reduceBEq, ↓reduceIte, ↓reduceDIte, Nat.reduceAdd, Nat.reduceSub, Nat.reduceMul, Nat.reduceLeDiff, ← Bool.decide_and, ← Bool.decide_or, ← decide_not, Int.reduceLT, Int.reduceLE, Int.reduceToNat, Int.reduceNeg, St.ren, permF, by_nil, by32, by10, litP, appendC, Int.reduceEq, not_true_eq_false, not_false_eq_true, false_implies, List.append_assoc]
theorem h_insE : HC env 98 [.iv (.sl RecordT) [], .iv (.int .i64) (0 : Int), .iv (.int .i64) (0 : Int), .iv (.clo 53 .unit) ()] [] (.tup []) [] := by
  refine HC.of_PW (m := 2000) env_ok fn_98 rfl rfl rfl rfl (by kernel_rfl) ?_; intro hx hbl; simp only [Tryz.f98]; simp only [go_sem, Nat.reduceBEq, ↓reduceIte, ↓reduceDIte, Nat.reduceAdd, Nat.reduceSub, Nat.reduceMul, Nat.reduceLeDiff, ← Bool.decide_and, ← Bool.decide_or, ← decide_not, Int.reduceLT, Int.reduceLE, Int.reduceToNat, Int.reduceNeg, St.ren, permF, by_nil, by32, by10, litP, appendC, Int.reduceEq, not_true_eq_false, not_false_eq_true, false_implies, List.append_assoc]
  refine ⟨by omega, ?_⟩
  refine Walks.loopW (X := Unit) (fun _ => ⟨[(8, .iv (.int .i64) (1 : Int)), (0, .iv (.sl RecordT) []), (1, .iv (.int .i64) (0 : Int)), (2, .iv (.int .i64) (0 : Int))], []⟩) (fun _ => True) (fun _ => 0) () ⟨⟨Or.inl rfl, Or.inl rfl, Or.inl rfl, Or.inl rfl, trivial⟩, trivial, rfl, rfl⟩ trivial ?_
  intro _ _ back
  refine PW_sound env_ok ⟨_, fn_98, rfl⟩ 2000 _ _ (by kernel_rfl) ?_; simp only [go_sem, Nat.reduceBEq, ↓reduceIte, ↓reduceDIte, Nat.reduceAdd, Nat.reduceSub, Nat.reduceMul, Nat.reduceLeDiff, ← Bool.decide_and, ← Bool.decide_or, ← decide_not, Int.reduceLT, Int.reduceLE, Int.reduceToNat, Int.reduceNeg, St.ren, permF, by_nil, by32, by10, litP, appendC, Int.reduceEq, not_true_eq_false, not_false_eq_true, false_implies, List.append_assoc]
theorem h_pdqE (b : Int) : HC env 76 [.iv (.sl RecordT) [], .iv (.int .i64) (0 : Int), .iv (.int .i64) (0 : Int), .iv (.int .i64) b, .iv (.clo 53 .unit) ()] [] (.tup []) [] := by
  refine HC.of_PW (m := 2000) env_ok fn_76 rfl rfl rfl rfl (by kernel_rfl) ?_; intro hx hbl; simp only [Tryz.f76]; simp only [go_sem, Nat.reduceBEq, ↓reduceIte, ↓reduceDIte, Nat.reduceAdd, Nat.reduceSub, Nat.reduceMul, Nat.reduceLeDiff, ← Bool.decide_and, ← Bool.decide_or, ← decide_not, Int.reduceLT, Int.reduceLE, Int.reduceToNat, Int.reduceNeg, St.ren, permF, by_nil, by32, by10, litP, appendC, Int.reduceEq, not_true_eq_false, not_false_eq_true, false_implies, List.append_assoc]
  refine Walks.loopW (X := Unit) (fun _ => ⟨[(0, .iv (.sl RecordT) []), (1, .iv (.int .i64) (0 : Int)), (2, .iv (.int .i64) (0 : Int)), (4, .fn 53 [])], []⟩) (fun _ => True) (fun _ => 0) () ⟨⟨Or.inl rfl, Or.inl rfl, Or.inl rfl, Or.inl rfl, trivial⟩, trivial, rfl, rfl⟩ trivial ?_
  intro _ _ back
  refine PW_sound env_ok ⟨_, fn_76, rfl⟩ 2000 _ _ (by kernel_rfl) ?_; simp only [go_sem, Nat.reduceBEq, ↓reduceIte, ↓reduceDIte, Nat.reduceAdd, Nat.reduceSub, Nat.reduceMul, Nat.reduceLeDiff, ← Bool.decide_and, ← Bool.decide_or, ← decide_not, Int.reduceLT, Int.reduceLE, Int.reduceToNat, Int.reduceNeg, St.ren, permF, by_nil, by32, by10, litP, appendC, Int.reduceEq, not_true_eq_false, not_false_eq_true, false_implies, List.append_assoc]
  refine ⟨by omega, fun _ => ⟨_, _, h_insE, ?_⟩, fun g => absurd g (by omega)⟩
  simp only [go_sem, Nat.reduceBEq, ↓reduceIte, ↓reduceDIte, Nat.reduceAdd, Nat.reduceSub, Nat.reduceMul, Nat.reduceLeDiff, ← Bool.decide_and, ← Bool.decide_or, ← decide_not, Int.reduceLT, Int.reduceLE, Int.reduceToNat, Int.reduceNeg, St.ren, permF, by_nil, by32, by10, litP, appendC, Int.reduceEq, not_true_eq_false, not_false_eq_true, false_implies, List.append_assoc]
  exact fun _ => trivial
theorem h_SortE : HC env 52 [.iv (.sl RecordT) [], .iv (.clo 53 .unit) ()] [] (.tup []) [] := by
  refine HC.of_PW (m := 2000) env_ok fn_52 rfl rfl rfl rfl (by kernel_rfl) ?_; intro hx hbl; simp only [Tryz.f52]; simp only [go_sem, Nat.reduceBEq, ↓reduceIte, ↓reduceDIte, Nat.reduceAdd, Nat.reduceSub, Nat.reduceMul, Nat.reduceLeDiff, ← Bool.decide_and, ← Bool.decide_or, ← decide_not, Int.reduceLT, Int.reduceLE, Int.reduceToNat, Int.reduceNeg, St.ren, permF, by_nil, by32, by10, litP, appendC, Int.reduceEq, not_true_eq_false, not_false_eq_true, false_implies, List.append_assoc]
  have hw : IntKind.u64.wrap 0 = 0 := rfl
  rw [hw]
  refine ⟨_, c_Len _ (by omega) (by omega), fun _ => ⟨_, _, h_pdqE _, ?_⟩⟩
  simp only [go_sem, Nat.reduceBEq, ↓reduceIte, ↓reduceDIte, Nat.reduceAdd, Nat.reduceSub, Nat.reduceMul, Nat.reduceLeDiff, ← Bool.decide_and, ← Bool.decide_or, ← decide_not, Int.reduceLT, Int.reduceLE, Int.reduceToNat, Int.reduceNeg, St.ren, permF, by_nil, by32, by10, litP, appendC, Int.reduceEq, not_true_eq_false, not_false_eq_true, false_implies, List.append_assoc]
  exact fun _ => trivial
theorem c_SeenE (u : Usr) (h : u.1 = []) : PC env 29 [⟨UserT, u⟩] (.sl RecordT) (seenS u.1) := by
  refine PC.of_PW (m := 2000) env_ok fn_29 rfl rfl rfl rfl (by kernel_rfl) ?_; intro hx; simp only [Tryz.f29]; simp only [go_sem, Nat.reduceBEq, ↓reduceIte, ↓reduceDIte, Nat.reduceAdd, Nat.reduceSub, Nat.reduceMul, Nat.reduceLeDiff, ← Bool.decide_and, ← Bool.decide_or, ← decide_not, Int.reduceLT, Int.reduceLE, Int.reduceToNat, Int.reduceNeg, St.ren, permF, by_nil, by32, by10, litP, appendC, Int.reduceEq, not_true_eq_false, not_false_eq_true, false_implies, List.append_assoc]
  rw [h]
  refine ⟨_, _, h_Clone0, ?_⟩
  simp only [go_sem, Nat.reduceBEq, ↓reduceIte, ↓reduceDIte, Nat.reduceAdd, Nat.reduceSub, Nat.reduceMul, Nat.reduceLeDiff, ← Bool.decide_and, ← Bool.decide_or, ← decide_not, Int.reduceLT, Int.reduceLE, Int.reduceToNat, Int.reduceNeg, St.ren, permF, by_nil, by32, by10, litP, appendC, Int.reduceEq, not_true_eq_false, not_false_eq_true, false_implies, List.append_assoc]
  intro _ _
  refine ⟨_, _, h_SortE, ?_⟩
  simp only [go_sem, Nat.reduceBEq, ↓reduceIte, ↓reduceDIte, Nat.reduceAdd, Nat.reduceSub, Nat.reduceMul, Nat.reduceLeDiff, ← Bool.decide_and, ← Bool.decide_or, ← decide_not, Int.reduceLT, Int.reduceLE, Int.reduceToNat, Int.reduceNeg, St.ren, permF, by_nil, by32, by10, litP, appendC, Int.reduceEq, not_true_eq_false, not_false_eq_true, false_implies, List.append_assoc]
  exact fun _ => rfl
theorem c_SeenA (u : Usr) (hl : u.1.length ≤ 12) : PC env 29 [⟨UserT, u⟩] (.sl RecordT) (seenS u.1) := by
  by_cases h : u.1 = []
  · exact c_SeenE u h
  · exact c_Seen u h hl
theorem h_byteU (bs : List Int) (c : Int) (hs : bs.length ≤ 1000000000) : HC env 31 [.ref 1000000000 0, .iv (.int .u8) c] [(1000000000, .box [.ref 1000000000 0, .lfull 1000000001] (some 73)), (1000000001, .arr (.int .u8) bs (some 5))] .any [(1000000000, .box [.ref 1000000000 0, .lfull 14] (some 73)), (14, .arr (.int .u8) (bs ++ [c]) (some 5))] := by
  refine HC.of_PW (m := 2000) env_ok fn_31 rfl rfl rfl rfl (by kernel_rfl) ?_; intro hx hbl; simp only [Tryz.f31]; simp (config := {maxSteps := 4000000}) only [go_sem, Nat.reduceBEq, ↓reduceIte, ↓reduceDIte, Nat.reduceAdd, Nat.reduceSub, Nat.reduceMul, Nat.reduceLeDiff, ← Bool.decide_and, ← Bool.decide_or, ← decide_not, Int.reduceLT, Int.reduceLE, Int.reduceToNat, Int.reduceNeg, St.ren, permF, by_nil, by32, by10, litP, appendC, Int.reduceEq, not_true_eq_false, not_false_eq_true, false_implies, List.append_assoc]
  refine ⟨_, _, h_copyU _ _, rfl, ?_⟩
  simp (config := {maxSteps := 4000000}) only [go_sem, Nat.reduceBEq, ↓reduceIte, ↓reduceDIte, Nat.reduceAdd, Nat.reduceSub, Nat.reduceMul, Nat.reduceLeDiff, ← Bool.decide_and, ← Bool.decide_or, ← decide_not, Int.reduceLT, Int.reduceLE, Int.reduceToNat, Int.reduceNeg, St.ren, permF, by_nil, by32, by10, litP, appendC, Int.reduceEq, not_true_eq_false, not_false_eq_true, false_implies, List.append_assoc]
  intro _
  omega
theorem seen_mem {l : List Rec} {r : Rec} : r ∈ seenS l ↔ r ∈ l := isort_mem l r
theorem seen_len (l : List Rec) : (seenS l).length = l.length := isort_length l
theorem c_Export (u : Usr) (hl : u.1.length ≤ 12) (hr : ∀ r, r ∈ u.1 → rightR r = true) : PC env 10 [⟨UserT, u⟩] .str (textX (seenS u.1)) := by
  refine PC.of_PW (m := 2000) env_ok fn_10 rfl rfl rfl rfl (by kernel_rfl) ?_; intro hx; simp only [Tryz.f10]; simp only [go_sem, Nat.reduceBEq, ↓reduceIte, ↓reduceDIte, Nat.reduceAdd, Nat.reduceSub, Nat.reduceMul, Nat.reduceLeDiff, ← Bool.decide_and, ← Bool.decide_or, ← decide_not, Int.reduceLT, Int.reduceLE, Int.reduceToNat, Int.reduceNeg, St.ren, permF, by_nil, by32, by10, litP, appendC, Int.reduceEq, not_true_eq_false, not_false_eq_true, false_implies, List.append_assoc]
  refine ⟨_, c_SeenA u hl, fun _ => ?_⟩
  have hR : ∀ r, r ∈ seenS u.1 → rightR r = true := fun r h => hr r (seen_mem.1 h)
  have hL : (seenS u.1).length ≤ 12 := by rw [seen_len]; exact hl
  generalize seenS u.1 = l at hR hL
  refine Walks.loopA (X := Nat) (fun (z : Nat) => [(9, .iv (.int .i64) (z : Int))]) (fun (z : Nat) => (match z with | 0 => [(3, .box [.nilptr, .nilsl] (some 73))] | k + 1 => [(3, .box [.ref 3 0, .lfull 1000] (some 73)), (1000, .arr (.int .u8) (toI (textX (l.take (k + 1)))) (some 5))])) (fun (z : Nat) => z ≤ l.length) (fun (z : Nat) => l.length - z) 0 ?_; intro b1 b2 hb1 hb2; simp (config := {maxSteps := 4000000}) only [go_sem, Nat.reduceBEq, ↓reduceIte, ↓reduceDIte, Nat.reduceAdd, Nat.reduceSub, Nat.reduceMul, Nat.reduceLeDiff, ← Bool.decide_and, ← Bool.decide_or, ← decide_not, Int.reduceLT, Int.reduceLE, Int.reduceToNat, Int.reduceNeg, St.ren, permF, by_nil, by32, by10, litP, appendC, Int.reduceEq, not_true_eq_false, not_false_eq_true, false_implies, List.append_assoc] at hb1 hb2; subst hb1; subst hb2; refine ⟨(by refine ⟨?_, ?_, rfl, rfl⟩ <;> repeat' (first | exact trivial | exact Or.inl rfl | exact Or.inr rfl | (refine And.intro (Or.inl rfl) ?_) | (refine And.intro (Or.inr (Or.inl rfl)) ?_) | (refine And.intro (Or.inr (Or.inr (Or.inr ⟨rfl, rfl⟩))) ?_) | (refine And.intro (Or.inr (Or.inr (Or.inl ⟨rfl, rfl, trivial⟩))) ?_) | exact ⟨(by show (_ : Nat) < 1000000000; omega), rfl, rfl⟩ | rfl | (refine And.intro (Or.inl ?_) ?_) | (refine And.intro ?_ ?_))), ?_, ?_⟩
  · exact Nat.zero_le _
  intro i hi back
  have hend : textX (l.take l.length) = textX l := by rw [List.take_length]
  have htl := flat_len (fun r => lineE r ++ [10]) 61 (l.take i) (fun y hy => by
      have := line_len (hR y (List.mem_of_mem_take hy))
      simp only [List.length_append, List.length_cons, List.length_nil]; omega)
  change (textX (l.take i)).length ≤ _ at htl
  rw [List.length_take, Nat.min_eq_left hi] at htl
  have hstep : ∀ r, l[i]? = some r → toI (textX (l.take i)) ++ (toI (lineE r) ++ [10]) = toI (textX (l.take (i + 1))) := fun r h => by
    have h2 : textX (l.take (i + 1)) = textX (l.take i) ++ (lineE r ++ [10]) := flat_step _ h
    rw [h2, toI_app, toI_app]
    simp [toI]
  cases i with
  | zero =>
    dsimp only
    refine PW_sound env_ok ⟨_, fn_10, rfl⟩ 2000 _ _ (by kernel_rfl) ?_; simp only [go_sem, Nat.reduceBEq, ↓reduceIte, ↓reduceDIte, Nat.reduceAdd, Nat.reduceSub, Nat.reduceMul, Nat.reduceLeDiff, ← Bool.decide_and, ← Bool.decide_or, ← decide_not, Int.reduceLT, Int.reduceLE, Int.reduceToNat, Int.reduceNeg, St.ren, permF, by_nil, by32, by10, litP, appendC, Int.reduceEq, not_true_eq_false, not_false_eq_true, false_implies, List.append_assoc]
    refine ⟨fun g => ?_, fun g => ?_⟩
    · obtain ⟨r, hri⟩ : ∃ r, l[0]? = some r := get_of_lt (by omega)
      have hl60 := line_len (hR r (List.mem_of_getElem? hri))
      refine ⟨r, hri, _, c_Line r (hR r (List.mem_of_getElem? hri)), fun _ => ⟨_, _, h_writeF _ (by omega), rfl, ?_⟩⟩
      simp only [go_sem, Nat.reduceBEq, ↓reduceIte, ↓reduceDIte, Nat.reduceAdd, Nat.reduceSub, Nat.reduceMul, Nat.reduceLeDiff, ← Bool.decide_and, ← Bool.decide_or, ← decide_not, Int.reduceLT, Int.reduceLE, Int.reduceToNat, Int.reduceNeg, St.ren, permF, by_nil, by32, by10, litP, appendC, Int.reduceEq, not_true_eq_false, not_false_eq_true, false_implies, List.append_assoc]
      intro _
      refine ⟨_, _, h_byteU _ _ (by unfold toI; rw [List.length_map]; omega), rfl, ?_⟩
      simp only [go_sem, Nat.reduceBEq, ↓reduceIte, ↓reduceDIte, Nat.reduceAdd, Nat.reduceSub, Nat.reduceMul, Nat.reduceLeDiff, ← Bool.decide_and, ← Bool.decide_or, ← decide_not, Int.reduceLT, Int.reduceLE, Int.reduceToNat, Int.reduceNeg, St.ren, permF, by_nil, by32, by10, litP, appendC, Int.reduceEq, not_true_eq_false, not_false_eq_true, false_implies, List.append_assoc]
      intro _
      refine ⟨i64_ok (by omega) (by omega), ?_⟩
      refine Walks.ren [(1700014, 1000), (1000, 1700014)] rfl ?_
      simp only [go_sem, Nat.reduceBEq, ↓reduceIte, ↓reduceDIte, Nat.reduceAdd, Nat.reduceSub, Nat.reduceMul, Nat.reduceLeDiff, ← Bool.decide_and, ← Bool.decide_or, ← decide_not, Int.reduceLT, Int.reduceLE, Int.reduceToNat, Int.reduceNeg, St.ren, permF, by_nil, by32, by10, litP, appendC, Int.reduceEq, not_true_eq_false, not_false_eq_true, false_implies, List.append_assoc]
      have h0 : toI (lineE r) ++ [10] = toI (textX (l.take 1)) := by rw [← hstep r hri]; rfl
      rw [h0]
      exact back _ 1 (by refine ⟨?_, ?_, rfl, rfl⟩ <;> repeat' (first | exact trivial | exact Or.inl rfl | exact Or.inr rfl | (refine And.intro (Or.inl rfl) ?_) | (refine And.intro (Or.inr (Or.inl rfl)) ?_) | (refine And.intro (Or.inr (Or.inr (Or.inr ⟨rfl, rfl⟩))) ?_) | (refine And.intro (Or.inr (Or.inr (Or.inl ⟨rfl, rfl, trivial⟩))) ?_) | exact ⟨(by show (_ : Nat) < 1000000000; omega), rfl, rfl⟩ | rfl | (refine And.intro (Or.inl ?_) ?_) | (refine And.intro ?_ ?_))) (by omega) (by omega)
    · refine ⟨_, _, h_strF, rfl, ?_⟩
      simp only [go_sem, Nat.reduceBEq, ↓reduceIte, ↓reduceDIte, Nat.reduceAdd, Nat.reduceSub, Nat.reduceMul, Nat.reduceLeDiff, ← Bool.decide_and, ← Bool.decide_or, ← decide_not, Int.reduceLT, Int.reduceLE, Int.reduceToNat, Int.reduceNeg, St.ren, permF, by_nil, by32, by10, litP, appendC, Int.reduceEq, not_true_eq_false, not_false_eq_true, false_implies, List.append_assoc]
      have : l = [] := List.length_eq_zero_iff.1 (by omega)
      rw [this]
      exact fun _ => rfl
  | succ i =>
    dsimp only
    refine PW_sound env_ok ⟨_, fn_10, rfl⟩ 2000 _ _ (by kernel_rfl) ?_; simp only [go_sem, Nat.reduceBEq, ↓reduceIte, ↓reduceDIte, Nat.reduceAdd, Nat.reduceSub, Nat.reduceMul, Nat.reduceLeDiff, ← Bool.decide_and, ← Bool.decide_or, ← decide_not, Int.reduceLT, Int.reduceLE, Int.reduceToNat, Int.reduceNeg, St.ren, permF, by_nil, by32, by10, litP, appendC, Int.reduceEq, not_true_eq_false, not_false_eq_true, false_implies, List.append_assoc]
    refine ⟨fun g => ?_, fun g => ?_⟩
    · obtain ⟨r, hri⟩ : ∃ r, l[i + 1]? = some r := get_of_lt (by omega)
      have hl60 := line_len (hR r (List.mem_of_getElem? hri))
      have i0 : (0 : Int) ≤ ((i + 1 : Nat) : Int) := Int.natCast_nonneg _
      refine ⟨i0, r, hri, _, c_Line r (hR r (List.mem_of_getElem? hri)), fun _ => ⟨_, _, h_writeU _ _ (by unfold toI; rw [List.length_map]; omega), rfl, ?_⟩⟩
      simp only [go_sem, Nat.reduceBEq, ↓reduceIte, ↓reduceDIte, Nat.reduceAdd, Nat.reduceSub, Nat.reduceMul, Nat.reduceLeDiff, ← Bool.decide_and, ← Bool.decide_or, ← decide_not, Int.reduceLT, Int.reduceLE, Int.reduceToNat, Int.reduceNeg, St.ren, permF, by_nil, by32, by10, litP, appendC, Int.reduceEq, not_true_eq_false, not_false_eq_true, false_implies, List.append_assoc]
      intro _
      refine ⟨_, _, h_byteU _ _ (by unfold toI; rw [List.length_append, List.length_map, List.length_map]; omega), rfl, ?_⟩
      simp only [go_sem, Nat.reduceBEq, ↓reduceIte, ↓reduceDIte, Nat.reduceAdd, Nat.reduceSub, Nat.reduceMul, Nat.reduceLeDiff, ← Bool.decide_and, ← Bool.decide_or, ← decide_not, Int.reduceLT, Int.reduceLE, Int.reduceToNat, Int.reduceNeg, St.ren, permF, by_nil, by32, by10, litP, appendC, Int.reduceEq, not_true_eq_false, not_false_eq_true, false_implies, List.append_assoc]
      intro _
      refine ⟨i64_ok (by omega) (by omega), ?_⟩
      refine Walks.ren [(1700014, 1000), (1000, 1700014)] rfl ?_
      simp only [go_sem, Nat.reduceBEq, ↓reduceIte, ↓reduceDIte, Nat.reduceAdd, Nat.reduceSub, Nat.reduceMul, Nat.reduceLeDiff, ← Bool.decide_and, ← Bool.decide_or, ← decide_not, Int.reduceLT, Int.reduceLE, Int.reduceToNat, Int.reduceNeg, St.ren, permF, by_nil, by32, by10, litP, appendC, Int.reduceEq, not_true_eq_false, not_false_eq_true, false_implies, List.append_assoc]
      rw [hstep r hri]
      exact back _ (i + 1 + 1) (by refine ⟨?_, ?_, rfl, rfl⟩ <;> repeat' (first | exact trivial | exact Or.inl rfl | exact Or.inr rfl | (refine And.intro (Or.inl rfl) ?_) | (refine And.intro (Or.inr (Or.inl rfl)) ?_) | (refine And.intro (Or.inr (Or.inr (Or.inr ⟨rfl, rfl⟩))) ?_) | (refine And.intro (Or.inr (Or.inr (Or.inl ⟨rfl, rfl, trivial⟩))) ?_) | exact ⟨(by show (_ : Nat) < 1000000000; omega), rfl, rfl⟩ | rfl | (refine And.intro (Or.inl ?_) ?_) | (refine And.intro ?_ ?_))) (by omega) (by omega)
    · refine ⟨_, _, h_strU _, rfl, ?_⟩
      rw [toS_toI, List.take_of_length_le (by omega)]
      simp only [go_sem, Nat.reduceBEq, ↓reduceIte, ↓reduceDIte, Nat.reduceAdd, Nat.reduceSub, Nat.reduceMul, Nat.reduceLeDiff, ← Bool.decide_and, ← Bool.decide_or, ← decide_not, Int.reduceLT, Int.reduceLE, Int.reduceToNat, Int.reduceNeg, St.ren, permF, by_nil, by32, by10, litP, appendC, Int.reduceEq, not_true_eq_false, not_false_eq_true, false_implies, List.append_assoc]
      exact fun _ _ => trivial
end Go.Proofs.YtmjnkaabooockaaGreatDoor
