/- The law RouteMatchesReference holds for every input. No condition. -/
import Derived.Test.YtaphmhdgpdhpiaaC6
import Derived.Test.YtaphmhdgpdhpiaaRows
set_option linter.unusedSimpArgs false
set_option linter.unusedVariables false
--SET+ St.ren, permF
namespace Go.Proofs.Ytaphmhdgpdhpiaa
set_option maxHeartbeats 4000000
set_option maxRecDepth 100000
theorem c_Ends (s : Sch) (hs : OkS s) : PC env 44 [⟨SchemeT, s⟩] (.sl EndT) (endsE s) := by
  have hs0 := hs
  obtain ⟨n, a, rs⟩ := s
  have h1 := hs.n1
  have h8 := hs.n8
  have hl := hs.len
  have hr := hs.right
  dsimp only at h1 h8 hl hr
  have hE : endsE (n, a, rs) = endsK rs n.toNat (startE a n.toNat) := rfl
  rw [hE]
  clear hE
  refine PC.of_PW (m := 2000) env_ok fn_44 rfl rfl rfl rfl (by kernel_rfl) ?_; intro hx; simp only [Try.f44]; simp only [go_sem, Nat.reduceBEq, ↓reduceIte, ↓reduceDIte, Nat.reduceAdd, Nat.reduceSub, Nat.reduceMul, Nat.reduceLeDiff, ← Bool.decide_and, ← Bool.decide_or, ← decide_not, Int.reduceLT, Int.reduceLE, Int.reduceToNat, Int.reduceNeg, St.ren, permF]
  refine ⟨⟨(by first | omega | (show (_ : Int) ≤ _; omega) | (show (_ : Int) < _; omega) | (dsimp only; omega)), (by first | omega | (show (_ : Int) ≤ _; omega) | (show (_ : Int) < _; omega) | (dsimp only; omega))⟩, ?_⟩
  have hsl : (startE a n.toNat).length = n.toNat := by unfold startE; simp
  generalize hT : endsK rs n.toNat (startE a n.toNat) = T
  refine Walks.loopA (X := Nat × List En) (fun (z : Nat × List En) => [(4, .iv (.int .i64) (z.1 : Int))]) (fun (z : Nat × List En) => [(13, .arr EndT z.2)]) (fun (z : Nat × List En) => z.1 ≤ n.toNat ∧ StE a n.toNat z.1 z.2) (fun (z : Nat × List En) => n.toNat - z.1) (0, List.replicate n.toNat ([], 0, false)) ?_; intro b1 b2 hb1 hb2; simp (config := {maxSteps := 4000000}) only [go_sem, Nat.reduceBEq, ↓reduceIte, ↓reduceDIte, Nat.reduceAdd, Nat.reduceSub, Nat.reduceMul, Nat.reduceLeDiff, ← Bool.decide_and, ← Bool.decide_or, ← decide_not, Int.reduceLT, Int.reduceLE, Int.reduceToNat, Int.reduceNeg, St.ren, permF] at hb1 hb2; subst hb1; subst hb2; refine ⟨(by refine ⟨?_, ?_, rfl, rfl⟩ <;> repeat' (first | exact trivial | exact Or.inl rfl | exact Or.inr rfl | (refine And.intro (Or.inl rfl) ?_) | (refine And.intro (Or.inr (Or.inl rfl)) ?_) | (refine And.intro (Or.inr (Or.inr (Or.inr ⟨rfl, rfl⟩))) ?_) | (refine And.intro (Or.inr (Or.inr (Or.inl ⟨rfl, rfl, trivial⟩))) ?_) | exact ⟨(by show (_ : Nat) < 1000000000; omega), rfl, rfl⟩ | rfl | (refine And.intro (Or.inl ?_) ?_) | (refine And.intro ?_ ?_))), ?_, ?_⟩
  · exact ⟨Nat.zero_le _, StE.zero⟩
  intro ⟨k, L⟩ ⟨hk, hS⟩ back
  dsimp only at hk hS
  refine PW_sound env_ok ⟨_, fn_44, rfl⟩ 2000 _ _ (by kernel_rfl) ?_; simp only [go_sem, Nat.reduceBEq, ↓reduceIte, ↓reduceDIte, Nat.reduceAdd, Nat.reduceSub, Nat.reduceMul, Nat.reduceLeDiff, ← Bool.decide_and, ← Bool.decide_or, ← decide_not, Int.reduceLT, Int.reduceLE, Int.reduceToNat, Int.reduceNeg, St.ren, permF]
  refine ⟨fun g1 => ?_, fun g1 => ?_⟩
  · refine ⟨_, c_Accepts (n, a, rs) (k : Int) ⟨Int.natCast_nonneg _, by omega⟩, ?_⟩
    simp only [go_sem, Nat.reduceBEq, ↓reduceIte, ↓reduceDIte, Nat.reduceAdd, Nat.reduceSub, Nat.reduceMul, Nat.reduceLeDiff, ← Bool.decide_and, ← Bool.decide_or, ← decide_not, Int.reduceLT, Int.reduceLE, Int.reduceToNat, Int.reduceNeg, St.ren, permF]
    refine ⟨⟨Int.natCast_nonneg _, by have := hS.len; omega⟩, i64_ok (by omega) (by omega), ?_⟩
    exact back _ (k + 1, L.modify k fun x => (x.1, x.2.1, accB a (k : Int))) (by refine ⟨?_, ?_, rfl, rfl⟩ <;> repeat' (first | exact trivial | exact Or.inl rfl | exact Or.inr rfl | (refine And.intro (Or.inl rfl) ?_) | (refine And.intro (Or.inr (Or.inl rfl)) ?_) | (refine And.intro (Or.inr (Or.inr (Or.inr ⟨rfl, rfl⟩))) ?_) | (refine And.intro (Or.inr (Or.inr (Or.inl ⟨rfl, rfl, trivial⟩))) ?_) | exact ⟨(by show (_ : Nat) < 1000000000; omega), rfl, rfl⟩ | rfl | (refine And.intro (Or.inl ?_) ?_) | (refine And.intro ?_ ?_))) ⟨(by first | omega | (show (_ : Int) ≤ _; omega) | (show (_ : Int) < _; omega) | (dsimp only; omega)), hS.next⟩ (by dsimp only; omega)
  · have e : L = startE a n.toNat := by
      have : k = n.toNat := by omega
      subst this
      exact hS.done
    subst e
    clear back hS hk g1
    refine Walks.ren [(13, 1000), (1000, 13)] rfl ?_
    simp only [go_sem, Nat.reduceBEq, ↓reduceIte, ↓reduceDIte, Nat.reduceAdd, Nat.reduceSub, Nat.reduceMul, Nat.reduceLeDiff, ← Bool.decide_and, ← Bool.decide_or, ← decide_not, Int.reduceLT, Int.reduceLE, Int.reduceToNat, Int.reduceNeg, St.ren, permF]
    refine Walks.loopA (X := Nat × List En) (fun (z : Nat × List En) => [(5, .iv (.int .i64) (z.1 : Int)), (3, .lfull 1000), (6, .any), (13, .any)]) (fun (z : Nat × List En) => [(1000, .arr EndT z.2)]) (fun (z : Nat × List En) => z.1 ≤ n.toNat ∧ RoundOK (n, a, rs) z.1 z.2 ∧ endsK rs (n.toNat - z.1) z.2 = T) (fun (z : Nat × List En) => n.toNat - z.1) (0, startE a n.toNat) ?_; intro b1 b2 hb1 hb2; simp (config := {maxSteps := 4000000}) only [go_sem, Nat.reduceBEq, ↓reduceIte, ↓reduceDIte, Nat.reduceAdd, Nat.reduceSub, Nat.reduceMul, Nat.reduceLeDiff, ← Bool.decide_and, ← Bool.decide_or, ← decide_not, Int.reduceLT, Int.reduceLE, Int.reduceToNat, Int.reduceNeg, St.ren, permF] at hb1 hb2; subst hb1; subst hb2; refine ⟨(by refine ⟨?_, ?_, rfl, rfl⟩ <;> repeat' (first | exact trivial | exact Or.inl rfl | exact Or.inr rfl | (refine And.intro (Or.inl rfl) ?_) | (refine And.intro (Or.inr (Or.inl rfl)) ?_) | (refine And.intro (Or.inr (Or.inr (Or.inr ⟨rfl, rfl⟩))) ?_) | (refine And.intro (Or.inr (Or.inr (Or.inl ⟨rfl, rfl, trivial⟩))) ?_) | exact ⟨(by show (_ : Nat) < 1000000000; omega), rfl, rfl⟩ | rfl | (refine And.intro (Or.inl ?_) ?_) | (refine And.intro ?_ ?_))), ?_, ?_⟩
    · exact ⟨Nat.zero_le _, start_ok hs0, hT⟩
    clear hT
    intro ⟨k, out⟩ ⟨hk, hR, hT⟩ back
    dsimp only at hk hR hT
    refine PW_sound env_ok ⟨_, fn_44, rfl⟩ 2000 _ _ (by kernel_rfl) ?_; simp only [go_sem, Nat.reduceBEq, ↓reduceIte, ↓reduceDIte, Nat.reduceAdd, Nat.reduceSub, Nat.reduceMul, Nat.reduceLeDiff, ← Bool.decide_and, ← Bool.decide_or, ← decide_not, Int.reduceLT, Int.reduceLE, Int.reduceToNat, Int.reduceNeg, St.ren, permF]
    refine ⟨fun g1 => ?_, fun g1 => ?_⟩
    · have hlo := hR.1
      have hTs : endsK rs (n.toNat - (k + 1)) (roundE out 0 rs out) = T := by
        have e : n.toNat - k = (n.toNat - (k + 1)) + 1 := by omega
        rw [e] at hT
        exact hT
      have hRn := round_ok hs0 hR
      dsimp only at hRn
      refine ⟨by omega, ?_⟩
      generalize hV : roundE out 0 rs out = V at hTs hRn
      refine Walks.loopA (X := Nat × List En) (fun (z : Nat × List En) => [(7, .iv (.int .i64) (z.1 : Int)), (6, .lfull 33), (9, .any), (10, .any), (8, .any), (56, .any), (63, .any)]) (fun (z : Nat × List En) => [(33, .arr EndT z.2)]) (fun (z : Nat × List En) => z.1 ≤ rs.length ∧ z.2.length = n.toNat ∧ roundE out z.1 (rs.drop z.1) z.2 = V) (fun (z : Nat × List En) => rs.length - z.1) (0, out) ?_; intro b1 b2 hb1 hb2; simp (config := {maxSteps := 4000000}) only [go_sem, Nat.reduceBEq, ↓reduceIte, ↓reduceDIte, Nat.reduceAdd, Nat.reduceSub, Nat.reduceMul, Nat.reduceLeDiff, ← Bool.decide_and, ← Bool.decide_or, ← decide_not, Int.reduceLT, Int.reduceLE, Int.reduceToNat, Int.reduceNeg, St.ren, permF] at hb1 hb2; subst hb1; subst hb2; refine ⟨(by refine ⟨?_, ?_, rfl, rfl⟩ <;> repeat' (first | exact trivial | exact Or.inl rfl | exact Or.inr rfl | (refine And.intro (Or.inl rfl) ?_) | (refine And.intro (Or.inr (Or.inl rfl)) ?_) | (refine And.intro (Or.inr (Or.inr (Or.inr ⟨rfl, rfl⟩))) ?_) | (refine And.intro (Or.inr (Or.inr (Or.inl ⟨rfl, rfl, trivial⟩))) ?_) | exact ⟨(by show (_ : Nat) < 1000000000; omega), rfl, rfl⟩ | rfl | (refine And.intro (Or.inl ?_) ?_) | (refine And.intro ?_ ?_))), ?_, ?_⟩
      · exact ⟨Nat.zero_le _, hlo, hV⟩
      clear hV
      intro ⟨i, next⟩ ⟨hi, hln, hV⟩ back2
      dsimp only at hi hln hV
      refine PW_sound env_ok ⟨_, fn_44, rfl⟩ 2000 _ _ (by kernel_rfl) ?_; simp only [go_sem, Nat.reduceBEq, ↓reduceIte, ↓reduceDIte, Nat.reduceAdd, Nat.reduceSub, Nat.reduceMul, Nat.reduceLeDiff, ← Bool.decide_and, ← Bool.decide_or, ← decide_not, Int.reduceLT, Int.reduceLE, Int.reduceToNat, Int.reduceNeg, St.ren, permF]
      refine ⟨fun g2 => ?_, fun g2 => ?_⟩
      · obtain ⟨r, hri⟩ : ∃ r, rs[i]? = some r := get_of_lt (by omega)
        have hrn := right_nums (hr r (List.mem_of_getElem? hri))
        rw [drop_cons hri] at hV
        obtain ⟨o, hoo⟩ : ∃ o, out[r.2.1.toNat]? = some o := get_of_lt (by omega)
        obtain ⟨x, hx2⟩ : ∃ x, next[r.1.toNat]? = some x := get_of_lt (by omega)
        have hok := hR.2 _ _ hoo
        have hV' : roundE out (i + 1) (rs.drop (i + 1)) (upd1 out next i r) = V := hV
        obtain ⟨lo, co, bo⟩ := o
        refine ⟨Int.natCast_nonneg _, r, hri, ⟨by omega, (lo, co, bo), hoo, ?_⟩⟩
        obtain ⟨nl, nc, nb⟩ := x
        have hu : upd1 out next i r = if bo = true then (if nb = false ∨ befE (r.2.2.2.2 + co) ((i : Int) :: lo) nc nl = true then next.set r.1.toNat ((i : Int) :: lo, r.2.2.2.2 + co, true) else next) else next := by
          unfold upd1
          rw [hoo, hx2]
          rfl
        cases bo
        · refine PB_cast (b' := true) rfl ?_
          simp only [go_sem, Nat.reduceBEq, ↓reduceIte, ↓reduceDIte, Nat.reduceAdd, Nat.reduceSub, Nat.reduceMul, Nat.reduceLeDiff, ← Bool.decide_and, ← Bool.decide_or, ← decide_not, Int.reduceLT, Int.reduceLE, Int.reduceToNat, Int.reduceNeg, St.ren, permF]
          rw [hu] at hV'
          exact ⟨i64_ok (by omega) (by omega), back2 _ (i + 1, next) (by refine ⟨?_, ?_, rfl, rfl⟩ <;> repeat' (first | exact trivial | exact Or.inl rfl | exact Or.inr rfl | (refine And.intro (Or.inl rfl) ?_) | (refine And.intro (Or.inr (Or.inl rfl)) ?_) | (refine And.intro (Or.inr (Or.inr (Or.inr ⟨rfl, rfl⟩))) ?_) | (refine And.intro (Or.inr (Or.inr (Or.inl ⟨rfl, rfl, trivial⟩))) ?_) | exact ⟨(by show (_ : Nat) < 1000000000; omega), rfl, rfl⟩ | rfl | (refine And.intro (Or.inl ?_) ?_) | (refine And.intro ?_ ?_))) ⟨(by first | omega | (show (_ : Int) ≤ _; omega) | (show (_ : Int) < _; omega) | (dsimp only; omega)), hln, hV'⟩ (by dsimp only; omega)⟩
        · refine PB_cast (b' := false) rfl ?_
          simp only [go_sem, Nat.reduceBEq, ↓reduceIte, ↓reduceDIte, Nat.reduceAdd, Nat.reduceSub, Nat.reduceMul, Nat.reduceLeDiff, ← Bool.decide_and, ← Bool.decide_or, ← decide_not, Int.reduceLT, Int.reduceLE, Int.reduceToNat, Int.reduceNeg, St.ren, permF]
          have hois := hok.is rfl
          have hcost := costL_le hs0 lo
          have hcn := costL_nn hs0 lo
          dsimp only at hois
          refine ⟨⟨by omega, by omega⟩, _, hoo, by dsimp only; omega, ⟨by omega, by omega⟩, _, hoo, ⟨by dsimp only; omega, by dsimp only; omega⟩, ⟨by omega, by omega⟩, _, hx2, ?_⟩
          cases nb
          · refine PK_cast (b' := true) rfl ?_
            simp only [go_sem, Nat.reduceBEq, ↓reduceIte, ↓reduceDIte, Nat.reduceAdd, Nat.reduceSub, Nat.reduceMul, Nat.reduceLeDiff, ← Bool.decide_and, ← Bool.decide_or, ← decide_not, Int.reduceLT, Int.reduceLE, Int.reduceToNat, Int.reduceNeg, St.ren, permF]
            rw [hu, if_pos rfl, if_pos (Or.inl rfl)] at hV'
            exact ⟨⟨by omega, by omega⟩, i64_ok (by omega) (by omega), back2 _ (i + 1, next.set r.1.toNat ((i : Int) :: lo, r.2.2.2.2 + co, true)) (by refine ⟨?_, ?_, rfl, rfl⟩ <;> repeat' (first | exact trivial | exact Or.inl rfl | exact Or.inr rfl | (refine And.intro (Or.inl rfl) ?_) | (refine And.intro (Or.inr (Or.inl rfl)) ?_) | (refine And.intro (Or.inr (Or.inr (Or.inr ⟨rfl, rfl⟩))) ?_) | (refine And.intro (Or.inr (Or.inr (Or.inl ⟨rfl, rfl, trivial⟩))) ?_) | exact ⟨(by show (_ : Nat) < 1000000000; omega), rfl, rfl⟩ | rfl | (refine And.intro (Or.inl ?_) ?_) | (refine And.intro ?_ ?_))) ⟨(by first | omega | (show (_ : Int) ≤ _; omega) | (show (_ : Int) < _; omega) | (dsimp only; omega)), by dsimp only; rw [List.length_set]; exact hln, hV'⟩ (by dsimp only; omega)⟩
          · refine PK_cast (b' := false) rfl ?_
            simp only [go_sem, Nat.reduceBEq, ↓reduceIte, ↓reduceDIte, Nat.reduceAdd, Nat.reduceSub, Nat.reduceMul, Nat.reduceLeDiff, ← Bool.decide_and, ← Bool.decide_or, ← decide_not, Int.reduceLT, Int.reduceLE, Int.reduceToNat, Int.reduceNeg, St.ren, permF]
            refine ⟨⟨by omega, by omega⟩, _, hx2, _, c_Before ((i : Int) :: lo, r.2.2.2.2 + co, true) (nl, nc, true), ?_⟩
            dsimp only
            cases hb : befE (r.2.2.2.2 + co) ((i : Int) :: lo) nc nl
            · rw [hu, if_pos rfl, if_neg (by rw [hb]; simp)] at hV'
              simp only [go_sem, Nat.reduceBEq, ↓reduceIte, ↓reduceDIte, Nat.reduceAdd, Nat.reduceSub, Nat.reduceMul, Nat.reduceLeDiff, ← Bool.decide_and, ← Bool.decide_or, ← decide_not, Int.reduceLT, Int.reduceLE, Int.reduceToNat, Int.reduceNeg, St.ren, permF]
              exact ⟨i64_ok (by omega) (by omega), back2 _ (i + 1, next) (by refine ⟨?_, ?_, rfl, rfl⟩ <;> repeat' (first | exact trivial | exact Or.inl rfl | exact Or.inr rfl | (refine And.intro (Or.inl rfl) ?_) | (refine And.intro (Or.inr (Or.inl rfl)) ?_) | (refine And.intro (Or.inr (Or.inr (Or.inr ⟨rfl, rfl⟩))) ?_) | (refine And.intro (Or.inr (Or.inr (Or.inl ⟨rfl, rfl, trivial⟩))) ?_) | exact ⟨(by show (_ : Nat) < 1000000000; omega), rfl, rfl⟩ | rfl | (refine And.intro (Or.inl ?_) ?_) | (refine And.intro ?_ ?_))) ⟨(by first | omega | (show (_ : Int) ≤ _; omega) | (show (_ : Int) < _; omega) | (dsimp only; omega)), hln, hV'⟩ (by dsimp only; omega)⟩
            · rw [hu, if_pos rfl, if_pos (Or.inr hb)] at hV'
              simp only [go_sem, Nat.reduceBEq, ↓reduceIte, ↓reduceDIte, Nat.reduceAdd, Nat.reduceSub, Nat.reduceMul, Nat.reduceLeDiff, ← Bool.decide_and, ← Bool.decide_or, ← decide_not, Int.reduceLT, Int.reduceLE, Int.reduceToNat, Int.reduceNeg, St.ren, permF]
              exact ⟨⟨by omega, by omega⟩, i64_ok (by omega) (by omega), back2 _ (i + 1, next.set r.1.toNat ((i : Int) :: lo, r.2.2.2.2 + co, true)) (by refine ⟨?_, ?_, rfl, rfl⟩ <;> repeat' (first | exact trivial | exact Or.inl rfl | exact Or.inr rfl | (refine And.intro (Or.inl rfl) ?_) | (refine And.intro (Or.inr (Or.inl rfl)) ?_) | (refine And.intro (Or.inr (Or.inr (Or.inr ⟨rfl, rfl⟩))) ?_) | (refine And.intro (Or.inr (Or.inr (Or.inl ⟨rfl, rfl, trivial⟩))) ?_) | exact ⟨(by show (_ : Nat) < 1000000000; omega), rfl, rfl⟩ | rfl | (refine And.intro (Or.inl ?_) ?_) | (refine And.intro ?_ ?_))) ⟨(by first | omega | (show (_ : Int) ≤ _; omega) | (show (_ : Int) < _; omega) | (dsimp only; omega)), by dsimp only; rw [List.length_set]; exact hln, hV'⟩ (by dsimp only; omega)⟩
      · have hd : rs.drop i = [] := List.drop_of_length_le (by omega)
        rw [hd] at hV
        have e : next = V := hV
        subst e
        refine ⟨i64_ok (by omega) (by omega), ?_⟩
        refine Walks.ren [(33, 1000), (1000, 33)] rfl ?_
        simp only [go_sem, Nat.reduceBEq, ↓reduceIte, ↓reduceDIte, Nat.reduceAdd, Nat.reduceSub, Nat.reduceMul, Nat.reduceLeDiff, ← Bool.decide_and, ← Bool.decide_or, ← decide_not, Int.reduceLT, Int.reduceLE, Int.reduceToNat, Int.reduceNeg, St.ren, permF]
        exact back _ (k + 1, next) (by refine ⟨?_, ?_, rfl, rfl⟩ <;> repeat' (first | exact trivial | exact Or.inl rfl | exact Or.inr rfl | (refine And.intro (Or.inl rfl) ?_) | (refine And.intro (Or.inr (Or.inl rfl)) ?_) | (refine And.intro (Or.inr (Or.inr (Or.inr ⟨rfl, rfl⟩))) ?_) | (refine And.intro (Or.inr (Or.inr (Or.inl ⟨rfl, rfl, trivial⟩))) ?_) | exact ⟨(by show (_ : Nat) < 1000000000; omega), rfl, rfl⟩ | rfl | (refine And.intro (Or.inl ?_) ?_) | (refine And.intro ?_ ?_))) ⟨(by first | omega | (show (_ : Int) ≤ _; omega) | (show (_ : Int) < _; omega) | (dsimp only; omega)), hRn, hTs⟩ (by dsimp only; omega)
    · have e0 : n.toNat - k = 0 := by omega
      rw [e0] at hT
      exact hT
theorem c_LeastRef (s : Sch) (m : Int) (hs : OkS s) : PC env 25 [⟨SchemeT, s⟩, ⟨.int .i64, m⟩] (.tup (.sl (.int .i64)) (.tup (.int .i64) (.int .i64))) (leastR s m) := by
  have hen := ends_ok hs
  have ke := c_Ends s hs
  have n1 := hs.n1
  have n8 := hs.n8
  refine PC.of_PW (m := 2000) env_ok fn_25 rfl rfl rfl rfl (by kernel_rfl) ?_; intro hx; simp only [Try.f25]; simp only [go_sem, Nat.reduceBEq, ↓reduceIte, ↓reduceDIte, Nat.reduceAdd, Nat.reduceSub, Nat.reduceMul, Nat.reduceLeDiff, ← Bool.decide_and, ← Bool.decide_or, ← decide_not, Int.reduceLT, Int.reduceLE, Int.reduceToNat, Int.reduceNeg, St.ren, permF]
  have hm1 : s.1 ≤ m ∨ m < 0 → ([], 0, 30) = leastR s m := fun h => (leastR_off (by omega)).symm
  refine ⟨fun g1 => ⟨fun g2 => hm1 (.inl g2), fun g2 => ⟨_, ke, fun _ => ?_⟩⟩, fun g1 => hm1 (.inr (by omega))⟩
  obtain ⟨e, he⟩ : ∃ e, (endsE s)[m.toNat]? = some e := get_of_lt (by rw [hen.1]; omega)
  have hE : endAt s m = e := by unfold endAt; rw [he]; rfl
  have hL : leastR s m = if (endAt s m).2.2 = true then ((endAt s m).1, (endAt s m).2.1, 0) else ([], 0, 50) := by unfold leastR; rw [if_pos ⟨by omega, by omega⟩]
  rw [hE] at hL
  obtain ⟨l, c, b⟩ := e
  refine ⟨by omega, _, he, ?_⟩
  cases b
  · refine PB_cast (b' := true) rfl ?_
    rw [hL]
    simp only [go_sem, Nat.reduceBEq, ↓reduceIte, ↓reduceDIte, Nat.reduceAdd, Nat.reduceSub, Nat.reduceMul, Nat.reduceLeDiff, ← Bool.decide_and, ← Bool.decide_or, ← decide_not, Int.reduceLT, Int.reduceLE, Int.reduceToNat, Int.reduceNeg, St.ren, permF]
    rfl
  · refine PB_cast (b' := false) rfl ?_
    rw [hL]
    simp only [go_sem, Nat.reduceBEq, ↓reduceIte, ↓reduceDIte, Nat.reduceAdd, Nat.reduceSub, Nat.reduceMul, Nat.reduceLeDiff, ← Bool.decide_and, ← Bool.decide_or, ← decide_not, Int.reduceLT, Int.reduceLE, Int.reduceToNat, Int.reduceNeg, St.ren, permF]
end Go.Proofs.Ytaphmhdgpdhpiaa
namespace Go.Proofs.Ytaphmhdgpdhpiaa
set_option maxHeartbeats 4000000
set_option maxRecDepth 100000
theorem c_Matches (x : RawS) (w : Int × Int) (l : List Int) : PC env 3 [⟨RawT, x⟩, ⟨.st (.pair (.int .u8) (.int .u8)), w⟩, ⟨.sl (.int .i8), l⟩] .bool true := by
  have ko := (made3_ok x w).1
  have k1 := c_Made3 x w
  generalize made3E x w = S at ko k1
  refine PC.of_PW (m := 2000) env_ok fn_3 rfl rfl rfl rfl (by kernel_rfl) ?_; intro hx; simp only [Try.f3]; simp only [go_sem, Nat.reduceBEq, ↓reduceIte, ↓reduceDIte, Nat.reduceAdd, Nat.reduceSub, Nat.reduceMul, Nat.reduceLeDiff, ← Bool.decide_and, ← Bool.decide_or, ← decide_not, Int.reduceLT, Int.reduceLE, Int.reduceToNat, Int.reduceNeg]
  have hw0 := u8_of hx.2.1.1
  have hw1 := u8_of hx.2.1.2
  have n1 := ko.n1
  have n8 := ko.n8
  have hlen := ko.len
  refine ⟨_, c_sanity, _, k1 ⟨hw0.1, hw1.1⟩, fun _ => ?_⟩
  refine Walks.loopA (X := Nat) (fun (z : Nat) => [(10, .iv (.int .i64) (z : Int)), (9, .lfull 28), (28, .any)]) (fun (z : Nat) => [(28, .arr (.int .i64) (l.take z))]) (fun (z : Nat) => z ≤ l.length ∧ z ≤ 8) (fun (z : Nat) => 8 - z) 0 ?_; intro b1 b2 hb1 hb2; simp (config := {maxSteps := 4000000}) only [go_sem, Nat.reduceBEq, ↓reduceIte, ↓reduceDIte, Nat.reduceAdd, Nat.reduceSub, Nat.reduceMul, Nat.reduceLeDiff, ← Bool.decide_and, ← Bool.decide_or, ← decide_not, Int.reduceLT, Int.reduceLE, Int.reduceToNat, Int.reduceNeg] at hb1 hb2; subst hb1; subst hb2; refine ⟨(by refine ⟨?_, ?_, rfl, rfl⟩ <;> repeat' (first | exact trivial | exact Or.inl rfl | exact Or.inr rfl | (refine And.intro (Or.inl rfl) ?_) | (refine And.intro (Or.inr (Or.inl rfl)) ?_) | (refine And.intro (Or.inr (Or.inr (Or.inr ⟨rfl, rfl⟩))) ?_) | (refine And.intro (Or.inr (Or.inr (Or.inl ⟨rfl, rfl, trivial⟩))) ?_) | exact ⟨(by show (_ : Nat) < 1000000000; omega), rfl, rfl⟩ | rfl | (refine And.intro (Or.inl ?_) ?_) | (refine And.intro ?_ ?_))), ?_, ?_⟩
  · exact ⟨Nat.zero_le _, Nat.zero_le _⟩
  intro i ⟨hi, hi8⟩ back
  refine PW_sound env_ok ⟨_, fn_3, rfl⟩ 2000 _ _ (by kernel_rfl) ?_; simp only [go_sem, Nat.reduceBEq, ↓reduceIte, ↓reduceDIte, Nat.reduceAdd, Nat.reduceSub, Nat.reduceMul, Nat.reduceLeDiff, ← Bool.decide_and, ← Bool.decide_or, ← decide_not, Int.reduceLT, Int.reduceLE, Int.reduceToNat, Int.reduceNeg]
  refine ⟨fun g1 => ⟨fun g2 => ?_, fun g2 => ?_⟩, fun g1 => ?_⟩
  · obtain ⟨u, hu⟩ : ∃ u, l[i]? = some u := get_of_lt (by omega)
    have hlt : (l.take i).length ≤ i := List.length_take_le _ _
    refine ⟨Int.natCast_nonneg _, u, hu, by omega, i64_ok (by omega) (by omega), ?_⟩
    exact back _ (i + 1) (by rw [take_snoc hu]; exact (by refine ⟨?_, ?_, rfl, rfl⟩ <;> repeat' (first | exact trivial | exact Or.inl rfl | exact Or.inr rfl | (refine And.intro (Or.inl rfl) ?_) | (refine And.intro (Or.inr (Or.inl rfl)) ?_) | (refine And.intro (Or.inr (Or.inr (Or.inr ⟨rfl, rfl⟩))) ?_) | (refine And.intro (Or.inr (Or.inr (Or.inl ⟨rfl, rfl, trivial⟩))) ?_) | exact ⟨(by show (_ : Nat) < 1000000000; omega), rfl, rfl⟩ | rfl | (refine And.intro (Or.inl ?_) ?_) | (refine And.intro ?_ ?_)))) ⟨by omega, by omega⟩ (by omega)
  all_goals
    clear back
    have hlt : (l.take i).length ≤ i := List.length_take_le _ _
    have kw := c_Walk S (0, 8) [w.1, w.2, x.1, x.2.1] ko ⟨by decide, by decide⟩
    have hwl := walkE_len S (0, 8) [w.1, w.2, x.1, x.2.1]
    have kt := c_Trim S ko
    have ktr := c_TrimR S ko
    have kr := c_Run S (l.take i) ko (by omega)
    have krr := c_RunR S (l.take i) ko (by omega)
    have kr2 := c_Run S (walkE S (0, 8) [w.1, w.2, x.1, x.2.1]).1 ko (by dsimp only at hwl; omega)
    have krr2 := c_RunR S (walkE S (0, 8) [w.1, w.2, x.1, x.2.1]).1 ko (by dsimp only at hwl; omega)
    have ka := c_Reached S ko
    have kb := c_ReachedR S ko
    have kc := c_Live S ko
    have kd := c_LiveR S ko
    refine ⟨_, kw, fun _ => ⟨_, kt, fun _ => ⟨_, ktr, fun _ => ⟨_, kr, fun _ => ⟨_, krr, fun _ => PK_cast (b' := false) (by simp) ?_⟩⟩⟩⟩⟩
    simp only [go_sem, Nat.reduceBEq, ↓reduceIte, ↓reduceDIte, Nat.reduceAdd, Nat.reduceSub, Nat.reduceMul, Nat.reduceLeDiff, ← Bool.decide_and, ← Bool.decide_or, ← decide_not, Int.reduceLT, Int.reduceLE, Int.reduceToNat, Int.reduceNeg]
    refine ⟨_, kr2, fun _ => ⟨_, krr2, fun _ => PK_cast (b' := false) (by simp) ?_⟩⟩
    simp only [go_sem, Nat.reduceBEq, ↓reduceIte, ↓reduceDIte, Nat.reduceAdd, Nat.reduceSub, Nat.reduceMul, Nat.reduceLeDiff, ← Bool.decide_and, ← Bool.decide_or, ← decide_not, Int.reduceLT, Int.reduceLE, Int.reduceToNat, Int.reduceNeg]
    refine ⟨_, c_Same2 _ _, PK_cast (b' := false) (by simp) ?_⟩
    simp only [go_sem, Nat.reduceBEq, ↓reduceIte, ↓reduceDIte, Nat.reduceAdd, Nat.reduceSub, Nat.reduceMul, Nat.reduceLeDiff, ← Bool.decide_and, ← Bool.decide_or, ← decide_not, Int.reduceLT, Int.reduceLE, Int.reduceToNat, Int.reduceNeg]
    refine ⟨_, c_Ints _ _, PK_cast (b' := false) (by simp) ?_⟩
    simp only [go_sem, Nat.reduceBEq, ↓reduceIte, ↓reduceDIte, Nat.reduceAdd, Nat.reduceSub, Nat.reduceMul, Nat.reduceLeDiff, ← Bool.decide_and, ← Bool.decide_or, ← decide_not, Int.reduceLT, Int.reduceLE, Int.reduceToNat, Int.reduceNeg]
    refine ⟨_, ka, fun _ => ⟨_, kb, fun _ => ⟨_, c_Bools _ _, PK_cast (b' := false) (by simp) ?_⟩⟩⟩
    simp only [go_sem, Nat.reduceBEq, ↓reduceIte, ↓reduceDIte, Nat.reduceAdd, Nat.reduceSub, Nat.reduceMul, Nat.reduceLeDiff, ← Bool.decide_and, ← Bool.decide_or, ← decide_not, Int.reduceLT, Int.reduceLE, Int.reduceToNat, Int.reduceNeg]
    refine ⟨_, kc, fun _ => ⟨_, kd, fun _ => ⟨_, c_Bools _ _, PB_cast (b' := false) (by simp) ?_⟩⟩⟩
    simp only [go_sem, Nat.reduceBEq, ↓reduceIte, ↓reduceDIte, Nat.reduceAdd, Nat.reduceSub, Nat.reduceMul, Nat.reduceLeDiff, ← Bool.decide_and, ← Bool.decide_or, ← decide_not, Int.reduceLT, Int.reduceLE, Int.reduceToNat, Int.reduceNeg]
    refine Walks.loopA (X := Int) (fun (z : Int) => [(17, .iv (.int .i64) z), (18, .any), (19, .any), (20, .any), (21, .any), (22, .any), (23, .any)]) (fun (z : Int) => []) (fun (z : Int) => -1 ≤ z ∧ z ≤ S.1 + 1) (fun (z : Int) => (S.1 + 1 - z).toNat) (-1) ?_; intro b1 b2 hb1 hb2; simp (config := {maxSteps := 4000000}) only [go_sem, Nat.reduceBEq, ↓reduceIte, ↓reduceDIte, Nat.reduceAdd, Nat.reduceSub, Nat.reduceMul, Nat.reduceLeDiff, ← Bool.decide_and, ← Bool.decide_or, ← decide_not, Int.reduceLT, Int.reduceLE, Int.reduceToNat, Int.reduceNeg] at hb1 hb2; subst hb1; subst hb2; refine ⟨(by refine ⟨?_, ?_, rfl, rfl⟩ <;> repeat' (first | exact trivial | exact Or.inl rfl | exact Or.inr rfl | (refine And.intro (Or.inl rfl) ?_) | (refine And.intro (Or.inr (Or.inl rfl)) ?_) | (refine And.intro (Or.inr (Or.inr (Or.inr ⟨rfl, rfl⟩))) ?_) | (refine And.intro (Or.inr (Or.inr (Or.inl ⟨rfl, rfl, trivial⟩))) ?_) | exact ⟨(by show (_ : Nat) < 1000000000; omega), rfl, rfl⟩ | rfl | (refine And.intro (Or.inl ?_) ?_) | (refine And.intro ?_ ?_))), ?_, ?_⟩
    · exact ⟨by omega, by omega⟩
    intro m ⟨hm0, hm1⟩ back
    refine PW_sound env_ok ⟨_, fn_3, rfl⟩ 2000 _ _ (by kernel_rfl) ?_; simp only [go_sem, Nat.reduceBEq, ↓reduceIte, ↓reduceDIte, Nat.reduceAdd, Nat.reduceSub, Nat.reduceMul, Nat.reduceLeDiff, ← Bool.decide_and, ← Bool.decide_or, ← decide_not, Int.reduceLT, Int.reduceLE, Int.reduceToNat, Int.reduceNeg]
    refine ⟨fun g1 => ?_, fun g1 => trivial⟩
    have kl := c_Least S m ko
    have kl2 := c_LeastRef S m ko
    refine ⟨_, kl, fun _ => ⟨_, kl2, fun _ => ⟨_, c_Ints _ _, PK_cast (b' := false) (by simp) ?_⟩⟩⟩
    simp only [go_sem, Nat.reduceBEq, ↓reduceIte, ↓reduceDIte, Nat.reduceAdd, Nat.reduceSub, Nat.reduceMul, Nat.reduceLeDiff, ← Bool.decide_and, ← Bool.decide_or, ← decide_not, Int.reduceLT, Int.reduceLE, Int.reduceToNat, Int.reduceNeg]
    exact ⟨i64_ok (by omega) (by omega), back _ (m + 1) (by refine ⟨?_, ?_, rfl, rfl⟩ <;> repeat' (first | exact trivial | exact Or.inl rfl | exact Or.inr rfl | (refine And.intro (Or.inl rfl) ?_) | (refine And.intro (Or.inr (Or.inl rfl)) ?_) | (refine And.intro (Or.inr (Or.inr (Or.inr ⟨rfl, rfl⟩))) ?_) | (refine And.intro (Or.inr (Or.inr (Or.inl ⟨rfl, rfl, trivial⟩))) ?_) | exact ⟨(by show (_ : Nat) < 1000000000; omega), rfl, rfl⟩ | rfl | (refine And.intro (Or.inl ?_) ?_) | (refine And.intro ?_ ?_))) ⟨by omega, by omega⟩ (by omega)⟩
end Go.Proofs.Ytaphmhdgpdhpiaa
namespace Go.Proofs.Ytaphmhdgpdhpiaa
open Go.ChangeShapes Go.WideShapes Go.ChangeAt Go.RowKit
theorem own_none : ownKnob Try.prog.godebug = none := by kernel_rfl
theorem laid_out : laidOutB env.P = true := by kernel_rfl
theorem matches_all (xs : List (Sigma Ty.den)) (h : xs.map (·.1) = [RawT, .st (.pair (.int .u8) (.int .u8)), .sl (.int .i8)]) : PC env 3 xs .bool true := by
  match xs, h with
  | [⟨_, y0⟩, ⟨_, y1⟩, ⟨_, y2⟩], h =>
    injection h with h1 h
    injection h with h2 h
    injection h with h3 h
    dsimp only at h1 h2 h3
    subst h1 h2 h3
    exact c_Matches y0 y1 y2
set_option maxRecDepth 100000 in
theorem matches_lifted (os : Os) (started : os.Started) (H : Type) (enc : TypeId × Value → H) :
    ReturnsInHanded {} Try.checked os 3 .any (Rows.routeMatchesReferenceSpec.pre6 enc Try.prog Try.f3 Rows.routeMatchesReferenceRow.domain false) (Rows.routeMatchesReferenceSpec.post enc Try.prog Try.f3 false true false false) := by
  refine returnsInHanded_of_change (C := Try.checked) own_none started (by kernel_rfl) fn_3
    (ChangeSpec.witness6 (enc := enc) (C := Try.checked) false ⟨#[], #[.agg #[.int .u8 0, .int .u8 0, .slice none 0 0], .agg #[.int .u8 0, .int .u8 0], .slice none 0 0], []⟩ 8 (by kernel_rfl) (by kernel_rfl) (by kernel_rfl) (by kernel_rfl)) ?_
  intro W base args ds gs before hval hW _ _
  refine law_calls (E := env) (b0 := base) (Ts := [RawT, .st (.pair (.int .u8) (.int .u8)), .sl (.int .i8)]) (tb := 4) env_ok laid_out (of_decide_eq_true (by kernel_rfl)) rfl rfl rfl (by kernel_rfl) rfl ?_ matches_all (fun g hg => by cases hg) hval hW
  intro ds hds
  match ds, hds with
  | [d0, d1, d2], _ => rfl
theorem matches_holds : Rows.RouteMatchesReferenceSaid :=
  OpenClaim.holds_of_wide 3 Try.f3 rfl rfl rfl rfl rfl rfl rfl ⟨rfl, rfl, rfl, rfl, rfl⟩ rfl rfl rfl rfl rfl (by kernel_rfl) fn_3 (by kernel_rfl)
    (of_decide_eq_true (by kernel_rfl)) (by unfold Func.isWrapper; first | (rw [if_pos (by decide +kernel)]; kernel_rfl) | (rw [if_neg (by decide +kernel)]; exact ⟨rfl, rfl⟩))
    (fun os started H enc _ => matches_lifted os started H enc)
end Go.Proofs.Ytaphmhdgpdhpiaa
