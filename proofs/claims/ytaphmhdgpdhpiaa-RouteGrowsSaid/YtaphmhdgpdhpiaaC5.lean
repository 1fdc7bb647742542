/- Contracts: the laws' sanity. Nothing here is trusted; no condition. -/
import Derived.Test.YtaphmhdgpdhpiaaC4
set_option linter.unusedSimpArgs false
set_option linter.unusedVariables false
--SET+ blsR, blsF, back_3, back_4, back_5
namespace Go.Proofs.Ytaphmhdgpdhpiaa
set_option maxHeartbeats 4000000
set_option maxRecDepth 100000
theorem back_3 {i0 i1 i2 j : Nat} {r : List Nat} {d : Nat} : back (i0 :: i1 :: i2 :: j :: r) d 1000000003 = j := rfl
theorem back_4 {i0 i1 i2 i3 j : Nat} {r : List Nat} {d : Nat} : back (i0 :: i1 :: i2 :: i3 :: j :: r) d 1000000004 = j := rfl
theorem back_5 {i0 i1 i2 i3 i4 j : Nat} {r : List Nat} {d : Nat} : back (i0 :: i1 :: i2 :: i3 :: i4 :: j :: r) d 1000000005 = j := rfl
def blsR (n a : Int) (rs : List Rl) (L : List Bool) : List (Nat × Blk) := [(1000000000, .box [.fn 39 [.ref 1000000002 0, .ref 1000000003 0, .ref 1000000004 0]]), (1000000001, .box [.fn 51 [.ref 1000000000 0, .ref 1000000001 0]]), (1000000002, .box [.lfull 1000000005]), (1000000003, .box [.iv (.mp (.int .i64) (.sl (.int .i64))) (leavE rs)]), (1000000004, .box [.iv (.int .i64) n, .iv (.int .u8) a, .iv (.sl RuleT) rs]), (1000000005, .arr .bool L)]
def blsF (n a : Int) (rs : List Rl) (L : List Bool) : List (Nat × Blk) := [(1000000000, .box [.lfull 1000000003]), (1000000001, .box [.iv (.mp (.int .i64) (.sl (.int .i64))) (leavE rs)]), (1000000002, .box [.iv (.int .i64) n, .iv (.int .u8) a, .iv (.sl RuleT) rs]), (1000000003, .arr .bool L)]
def tgt (rs : List Rl) (j : Int) : Nat := match rs[j.toNat]? with | some r => r.2.1.toNat | none => 0
def grR (rs : List Rl) (m : Nat) : List Nat := (nexts (m : Int) rs 0).map (tgt rs)
theorem h_visit (n a : Int) (rs : List Rl) (hs : OkS (n, a, rs)) (f : Nat)
    (ih : ∀ (L : List Bool) (m : Int), L.length = n.toNat → 0 ≤ m → m < n → cf L < f → HC env 51 [.iv (.int .i64) m, .ref 1000000000 0, .ref 1000000001 0] (blsR n a rs L) (.tup []) (blsR n a rs (dfsC (grR rs) f L m.toNat)))
    (L : List Bool) (m : Int) (hL : L.length = n.toNat) (h0 : 0 ≤ m) (hm : m < n) (hc : cf L < f + 1) : HC env 39 [.iv (.int .i64) m, .fn 51 [.ref 1000000000 0, .ref 1000000001 0], .ref 1000000002 0, .ref 1000000003 0, .ref 1000000004 0] (blsR n a rs L) (.tup []) (blsR n a rs (dfsC (grR rs) (f + 1) L m.toNat)) := by
  have h8 := hs.n8
  have hr := hs.right
  have hl := hs.len
  dsimp only at h8 hr hl
  obtain ⟨b, hb⟩ : ∃ b, L[m.toNat]? = some b := get_of_lt (by omega)
  generalize hT : dfsC (grR rs) (f + 1) L m.toNat = T
  refine HC.of_PW (m := 2000) env_ok fn_39 rfl rfl rfl rfl (by kernel_rfl) ?_; intro hx hbl; simp only [Try.f39]; simp only [go_sem, Nat.reduceBEq, ↓reduceIte, ↓reduceDIte, Nat.reduceAdd, Nat.reduceSub, Nat.reduceMul, Nat.reduceLeDiff, ← Bool.decide_and, ← Bool.decide_or, ← decide_not, Int.reduceLT, Int.reduceLE, Int.reduceToNat, Int.reduceNeg, blsR, blsF, back_3, back_4, back_5]
  refine ⟨⟨h0, by omega⟩, b, hb, ?_⟩
  cases b
  · simp only [go_sem, Nat.reduceBEq, ↓reduceIte, ↓reduceDIte, Nat.reduceAdd, Nat.reduceSub, Nat.reduceMul, Nat.reduceLeDiff, ← Bool.decide_and, ← Bool.decide_or, ← decide_not, Int.reduceLT, Int.reduceLE, Int.reduceToNat, Int.reduceNeg, blsR, blsF, back_3, back_4, back_5]
    refine ⟨⟨h0, by omega⟩, ?_⟩
    rw [show (mfind (eqB (.int .i64)) (leavE rs) m).getD [] = nexts m rs 0 from leav_get rs m]
    have hT2 : ((nexts m rs 0).map (tgt rs)).foldl (fun L k => dfsC (grR rs) f L k) (L.set m.toNat true) = T := by
      rw [← hT]
      have e : dfsC (grR rs) (f + 1) L m.toNat = if L[m.toNat]? = some true then L else (grR rs m.toNat).foldl (fun L k => dfsC (grR rs) f L k) (L.set m.toNat true) := rfl
      rw [e, if_neg (by rw [hb]; simp)]
      unfold grR
      rw [show ((m.toNat : Nat) : Int) = m by omega]
    have hcf := cf_set hb
    have hnl := nexts_len m rs 0
    have hG : ∀ x y, y ∈ grR rs x → y < n.toNat := fun x y hy => by
      unfold grR at hy
      obtain ⟨j, hj, rfl⟩ := List.mem_map.1 hy
      obtain ⟨i, r, hi, _, rfl⟩ := nexts_mem.1 hj
      have := right_nums (hr r (List.mem_of_getElem? hi))
      unfold tgt
      rw [Nat.zero_add, Int.toNat_natCast, hi]
      show r.2.1.toNat < _
      omega
    refine Walks.loopA (X := Nat × List Bool) (fun (z : Nat × List Bool) => [(20, .iv (.int .i64) (z.1 : Int)), (8, .any)]) (fun (z : Nat × List Bool) => [(1000000005, .arr .bool z.2)]) (fun (z : Nat × List Bool) => z.1 ≤ (nexts m rs 0).length ∧ z.2.length = n.toNat ∧ cf z.2 < f ∧ (((nexts m rs 0).drop z.1).map (tgt rs)).foldl (fun L k => dfsC (grR rs) f L k) z.2 = T) (fun (z : Nat × List Bool) => (nexts m rs 0).length - z.1) (0, L.set m.toNat true) ?_; intro b1 b2 hb1 hb2; simp (config := {maxSteps := 4000000}) only [go_sem, Nat.reduceBEq, ↓reduceIte, ↓reduceDIte, Nat.reduceAdd, Nat.reduceSub, Nat.reduceMul, Nat.reduceLeDiff, ← Bool.decide_and, ← Bool.decide_or, ← decide_not, Int.reduceLT, Int.reduceLE, Int.reduceToNat, Int.reduceNeg, blsR, blsF, back_3, back_4, back_5] at hb1 hb2; subst hb1; subst hb2; refine ⟨(by refine ⟨?_, ?_, rfl, rfl⟩ <;> repeat' (first | exact trivial | exact Or.inl rfl | exact Or.inr rfl | (refine And.intro (Or.inl rfl) ?_) | (refine And.intro (Or.inr (Or.inl rfl)) ?_) | (refine And.intro (Or.inr (Or.inr (Or.inr ⟨rfl, rfl⟩))) ?_) | (refine And.intro (Or.inr (Or.inr (Or.inl ⟨rfl, rfl, trivial⟩))) ?_) | exact ⟨(by show (_ : Nat) < 1000000000; omega), rfl, rfl⟩ | rfl | (refine And.intro (Or.inl ?_) ?_) | (refine And.intro ?_ ?_))), ?_, ?_⟩
    · exact ⟨Nat.zero_le _, by simpa using hL, by dsimp only; omega, hT2⟩
    clear hT2
    intro ⟨k, M⟩ ⟨hk, hM, hcM, hT2⟩ back
    dsimp only at hk hM hcM hT2
    refine PW_sound env_ok ⟨_, fn_39, rfl⟩ 2000 _ _ (by kernel_rfl) ?_; simp only [go_sem, Nat.reduceBEq, ↓reduceIte, ↓reduceDIte, Nat.reduceAdd, Nat.reduceSub, Nat.reduceMul, Nat.reduceLeDiff, ← Bool.decide_and, ← Bool.decide_or, ← decide_not, Int.reduceLT, Int.reduceLE, Int.reduceToNat, Int.reduceNeg, blsR, blsF, back_3, back_4, back_5]
    refine ⟨fun g => ?_, fun g => ?_⟩
    · obtain ⟨j, hj⟩ : ∃ j, (nexts m rs 0)[k]? = some j := get_of_lt (by omega)
      obtain ⟨i, r, hri, hrm, hji⟩ := nexts_mem.1 (List.mem_of_getElem? hj)
      rw [Nat.zero_add] at hji
      subst hji
      have hri' : rs[((i : Int)).toNat]? = some r := by simpa using hri
      have hrn := right_nums (hr r (List.mem_of_getElem? hri))
      refine ⟨Int.natCast_nonneg _, (i : Int), hj, Int.natCast_nonneg _, r, hri', _, _, ih M r.2.1 hM (by omega) (by omega) hcM, rfl, ?_⟩
      simp only [go_sem, Nat.reduceBEq, ↓reduceIte, ↓reduceDIte, Nat.reduceAdd, Nat.reduceSub, Nat.reduceMul, Nat.reduceLeDiff, ← Bool.decide_and, ← Bool.decide_or, ← decide_not, Int.reduceLT, Int.reduceLE, Int.reduceToNat, Int.reduceNeg, blsR, blsF, back_3, back_4, back_5]
      intro _
      rw [drop_cons hj, List.map_cons, List.foldl_cons] at hT2
      have et : tgt rs (i : Int) = r.2.1.toNat := by unfold tgt; rw [hri']
      rw [et] at hT2
      have hd := (dfs_ok hG f M r.2.1.toNat hM (by omega) hcM).1
      refine ⟨i64_ok (by omega) (by omega), back _ (k + 1, dfsC (grR rs) f M r.2.1.toNat) (by refine ⟨?_, ?_, rfl, rfl⟩ <;> repeat' (first | exact trivial | exact Or.inl rfl | exact Or.inr rfl | (refine And.intro (Or.inl rfl) ?_) | (refine And.intro (Or.inr (Or.inl rfl)) ?_) | (refine And.intro (Or.inr (Or.inr (Or.inr ⟨rfl, rfl⟩))) ?_) | (refine And.intro (Or.inr (Or.inr (Or.inl ⟨rfl, rfl, trivial⟩))) ?_) | exact ⟨(by show (_ : Nat) < 1000000000; omega), rfl, rfl⟩ | rfl | (refine And.intro (Or.inl ?_) ?_) | (refine And.intro ?_ ?_))) ⟨(by first | omega | (show (_ : Int) ≤ _; omega) | (show (_ : Int) < _; omega) | (dsimp only; omega)), by dsimp only; rw [dfsC_len]; exact hM, by have := hd.cf; dsimp only; omega, hT2⟩ (by dsimp only; omega)⟩
    · rw [List.drop_of_length_le (by omega)] at hT2
      have e : M = T := hT2
      rw [e]
  · simp only [go_sem, Nat.reduceBEq, ↓reduceIte, ↓reduceDIte, Nat.reduceAdd, Nat.reduceSub, Nat.reduceMul, Nat.reduceLeDiff, ← Bool.decide_and, ← Bool.decide_or, ← decide_not, Int.reduceLT, Int.reduceLE, Int.reduceToNat, Int.reduceNeg, blsR, blsF, back_3, back_4, back_5]
    have e : dfsC (grR rs) (f + 1) L m.toNat = if L[m.toNat]? = some true then L else (grR rs m.toNat).foldl (fun L k => dfsC (grR rs) f L k) (L.set m.toNat true) := rfl
    rw [e, if_pos hb] at hT
    rw [hT]
theorem h_mark (n a : Int) (rs : List Rl) (hs : OkS (n, a, rs)) : ∀ (f : Nat) (L : List Bool) (m : Int), L.length = n.toNat → 0 ≤ m → m < n → cf L < f → HC env 51 [.iv (.int .i64) m, .ref 1000000000 0, .ref 1000000001 0] (blsR n a rs L) (.tup []) (blsR n a rs (dfsC (grR rs) f L m.toNat))
  | 0, L, m, _, _, _, h => by omega
  | f + 1, L, m, hL, h0, hm, hc => by
    have hv := h_visit n a rs hs f (h_mark n a rs hs f) L m hL h0 hm hc
    generalize dfsC (grR rs) (f + 1) L m.toNat = T at hv
    refine HC.of_PW (m := 2000) env_ok fn_51 rfl rfl rfl rfl (by kernel_rfl) ?_; intro hx hbl; simp only [Try.f51]; simp only [go_sem, Nat.reduceBEq, ↓reduceIte, ↓reduceDIte, Nat.reduceAdd, Nat.reduceSub, Nat.reduceMul, Nat.reduceLeDiff, ← Bool.decide_and, ← Bool.decide_or, ← decide_not, Int.reduceLT, Int.reduceLE, Int.reduceToNat, Int.reduceNeg, blsR, blsF, back_3, back_4, back_5]
    refine ⟨_, _, hv, rfl, ?_⟩
    simp only [go_sem, Nat.reduceBEq, ↓reduceIte, ↓reduceDIte, Nat.reduceAdd, Nat.reduceSub, Nat.reduceMul, Nat.reduceLeDiff, ← Bool.decide_and, ← Bool.decide_or, ← decide_not, Int.reduceLT, Int.reduceLE, Int.reduceToNat, Int.reduceNeg, blsR, blsF, back_3, back_4, back_5]
    intro _
    exact trivial
theorem h_from (n a : Int) (rs : List Rl) (hs : OkS (n, a, rs)) (f : Nat) (L : List Bool) (m : Int) (hL : L.length = n.toNat) (h0 : 0 ≤ m) (hm : m < n) (hc : cf L < f) : HC env 38 [.iv (.int .i64) m, .fn 39 [.ref 1000000000 0, .ref 1000000001 0, .ref 1000000002 0]] (blsF n a rs L) (.tup []) (blsF n a rs (dfsC (grR rs) f L m.toNat)) := by
  have hv := h_mark n a rs hs f L m hL h0 hm hc
  generalize dfsC (grR rs) f L m.toNat = T at hv
  refine HC.of_PW (m := 2000) env_ok fn_38 rfl rfl rfl rfl (by kernel_rfl) ?_; intro hx hbl; simp only [Try.f38]; simp only [go_sem, Nat.reduceBEq, ↓reduceIte, ↓reduceDIte, Nat.reduceAdd, Nat.reduceSub, Nat.reduceMul, Nat.reduceLeDiff, ← Bool.decide_and, ← Bool.decide_or, ← decide_not, Int.reduceLT, Int.reduceLE, Int.reduceToNat, Int.reduceNeg, blsR, blsF, back_3, back_4, back_5]
  refine ⟨_, _, hv, rfl, ?_⟩
  simp only [go_sem, Nat.reduceBEq, ↓reduceIte, ↓reduceDIte, Nat.reduceAdd, Nat.reduceSub, Nat.reduceMul, Nat.reduceLeDiff, ← Bool.decide_and, ← Bool.decide_or, ← decide_not, Int.reduceLT, Int.reduceLE, Int.reduceToNat, Int.reduceNeg, blsR, blsF, back_3, back_4, back_5]
  intro _
  exact trivial
theorem grR_edge {rs : List Rl} {x y : Nat} : y ∈ grR rs x ↔ ∃ r, r ∈ rs ∧ r.1 = (x : Int) ∧ y = r.2.1.toNat := by
  unfold grR
  constructor
  · intro hy
    obtain ⟨j, hj, rfl⟩ := List.mem_map.1 hy
    obtain ⟨i, r, hi, hm, rfl⟩ := nexts_mem.1 hj
    refine ⟨r, List.mem_of_getElem? hi, hm, ?_⟩
    unfold tgt
    rw [Nat.zero_add, Int.toNat_natCast, hi]
  · rintro ⟨r, hr, hm, rfl⟩
    obtain ⟨i, hi⟩ := List.getElem?_of_mem hr
    refine List.mem_map.2 ⟨(i : Int), nexts_mem.2 ⟨i, r, hi, hm, by rw [Nat.zero_add]⟩, ?_⟩
    unfold tgt
    rw [Int.toNat_natCast, hi]
theorem dfs_is {n a : Int} {rs : List Rl} (hs : OkS (n, a, rs)) : dfsC (grR rs) (n.toNat + 1) (List.replicate n.toNat false) 0 = reachedE (n, a, rs) := by
  have h1 := hs.n1
  have hr := hs.right
  dsimp only at h1 hr
  have off : ∀ m, ¬ on (List.replicate n.toNat false) m := fun m h => by
    unfold on at h
    rw [List.getElem?_replicate] at h
    split at h <;> simp at h
  have hst : (startR n.toNat).length = n.toNat := by unfold startR; simp
  have on0 : ∀ m, on (startR n.toNat) m → m = 0 := fun m h => by
    rcases on_set_cases h with e | e
    · exact e
    · exact absurd e (off m)
  have hG : ∀ x y, y ∈ grR rs x → y < n.toNat := fun x y hy => by
    obtain ⟨r, h1, h2, rfl⟩ := grR_edge.1 hy
    have := right_nums (hr r h1)
    omega
  have hE : ∀ x y, y ∈ grR rs x → (x, y) ∈ edgesR rs := fun x y hy => by
    obtain ⟨r, h1, h2, rfl⟩ := grR_edge.1 hy
    exact List.mem_map.2 ⟨r, h1, by rw [h2, Int.toNat_natCast]⟩
  have hcf : cf (List.replicate n.toNat false) < n.toNat + 1 := by
    have := cf_le (List.replicate n.toNat false)
    rw [List.length_replicate] at this
    omega
  obtain ⟨d1, d2⟩ := dfs_ok hG (n.toNat + 1) (List.replicate n.toNat false) 0 (List.length_replicate ..) (by omega) hcf
  refine clos_uniq ?_ (by rw [hst]; exact Nat.le_refl _) (by rw [dfsC_len, hst, List.length_replicate]) (dfs_sound hE _ _ _ (fun m h => absurd h (off m)) (.base 0 (on_set_self (by rw [List.length_replicate]; omega)))) ?_ ?_
  · intro e he
    unfold edgesR at he
    obtain ⟨r, hrm, rfl⟩ := List.mem_map.1 he
    have := right_nums (hr r hrm)
    rw [hst]
    show r.2.1.toNat < n.toNat
    omega
  · intro e he hon
    rcases d1.new _ hon with h | h
    · exact absurd h (off _)
    · refine h _ ?_
      unfold edgesR at he
      obtain ⟨r, hrm, rfl⟩ := List.mem_map.1 he
      have := right_nums (hr r hrm)
      exact grR_edge.2 ⟨r, hrm, by show r.1 = ((r.1.toNat : Nat) : Int); omega, rfl⟩
  · intro m hm
    rw [on0 m hm]
    exact d2
theorem c_Reached (s : Sch) (hs : OkS s) : PC env 20 [⟨SchemeT, s⟩] (.sl .bool) (reachedE s) := by
  have hs0 := hs
  obtain ⟨n, a, rs⟩ := s
  have h1 := hs.n1
  have h8 := hs.n8
  dsimp only at h1 h8
  have hf := h_from n a rs hs0 (n.toNat + 1) (List.replicate n.toNat false) 0 (List.length_replicate ..) (Int.le_refl _) (by omega) (by have := cf_le (List.replicate n.toNat false); rw [List.length_replicate] at this; omega)
  rw [show Int.toNat 0 = 0 from rfl, dfs_is hs0] at hf
  generalize reachedE (n, a, rs) = T at hf ⊢
  refine PC.of_PW (m := 2000) env_ok fn_20 rfl rfl rfl rfl (by kernel_rfl) ?_; intro hx; simp only [Try.f20]; simp only [go_sem, Nat.reduceBEq, ↓reduceIte, ↓reduceDIte, Nat.reduceAdd, Nat.reduceSub, Nat.reduceMul, Nat.reduceLeDiff, ← Bool.decide_and, ← Bool.decide_or, ← decide_not, Int.reduceLT, Int.reduceLE, Int.reduceToNat, Int.reduceNeg, blsR, blsF, back_3, back_4, back_5]
  refine ⟨_, _, h_marks (n, a, rs) ⟨by dsimp only; omega, h8⟩, rfl, ?_⟩
  simp only [go_sem, Nat.reduceBEq, ↓reduceIte, ↓reduceDIte, Nat.reduceAdd, Nat.reduceSub, Nat.reduceMul, Nat.reduceLeDiff, ← Bool.decide_and, ← Bool.decide_or, ← decide_not, Int.reduceLT, Int.reduceLE, Int.reduceToNat, Int.reduceNeg, blsR, blsF, back_3, back_4, back_5]
  intro _
  refine ⟨fun h => absurd h (by rw [List.length_replicate]; omega), fun _ => ⟨_, c_leaving (n, a, rs) hs0, fun _ => ⟨_, _, hf, rfl, ?_⟩⟩⟩
  simp only [go_sem, Nat.reduceBEq, ↓reduceIte, ↓reduceDIte, Nat.reduceAdd, Nat.reduceSub, Nat.reduceMul, Nat.reduceLeDiff, ← Bool.decide_and, ← Bool.decide_or, ← decide_not, Int.reduceLT, Int.reduceLE, Int.reduceToNat, Int.reduceNeg, blsR, blsF, back_3, back_4, back_5]
  exact fun _ => trivial
end Go.Proofs.Ytaphmhdgpdhpiaa
--SET+ tr1P, tr1B, tr2P, tr2B, St.ren, permF
namespace Go.Proofs.Ytaphmhdgpdhpiaa
set_option maxHeartbeats 4000000
set_option maxRecDepth 100000
abbrev TrL := List (Rl × Int)
def pairsT (R L : List Bool) : List Rl → Nat → TrL
  | [], _ => []
  | r :: rs, i => if R[r.1.toNat]? = some true ∧ L[r.2.1.toNat]? = some true then (r, (i : Int)) :: pairsT R L rs (i + 1) else pairsT R L rs (i + 1)
def trimL (s : Sch) : TrL := pairsT (reachedE s) (liveE s) s.2.2 0
def trimE (s : Sch) : Sch × List Int := ((s.1, s.2.1, (trimL s).map (·.1)), (trimL s).map (·.2))
theorem pairsT_yes {R L : List Bool} {r : Rl} {rs : List Rl} {i : Nat} (h1 : R[r.1.toNat]? = some true) (h2 : L[r.2.1.toNat]? = some true) : pairsT R L (r :: rs) i = (r, (i : Int)) :: pairsT R L rs (i + 1) := by
  have e : pairsT R L (r :: rs) i = if R[r.1.toNat]? = some true ∧ L[r.2.1.toNat]? = some true then (r, (i : Int)) :: pairsT R L rs (i + 1) else pairsT R L rs (i + 1) := rfl
  rw [e, if_pos ⟨h1, h2⟩]
theorem pairsT_no {R L : List Bool} {r : Rl} {rs : List Rl} {i : Nat} (h : R[r.1.toNat]? = some false ∨ L[r.2.1.toNat]? = some false) : pairsT R L (r :: rs) i = pairsT R L rs (i + 1) := by
  have e : pairsT R L (r :: rs) i = if R[r.1.toNat]? = some true ∧ L[r.2.1.toNat]? = some true then (r, (i : Int)) :: pairsT R L rs (i + 1) else pairsT R L rs (i + 1) := rfl
  rw [e, if_neg]
  rintro ⟨a, b⟩
  rcases h with h | h
  · rw [a] at h; simp at h
  · rw [b] at h; simp at h
theorem pairsT_len (R L : List Bool) : ∀ (rs : List Rl) (i : Nat), (pairsT R L rs i).length ≤ rs.length
  | [], _ => Nat.le_refl _
  | r :: rs, i => by
    have := pairsT_len R L rs (i + 1)
    unfold pairsT
    split <;> simp only [List.length_cons] <;> omega
def tr1P : TrL → PV × PV
  | [] => (.nilsl, .nilsl) | _ :: _ => (.lfull 48, .lfull 53)
def tr1B : TrL → List (Nat × Blk)
  | [] => [] | x :: r => [(48, .arr RuleT ((x :: r).map (·.1))), (53, .arr (.int .i64) ((x :: r).map (·.2)))]
def tr2P : TrL → PV
  | [] => .nilsl | _ :: _ => .lfull 1000
def tr2B : TrL → List (Nat × Blk)
  | [] => [(18, .arr (.int .i64) [])] | x :: r => [(1000, .arr RuleT ((x :: r).map (·.1))), (18, .arr (.int .i64) ((x :: r).map (·.2)))]
theorem c_Trim (s : Sch) (hs : OkS s) : PC env 13 [⟨SchemeT, s⟩] (.tup SchemeT (.sl (.int .i64))) (trimE s) := by
  have hs0 := hs
  have hRl : (reachedE s).length = s.1.toNat := by unfold reachedE; rw [closC_len]; unfold startR; simp
  have hLl : (liveE s).length = s.1.toNat := by unfold liveE; rw [closC_len, startL_len]
  have c1 := c_Reached s hs
  have c2 := c_Live s hs
  have hT : pairsT (reachedE s) (liveE s) s.2.2 0 = trimL s := rfl
  have hE : trimE s = ((s.1, s.2.1, (trimL s).map (·.1)), (trimL s).map (·.2)) := rfl
  rw [hE]
  generalize reachedE s = R at *
  generalize liveE s = L at *
  generalize trimL s = T at *
  obtain ⟨n, a, rs⟩ := s
  have h8 := hs.n8
  have hl := hs.len
  have hr := hs.right
  dsimp only at h8 hl hr hRl hLl hT ⊢
  refine PC.of_PW (m := 2000) env_ok fn_13 rfl rfl rfl rfl (by kernel_rfl) ?_; intro hx; simp only [Try.f13]; simp only [go_sem, Nat.reduceBEq, ↓reduceIte, ↓reduceDIte, Nat.reduceAdd, Nat.reduceSub, Nat.reduceMul, Nat.reduceLeDiff, ← Bool.decide_and, ← Bool.decide_or, ← decide_not, Int.reduceLT, Int.reduceLE, Int.reduceToNat, Int.reduceNeg, tr1P, tr1B, tr2P, tr2B, St.ren, permF]
  refine ⟨_, c1, fun _ => ⟨_, c2, fun _ => ?_⟩⟩
  refine Walks.loopA (X := Nat × TrL) (fun (z : Nat × TrL) => [(22, .iv (.int .i64) (z.1 : Int)), (7, (tr1P z.2).2), (8, .any), (9, .any)]) (fun (z : Nat × TrL) => ((6, .box [.iv (.int .i64) n, .iv (.int .u8) a, (tr1P z.2).1]) :: tr1B z.2)) (fun (z : Nat × TrL) => z.1 ≤ rs.length ∧ z.2.length ≤ z.1 ∧ z.2 ++ pairsT R L (rs.drop z.1) z.1 = T) (fun (z : Nat × TrL) => rs.length - z.1) (0, []) ?_; intro b1 b2 hb1 hb2; simp (config := {maxSteps := 4000000}) only [go_sem, Nat.reduceBEq, ↓reduceIte, ↓reduceDIte, Nat.reduceAdd, Nat.reduceSub, Nat.reduceMul, Nat.reduceLeDiff, ← Bool.decide_and, ← Bool.decide_or, ← decide_not, Int.reduceLT, Int.reduceLE, Int.reduceToNat, Int.reduceNeg, tr1P, tr1B, tr2P, tr2B, St.ren, permF] at hb1 hb2; subst hb1; subst hb2; refine ⟨(by refine ⟨?_, ?_, rfl, rfl⟩ <;> repeat' (first | exact trivial | exact Or.inl rfl | exact Or.inr rfl | (refine And.intro (Or.inl rfl) ?_) | (refine And.intro (Or.inr (Or.inl rfl)) ?_) | (refine And.intro (Or.inr (Or.inr (Or.inr ⟨rfl, rfl⟩))) ?_) | (refine And.intro (Or.inr (Or.inr (Or.inl ⟨rfl, rfl, trivial⟩))) ?_) | exact ⟨(by show (_ : Nat) < 1000000000; omega), rfl, rfl⟩ | rfl | (refine And.intro (Or.inl ?_) ?_) | (refine And.intro ?_ ?_))), ?_, ?_⟩
  · exact ⟨Nat.zero_le _, Nat.le_refl _, hT⟩
  clear hT
  intro ⟨k, acc⟩ ⟨hk, ha, hT⟩ back
  dsimp only at hk ha hT
  rcases acc with _ | ⟨p0, acc⟩
  · refine PW_sound env_ok ⟨_, fn_13, rfl⟩ 2000 _ _ (by kernel_rfl) ?_; simp only [go_sem, Nat.reduceBEq, ↓reduceIte, ↓reduceDIte, Nat.reduceAdd, Nat.reduceSub, Nat.reduceMul, Nat.reduceLeDiff, ← Bool.decide_and, ← Bool.decide_or, ← decide_not, Int.reduceLT, Int.reduceLE, Int.reduceToNat, Int.reduceNeg, tr1P, tr1B, tr2P, tr2B, St.ren, permF]
    refine ⟨fun g => ?_, fun g => ?_⟩
    · obtain ⟨r, hri⟩ : ∃ r, rs[k]? = some r := get_of_lt (by omega)
      have hrr := hr r (List.mem_of_getElem? hri)
      have hrn := right_nums hrr
      rw [drop_cons hri] at hT
      obtain ⟨b1, hb1⟩ : ∃ b, R[r.1.toNat]? = some b := get_of_lt (by omega)
      obtain ⟨b2, hb2⟩ : ∃ b, L[r.2.1.toNat]? = some b := get_of_lt (by omega)
      have hf := c_fits (n, a, rs) r
      dsimp only at hf
      rw [right_fits h8 hrr] at hf
      refine ⟨Int.natCast_nonneg _, r, hri, _, hf, ?_⟩
      simp only [go_sem, Nat.reduceBEq, ↓reduceIte, ↓reduceDIte, Nat.reduceAdd, Nat.reduceSub, Nat.reduceMul, Nat.reduceLeDiff, ← Bool.decide_and, ← Bool.decide_or, ← decide_not, Int.reduceLT, Int.reduceLE, Int.reduceToNat, Int.reduceNeg, tr1P, tr1B, tr2P, tr2B, St.ren, permF]
      refine ⟨by omega, b1, hb1, ?_⟩
      cases b1
      · simp only [go_sem, Nat.reduceBEq, ↓reduceIte, ↓reduceDIte, Nat.reduceAdd, Nat.reduceSub, Nat.reduceMul, Nat.reduceLeDiff, ← Bool.decide_and, ← Bool.decide_or, ← decide_not, Int.reduceLT, Int.reduceLE, Int.reduceToNat, Int.reduceNeg, tr1P, tr1B, tr2P, tr2B, St.ren, permF]
        rw [pairsT_no (.inl hb1)] at hT
        exact ⟨i64_ok (by omega) (by omega), back _ (k + 1, []) (by refine ⟨?_, ?_, rfl, rfl⟩ <;> repeat' (first | exact trivial | exact Or.inl rfl | exact Or.inr rfl | (refine And.intro (Or.inl rfl) ?_) | (refine And.intro (Or.inr (Or.inl rfl)) ?_) | (refine And.intro (Or.inr (Or.inr (Or.inr ⟨rfl, rfl⟩))) ?_) | (refine And.intro (Or.inr (Or.inr (Or.inl ⟨rfl, rfl, trivial⟩))) ?_) | exact ⟨(by show (_ : Nat) < 1000000000; omega), rfl, rfl⟩ | rfl | (refine And.intro (Or.inl ?_) ?_) | (refine And.intro ?_ ?_))) ⟨(by first | omega | (show (_ : Int) ≤ _; omega) | (show (_ : Int) < _; omega) | (dsimp only; omega)), by dsimp only; omega, hT⟩ (by dsimp only; omega)⟩
      · simp only [go_sem, Nat.reduceBEq, ↓reduceIte, ↓reduceDIte, Nat.reduceAdd, Nat.reduceSub, Nat.reduceMul, Nat.reduceLeDiff, ← Bool.decide_and, ← Bool.decide_or, ← decide_not, Int.reduceLT, Int.reduceLE, Int.reduceToNat, Int.reduceNeg, tr1P, tr1B, tr2P, tr2B, St.ren, permF]
        refine ⟨by omega, b2, hb2, ?_⟩
        cases b2
        · simp only [go_sem, Nat.reduceBEq, ↓reduceIte, ↓reduceDIte, Nat.reduceAdd, Nat.reduceSub, Nat.reduceMul, Nat.reduceLeDiff, ← Bool.decide_and, ← Bool.decide_or, ← decide_not, Int.reduceLT, Int.reduceLE, Int.reduceToNat, Int.reduceNeg, tr1P, tr1B, tr2P, tr2B, St.ren, permF]
          rw [pairsT_no (.inr hb2)] at hT
          exact ⟨i64_ok (by omega) (by omega), back _ (k + 1, []) (by refine ⟨?_, ?_, rfl, rfl⟩ <;> repeat' (first | exact trivial | exact Or.inl rfl | exact Or.inr rfl | (refine And.intro (Or.inl rfl) ?_) | (refine And.intro (Or.inr (Or.inl rfl)) ?_) | (refine And.intro (Or.inr (Or.inr (Or.inr ⟨rfl, rfl⟩))) ?_) | (refine And.intro (Or.inr (Or.inr (Or.inl ⟨rfl, rfl, trivial⟩))) ?_) | exact ⟨(by show (_ : Nat) < 1000000000; omega), rfl, rfl⟩ | rfl | (refine And.intro (Or.inl ?_) ?_) | (refine And.intro ?_ ?_))) ⟨(by first | omega | (show (_ : Int) ≤ _; omega) | (show (_ : Int) < _; omega) | (dsimp only; omega)), by dsimp only; omega, hT⟩ (by dsimp only; omega)⟩
        · simp only [go_sem, Nat.reduceBEq, ↓reduceIte, ↓reduceDIte, Nat.reduceAdd, Nat.reduceSub, Nat.reduceMul, Nat.reduceLeDiff, ← Bool.decide_and, ← Bool.decide_or, ← decide_not, Int.reduceLT, Int.reduceLE, Int.reduceToNat, Int.reduceNeg, tr1P, tr1B, tr2P, tr2B, St.ren, permF]
          rw [pairsT_yes hb1 hb2] at hT
          exact ⟨i64_ok (by omega) (by omega), back _ (k + 1, [(r, (k : Int))]) (by refine ⟨?_, ?_, rfl, rfl⟩ <;> repeat' (first | exact trivial | exact Or.inl rfl | exact Or.inr rfl | (refine And.intro (Or.inl rfl) ?_) | (refine And.intro (Or.inr (Or.inl rfl)) ?_) | (refine And.intro (Or.inr (Or.inr (Or.inr ⟨rfl, rfl⟩))) ?_) | (refine And.intro (Or.inr (Or.inr (Or.inl ⟨rfl, rfl, trivial⟩))) ?_) | exact ⟨(by show (_ : Nat) < 1000000000; omega), rfl, rfl⟩ | rfl | (refine And.intro (Or.inl ?_) ?_) | (refine And.intro ?_ ?_))) ⟨(by first | omega | (show (_ : Int) ≤ _; omega) | (show (_ : Int) < _; omega) | (dsimp only; omega)), by simp, hT⟩ (by dsimp only; omega)⟩
    · rw [List.drop_of_length_le (by omega)] at hT
      have e : ([] : TrL) = T := by simpa [pairsT] using hT
      rw [← e]; rfl
  · refine PW_sound env_ok ⟨_, fn_13, rfl⟩ 2000 _ _ (by kernel_rfl) ?_; simp only [go_sem, Nat.reduceBEq, ↓reduceIte, ↓reduceDIte, Nat.reduceAdd, Nat.reduceSub, Nat.reduceMul, Nat.reduceLeDiff, ← Bool.decide_and, ← Bool.decide_or, ← decide_not, Int.reduceLT, Int.reduceLE, Int.reduceToNat, Int.reduceNeg, tr1P, tr1B, tr2P, tr2B, St.ren, permF]
    refine ⟨fun g => ?_, fun g => ?_⟩
    · obtain ⟨r, hri⟩ : ∃ r, rs[k]? = some r := get_of_lt (by omega)
      have hrr := hr r (List.mem_of_getElem? hri)
      have hrn := right_nums hrr
      rw [drop_cons hri] at hT
      obtain ⟨b1, hb1⟩ : ∃ b, R[r.1.toNat]? = some b := get_of_lt (by omega)
      obtain ⟨b2, hb2⟩ : ∃ b, L[r.2.1.toNat]? = some b := get_of_lt (by omega)
      have hf := c_fits (n, a, rs) r
      dsimp only at hf
      rw [right_fits h8 hrr] at hf
      refine ⟨Int.natCast_nonneg _, r, hri, _, hf, ?_⟩
      simp only [go_sem, Nat.reduceBEq, ↓reduceIte, ↓reduceDIte, Nat.reduceAdd, Nat.reduceSub, Nat.reduceMul, Nat.reduceLeDiff, ← Bool.decide_and, ← Bool.decide_or, ← decide_not, Int.reduceLT, Int.reduceLE, Int.reduceToNat, Int.reduceNeg, tr1P, tr1B, tr2P, tr2B, St.ren, permF]
      refine ⟨by omega, b1, hb1, ?_⟩
      cases b1
      · simp only [go_sem, Nat.reduceBEq, ↓reduceIte, ↓reduceDIte, Nat.reduceAdd, Nat.reduceSub, Nat.reduceMul, Nat.reduceLeDiff, ← Bool.decide_and, ← Bool.decide_or, ← decide_not, Int.reduceLT, Int.reduceLE, Int.reduceToNat, Int.reduceNeg, tr1P, tr1B, tr2P, tr2B, St.ren, permF]
        rw [pairsT_no (.inl hb1)] at hT
        exact ⟨i64_ok (by omega) (by omega), back _ (k + 1, p0 :: acc) (by refine ⟨?_, ?_, rfl, rfl⟩ <;> repeat' (first | exact trivial | exact Or.inl rfl | exact Or.inr rfl | (refine And.intro (Or.inl rfl) ?_) | (refine And.intro (Or.inr (Or.inl rfl)) ?_) | (refine And.intro (Or.inr (Or.inr (Or.inr ⟨rfl, rfl⟩))) ?_) | (refine And.intro (Or.inr (Or.inr (Or.inl ⟨rfl, rfl, trivial⟩))) ?_) | exact ⟨(by show (_ : Nat) < 1000000000; omega), rfl, rfl⟩ | rfl | (refine And.intro (Or.inl ?_) ?_) | (refine And.intro ?_ ?_))) ⟨(by first | omega | (show (_ : Int) ≤ _; omega) | (show (_ : Int) < _; omega) | (dsimp only; omega)), by dsimp only; omega, hT⟩ (by dsimp only; omega)⟩
      · simp only [go_sem, Nat.reduceBEq, ↓reduceIte, ↓reduceDIte, Nat.reduceAdd, Nat.reduceSub, Nat.reduceMul, Nat.reduceLeDiff, ← Bool.decide_and, ← Bool.decide_or, ← decide_not, Int.reduceLT, Int.reduceLE, Int.reduceToNat, Int.reduceNeg, tr1P, tr1B, tr2P, tr2B, St.ren, permF]
        refine ⟨by omega, b2, hb2, ?_⟩
        cases b2
        · simp only [go_sem, Nat.reduceBEq, ↓reduceIte, ↓reduceDIte, Nat.reduceAdd, Nat.reduceSub, Nat.reduceMul, Nat.reduceLeDiff, ← Bool.decide_and, ← Bool.decide_or, ← decide_not, Int.reduceLT, Int.reduceLE, Int.reduceToNat, Int.reduceNeg, tr1P, tr1B, tr2P, tr2B, St.ren, permF]
          rw [pairsT_no (.inr hb2)] at hT
          exact ⟨i64_ok (by omega) (by omega), back _ (k + 1, p0 :: acc) (by refine ⟨?_, ?_, rfl, rfl⟩ <;> repeat' (first | exact trivial | exact Or.inl rfl | exact Or.inr rfl | (refine And.intro (Or.inl rfl) ?_) | (refine And.intro (Or.inr (Or.inl rfl)) ?_) | (refine And.intro (Or.inr (Or.inr (Or.inr ⟨rfl, rfl⟩))) ?_) | (refine And.intro (Or.inr (Or.inr (Or.inl ⟨rfl, rfl, trivial⟩))) ?_) | exact ⟨(by show (_ : Nat) < 1000000000; omega), rfl, rfl⟩ | rfl | (refine And.intro (Or.inl ?_) ?_) | (refine And.intro ?_ ?_))) ⟨(by first | omega | (show (_ : Int) ≤ _; omega) | (show (_ : Int) < _; omega) | (dsimp only; omega)), by dsimp only; omega, hT⟩ (by dsimp only; omega)⟩
        · simp only [go_sem, Nat.reduceBEq, ↓reduceIte, ↓reduceDIte, Nat.reduceAdd, Nat.reduceSub, Nat.reduceMul, Nat.reduceLeDiff, ← Bool.decide_and, ← Bool.decide_or, ← decide_not, Int.reduceLT, Int.reduceLE, Int.reduceToNat, Int.reduceNeg, tr1P, tr1B, tr2P, tr2B, St.ren, permF]
          rw [pairsT_yes hb1 hb2] at hT
          have e1 : List.map (fun x : Rl × Int => x.2) acc ++ [(k : Int)] = List.map (fun x => x.2) (acc ++ [(r, (k : Int))]) := by simp
          have e2 : List.map (fun x : Rl × Int => x.1) acc ++ [(r.1, r.2.1, r.2.2.1, r.2.2.2.1, r.2.2.2.2)] = List.map (fun x => x.1) (acc ++ [(r, (k : Int))]) := by simp
          rw [e1, e2]
          simp only [List.length_cons] at ha
          exact ⟨by rw [List.length_map]; omega, by rw [List.length_map]; omega, i64_ok (by omega) (by omega), back _ (k + 1, p0 :: (acc ++ [(r, (k : Int))])) (by refine ⟨?_, ?_, rfl, rfl⟩ <;> repeat' (first | exact trivial | exact Or.inl rfl | exact Or.inr rfl | (refine And.intro (Or.inl rfl) ?_) | (refine And.intro (Or.inr (Or.inl rfl)) ?_) | (refine And.intro (Or.inr (Or.inr (Or.inr ⟨rfl, rfl⟩))) ?_) | (refine And.intro (Or.inr (Or.inr (Or.inl ⟨rfl, rfl, trivial⟩))) ?_) | exact ⟨(by show (_ : Nat) < 1000000000; omega), rfl, rfl⟩ | rfl | (refine And.intro (Or.inl ?_) ?_) | (refine And.intro ?_ ?_))) ⟨(by first | omega | (show (_ : Int) ≤ _; omega) | (show (_ : Int) < _; omega) | (dsimp only; omega)), by simp; omega, by rw [← hT]; simp⟩ (by dsimp only; omega)⟩
    · rw [List.drop_of_length_le (by omega)] at hT
      have e : p0 :: acc = T := by simpa [pairsT] using hT
      rw [← e]; rfl
theorem c_TrimR (s : Sch) (hs : OkS s) : PC env 14 [⟨SchemeT, s⟩] (.tup SchemeT (.sl (.int .i64))) (trimE s) := by
  have hs0 := hs
  have hRl : (reachedE s).length = s.1.toNat := by unfold reachedE; rw [closC_len]; unfold startR; simp
  have hLl : (liveE s).length = s.1.toNat := by unfold liveE; rw [closC_len, startL_len]
  have c1 := c_ReachedR s hs
  have c2 := c_LiveR s hs
  have hT : pairsT (reachedE s) (liveE s) s.2.2 0 = trimL s := rfl
  have hE : trimE s = ((s.1, s.2.1, (trimL s).map (·.1)), (trimL s).map (·.2)) := rfl
  rw [hE]
  generalize reachedE s = R at *
  generalize liveE s = L at *
  generalize trimL s = T at *
  obtain ⟨n, a, rs⟩ := s
  have h8 := hs.n8
  have hl := hs.len
  have hr := hs.right
  dsimp only at h8 hl hr hRl hLl hT ⊢
  refine PC.of_PW (m := 2000) env_ok fn_14 rfl rfl rfl rfl (by kernel_rfl) ?_; intro hx; simp only [Try.f14]; simp only [go_sem, Nat.reduceBEq, ↓reduceIte, ↓reduceDIte, Nat.reduceAdd, Nat.reduceSub, Nat.reduceMul, Nat.reduceLeDiff, ← Bool.decide_and, ← Bool.decide_or, ← decide_not, Int.reduceLT, Int.reduceLE, Int.reduceToNat, Int.reduceNeg, tr1P, tr1B, tr2P, tr2B, St.ren, permF]
  refine ⟨_, c1, fun _ => ⟨_, c2, fun _ => ?_⟩⟩
  refine Walks.loopA (X := Nat × TrL) (fun (z : Nat × TrL) => [(8, .iv (.int .i64) (z.1 : Int)), (7, .lfull 18), (59, .any), (18, .any)]) (fun (z : Nat × TrL) => ((6, .box [.iv (.int .i64) n, .iv (.int .u8) a, tr2P z.2]) :: tr2B z.2)) (fun (z : Nat × TrL) => z.1 ≤ rs.length ∧ z.2.length ≤ z.1 ∧ z.2 ++ pairsT R L (rs.drop z.1) z.1 = T) (fun (z : Nat × TrL) => rs.length - z.1) (0, []) ?_; intro b1 b2 hb1 hb2; simp (config := {maxSteps := 4000000}) only [go_sem, Nat.reduceBEq, ↓reduceIte, ↓reduceDIte, Nat.reduceAdd, Nat.reduceSub, Nat.reduceMul, Nat.reduceLeDiff, ← Bool.decide_and, ← Bool.decide_or, ← decide_not, Int.reduceLT, Int.reduceLE, Int.reduceToNat, Int.reduceNeg, tr1P, tr1B, tr2P, tr2B, St.ren, permF] at hb1 hb2; subst hb1; subst hb2; refine ⟨(by refine ⟨?_, ?_, rfl, rfl⟩ <;> repeat' (first | exact trivial | exact Or.inl rfl | exact Or.inr rfl | (refine And.intro (Or.inl rfl) ?_) | (refine And.intro (Or.inr (Or.inl rfl)) ?_) | (refine And.intro (Or.inr (Or.inr (Or.inr ⟨rfl, rfl⟩))) ?_) | (refine And.intro (Or.inr (Or.inr (Or.inl ⟨rfl, rfl, trivial⟩))) ?_) | exact ⟨(by show (_ : Nat) < 1000000000; omega), rfl, rfl⟩ | rfl | (refine And.intro (Or.inl ?_) ?_) | (refine And.intro ?_ ?_))), ?_, ?_⟩
  · exact ⟨Nat.zero_le _, Nat.le_refl _, hT⟩
  clear hT
  intro ⟨k, acc⟩ ⟨hk, ha, hT⟩ back
  dsimp only at hk ha hT
  rcases acc with _ | ⟨p0, acc⟩
  · refine PW_sound env_ok ⟨_, fn_14, rfl⟩ 2000 _ _ (by kernel_rfl) ?_; simp only [go_sem, Nat.reduceBEq, ↓reduceIte, ↓reduceDIte, Nat.reduceAdd, Nat.reduceSub, Nat.reduceMul, Nat.reduceLeDiff, ← Bool.decide_and, ← Bool.decide_or, ← decide_not, Int.reduceLT, Int.reduceLE, Int.reduceToNat, Int.reduceNeg, tr1P, tr1B, tr2P, tr2B, St.ren, permF]
    refine ⟨fun g => ?_, fun g => ?_⟩
    · obtain ⟨r, hri⟩ : ∃ r, rs[k]? = some r := get_of_lt (by omega)
      have hrr := hr r (List.mem_of_getElem? hri)
      have hrn := right_nums hrr
      rw [drop_cons hri] at hT
      obtain ⟨b1, hb1⟩ : ∃ b, R[r.1.toNat]? = some b := get_of_lt (by omega)
      obtain ⟨b2, hb2⟩ : ∃ b, L[r.2.1.toNat]? = some b := get_of_lt (by omega)
      refine ⟨Int.natCast_nonneg _, r, hri, by omega, b1, hb1, ?_⟩
      cases b1
      · simp only [go_sem, Nat.reduceBEq, ↓reduceIte, ↓reduceDIte, Nat.reduceAdd, Nat.reduceSub, Nat.reduceMul, Nat.reduceLeDiff, ← Bool.decide_and, ← Bool.decide_or, ← decide_not, Int.reduceLT, Int.reduceLE, Int.reduceToNat, Int.reduceNeg, tr1P, tr1B, tr2P, tr2B, St.ren, permF]
        rw [pairsT_no (.inl hb1)] at hT
        exact ⟨i64_ok (by omega) (by omega), back _ (k + 1, []) (by refine ⟨?_, ?_, rfl, rfl⟩ <;> repeat' (first | exact trivial | exact Or.inl rfl | exact Or.inr rfl | (refine And.intro (Or.inl rfl) ?_) | (refine And.intro (Or.inr (Or.inl rfl)) ?_) | (refine And.intro (Or.inr (Or.inr (Or.inr ⟨rfl, rfl⟩))) ?_) | (refine And.intro (Or.inr (Or.inr (Or.inl ⟨rfl, rfl, trivial⟩))) ?_) | exact ⟨(by show (_ : Nat) < 1000000000; omega), rfl, rfl⟩ | rfl | (refine And.intro (Or.inl ?_) ?_) | (refine And.intro ?_ ?_))) ⟨(by first | omega | (show (_ : Int) ≤ _; omega) | (show (_ : Int) < _; omega) | (dsimp only; omega)), by dsimp only; omega, hT⟩ (by dsimp only; omega)⟩
      · simp only [go_sem, Nat.reduceBEq, ↓reduceIte, ↓reduceDIte, Nat.reduceAdd, Nat.reduceSub, Nat.reduceMul, Nat.reduceLeDiff, ← Bool.decide_and, ← Bool.decide_or, ← decide_not, Int.reduceLT, Int.reduceLE, Int.reduceToNat, Int.reduceNeg, tr1P, tr1B, tr2P, tr2B, St.ren, permF]
        refine ⟨Int.natCast_nonneg _, r, hri, by omega, b2, hb2, ?_⟩
        cases b2
        · simp only [go_sem, Nat.reduceBEq, ↓reduceIte, ↓reduceDIte, Nat.reduceAdd, Nat.reduceSub, Nat.reduceMul, Nat.reduceLeDiff, ← Bool.decide_and, ← Bool.decide_or, ← decide_not, Int.reduceLT, Int.reduceLE, Int.reduceToNat, Int.reduceNeg, tr1P, tr1B, tr2P, tr2B, St.ren, permF]
          rw [pairsT_no (.inr hb2)] at hT
          exact ⟨i64_ok (by omega) (by omega), back _ (k + 1, []) (by refine ⟨?_, ?_, rfl, rfl⟩ <;> repeat' (first | exact trivial | exact Or.inl rfl | exact Or.inr rfl | (refine And.intro (Or.inl rfl) ?_) | (refine And.intro (Or.inr (Or.inl rfl)) ?_) | (refine And.intro (Or.inr (Or.inr (Or.inr ⟨rfl, rfl⟩))) ?_) | (refine And.intro (Or.inr (Or.inr (Or.inl ⟨rfl, rfl, trivial⟩))) ?_) | exact ⟨(by show (_ : Nat) < 1000000000; omega), rfl, rfl⟩ | rfl | (refine And.intro (Or.inl ?_) ?_) | (refine And.intro ?_ ?_))) ⟨(by first | omega | (show (_ : Int) ≤ _; omega) | (show (_ : Int) < _; omega) | (dsimp only; omega)), by dsimp only; omega, hT⟩ (by dsimp only; omega)⟩
        · simp only [go_sem, Nat.reduceBEq, ↓reduceIte, ↓reduceDIte, Nat.reduceAdd, Nat.reduceSub, Nat.reduceMul, Nat.reduceLeDiff, ← Bool.decide_and, ← Bool.decide_or, ← decide_not, Int.reduceLT, Int.reduceLE, Int.reduceToNat, Int.reduceNeg, tr1P, tr1B, tr2P, tr2B, St.ren, permF]
          rw [pairsT_yes hb1 hb2] at hT
          refine ⟨Int.natCast_nonneg _, r, hri, i64_ok (by omega) (by omega), ?_⟩
          refine Walks.ren [(54, 1000), (1000, 54)] rfl ?_
          simp only [go_sem, Nat.reduceBEq, ↓reduceIte, ↓reduceDIte, Nat.reduceAdd, Nat.reduceSub, Nat.reduceMul, Nat.reduceLeDiff, ← Bool.decide_and, ← Bool.decide_or, ← decide_not, Int.reduceLT, Int.reduceLE, Int.reduceToNat, Int.reduceNeg, tr1P, tr1B, tr2P, tr2B, St.ren, permF]
          exact back _ (k + 1, [(r, (k : Int))]) (by refine ⟨?_, ?_, rfl, rfl⟩ <;> repeat' (first | exact trivial | exact Or.inl rfl | exact Or.inr rfl | (refine And.intro (Or.inl rfl) ?_) | (refine And.intro (Or.inr (Or.inl rfl)) ?_) | (refine And.intro (Or.inr (Or.inr (Or.inr ⟨rfl, rfl⟩))) ?_) | (refine And.intro (Or.inr (Or.inr (Or.inl ⟨rfl, rfl, trivial⟩))) ?_) | exact ⟨(by show (_ : Nat) < 1000000000; omega), rfl, rfl⟩ | rfl | (refine And.intro (Or.inl ?_) ?_) | (refine And.intro ?_ ?_))) ⟨(by first | omega | (show (_ : Int) ≤ _; omega) | (show (_ : Int) < _; omega) | (dsimp only; omega)), by simp, hT⟩ (by dsimp only; omega)
    · rw [List.drop_of_length_le (by omega)] at hT
      have e : ([] : TrL) = T := by simpa [pairsT] using hT
      rw [← e]; rfl
  · refine PW_sound env_ok ⟨_, fn_14, rfl⟩ 2000 _ _ (by kernel_rfl) ?_; simp only [go_sem, Nat.reduceBEq, ↓reduceIte, ↓reduceDIte, Nat.reduceAdd, Nat.reduceSub, Nat.reduceMul, Nat.reduceLeDiff, ← Bool.decide_and, ← Bool.decide_or, ← decide_not, Int.reduceLT, Int.reduceLE, Int.reduceToNat, Int.reduceNeg, tr1P, tr1B, tr2P, tr2B, St.ren, permF]
    refine ⟨fun g => ?_, fun g => ?_⟩
    · obtain ⟨r, hri⟩ : ∃ r, rs[k]? = some r := get_of_lt (by omega)
      have hrr := hr r (List.mem_of_getElem? hri)
      have hrn := right_nums hrr
      rw [drop_cons hri] at hT
      obtain ⟨b1, hb1⟩ : ∃ b, R[r.1.toNat]? = some b := get_of_lt (by omega)
      obtain ⟨b2, hb2⟩ : ∃ b, L[r.2.1.toNat]? = some b := get_of_lt (by omega)
      refine ⟨Int.natCast_nonneg _, r, hri, by omega, b1, hb1, ?_⟩
      cases b1
      · simp only [go_sem, Nat.reduceBEq, ↓reduceIte, ↓reduceDIte, Nat.reduceAdd, Nat.reduceSub, Nat.reduceMul, Nat.reduceLeDiff, ← Bool.decide_and, ← Bool.decide_or, ← decide_not, Int.reduceLT, Int.reduceLE, Int.reduceToNat, Int.reduceNeg, tr1P, tr1B, tr2P, tr2B, St.ren, permF]
        rw [pairsT_no (.inl hb1)] at hT
        exact ⟨i64_ok (by omega) (by omega), back _ (k + 1, p0 :: acc) (by refine ⟨?_, ?_, rfl, rfl⟩ <;> repeat' (first | exact trivial | exact Or.inl rfl | exact Or.inr rfl | (refine And.intro (Or.inl rfl) ?_) | (refine And.intro (Or.inr (Or.inl rfl)) ?_) | (refine And.intro (Or.inr (Or.inr (Or.inr ⟨rfl, rfl⟩))) ?_) | (refine And.intro (Or.inr (Or.inr (Or.inl ⟨rfl, rfl, trivial⟩))) ?_) | exact ⟨(by show (_ : Nat) < 1000000000; omega), rfl, rfl⟩ | rfl | (refine And.intro (Or.inl ?_) ?_) | (refine And.intro ?_ ?_))) ⟨(by first | omega | (show (_ : Int) ≤ _; omega) | (show (_ : Int) < _; omega) | (dsimp only; omega)), by dsimp only; omega, hT⟩ (by dsimp only; omega)⟩
      · simp only [go_sem, Nat.reduceBEq, ↓reduceIte, ↓reduceDIte, Nat.reduceAdd, Nat.reduceSub, Nat.reduceMul, Nat.reduceLeDiff, ← Bool.decide_and, ← Bool.decide_or, ← decide_not, Int.reduceLT, Int.reduceLE, Int.reduceToNat, Int.reduceNeg, tr1P, tr1B, tr2P, tr2B, St.ren, permF]
        refine ⟨Int.natCast_nonneg _, r, hri, by omega, b2, hb2, ?_⟩
        cases b2
        · simp only [go_sem, Nat.reduceBEq, ↓reduceIte, ↓reduceDIte, Nat.reduceAdd, Nat.reduceSub, Nat.reduceMul, Nat.reduceLeDiff, ← Bool.decide_and, ← Bool.decide_or, ← decide_not, Int.reduceLT, Int.reduceLE, Int.reduceToNat, Int.reduceNeg, tr1P, tr1B, tr2P, tr2B, St.ren, permF]
          rw [pairsT_no (.inr hb2)] at hT
          exact ⟨i64_ok (by omega) (by omega), back _ (k + 1, p0 :: acc) (by refine ⟨?_, ?_, rfl, rfl⟩ <;> repeat' (first | exact trivial | exact Or.inl rfl | exact Or.inr rfl | (refine And.intro (Or.inl rfl) ?_) | (refine And.intro (Or.inr (Or.inl rfl)) ?_) | (refine And.intro (Or.inr (Or.inr (Or.inr ⟨rfl, rfl⟩))) ?_) | (refine And.intro (Or.inr (Or.inr (Or.inl ⟨rfl, rfl, trivial⟩))) ?_) | exact ⟨(by show (_ : Nat) < 1000000000; omega), rfl, rfl⟩ | rfl | (refine And.intro (Or.inl ?_) ?_) | (refine And.intro ?_ ?_))) ⟨(by first | omega | (show (_ : Int) ≤ _; omega) | (show (_ : Int) < _; omega) | (dsimp only; omega)), by dsimp only; omega, hT⟩ (by dsimp only; omega)⟩
        · simp only [go_sem, Nat.reduceBEq, ↓reduceIte, ↓reduceDIte, Nat.reduceAdd, Nat.reduceSub, Nat.reduceMul, Nat.reduceLeDiff, ← Bool.decide_and, ← Bool.decide_or, ← decide_not, Int.reduceLT, Int.reduceLE, Int.reduceToNat, Int.reduceNeg, tr1P, tr1B, tr2P, tr2B, St.ren, permF]
          rw [pairsT_yes hb1 hb2] at hT
          have e1 : List.map (fun x : Rl × Int => x.2) acc ++ [(k : Int)] = List.map (fun x => x.2) (acc ++ [(r, (k : Int))]) := by simp
          have e2 : List.map (fun x : Rl × Int => x.1) acc ++ [r] = List.map (fun x => x.1) (acc ++ [(r, (k : Int))]) := by simp
          simp only [List.length_cons] at ha
          refine ⟨Int.natCast_nonneg _, r, hri, by rw [List.length_map]; omega, by rw [List.length_map]; omega, i64_ok (by omega) (by omega), ?_⟩
          rw [e1, e2]
          exact back _ (k + 1, p0 :: (acc ++ [(r, (k : Int))])) (by refine ⟨?_, ?_, rfl, rfl⟩ <;> repeat' (first | exact trivial | exact Or.inl rfl | exact Or.inr rfl | (refine And.intro (Or.inl rfl) ?_) | (refine And.intro (Or.inr (Or.inl rfl)) ?_) | (refine And.intro (Or.inr (Or.inr (Or.inr ⟨rfl, rfl⟩))) ?_) | (refine And.intro (Or.inr (Or.inr (Or.inl ⟨rfl, rfl, trivial⟩))) ?_) | exact ⟨(by show (_ : Nat) < 1000000000; omega), rfl, rfl⟩ | rfl | (refine And.intro (Or.inl ?_) ?_) | (refine And.intro ?_ ?_))) ⟨(by first | omega | (show (_ : Int) ≤ _; omega) | (show (_ : Int) < _; omega) | (dsimp only; omega)), by simp; omega, by rw [← hT]; simp⟩ (by dsimp only; omega)
    · rw [List.drop_of_length_le (by omega)] at hT
      have e : (p0 :: acc : TrL) = T := by simpa [pairsT] using hT
      rw [← e]; rfl
end Go.Proofs.Ytaphmhdgpdhpiaa
namespace Go.Proofs.Ytaphmhdgpdhpiaa
set_option maxHeartbeats 4000000
set_option maxRecDepth 100000
theorem c_Before (x y : En) : PC env 27 [⟨EndT, x⟩, ⟨EndT, y⟩] .bool (befE x.2.1 x.1 y.2.1 y.1) := by
  obtain ⟨l1, c1, b1⟩ := x
  obtain ⟨l2, c2, b2⟩ := y
  dsimp only
  generalize hV : befE c1 l1 c2 l2 = V
  refine PC.of_PW (m := 2000) env_ok fn_27 rfl rfl rfl rfl (by kernel_rfl) ?_; intro hx; simp only [Try.f27]; simp only [go_sem, Nat.reduceBEq, ↓reduceIte, ↓reduceDIte, Nat.reduceAdd, Nat.reduceSub, Nat.reduceMul, Nat.reduceLeDiff, ← Bool.decide_and, ← Bool.decide_or, ← decide_not, Int.reduceLT, Int.reduceLE, Int.reduceToNat, Int.reduceNeg]
  refine ⟨fun g => ?_, fun g => ⟨fun g2 => ?_, fun g2 => ?_⟩⟩
  · rw [← hV]; unfold befE
    exact decide_eq_decide.2 (by omega)
  · rw [← hV]; unfold befE
    exact decide_eq_decide.2 (by omega)
  · have hV2 : lexL (l1.drop 0) (l2.drop 0) = V := by
      rw [← hV]; unfold befE
      cases h : lexL l1 l2 <;> simp only [List.drop_zero, h] <;> symm <;> simp <;> omega
    refine Walks.loopA (X := Nat) (fun (z : Nat) => [(5, .iv (.int .i64) (z : Int))]) (fun (z : Nat) => []) (fun (z : Nat) => z ≤ l1.length ∧ lexL (l1.drop z) (l2.drop z) = V) (fun (z : Nat) => l1.length - z) 0 ?_; intro b1 b2 hb1 hb2; simp (config := {maxSteps := 4000000}) only [go_sem, Nat.reduceBEq, ↓reduceIte, ↓reduceDIte, Nat.reduceAdd, Nat.reduceSub, Nat.reduceMul, Nat.reduceLeDiff, ← Bool.decide_and, ← Bool.decide_or, ← decide_not, Int.reduceLT, Int.reduceLE, Int.reduceToNat, Int.reduceNeg] at hb1 hb2; subst hb1; subst hb2; refine ⟨(by refine ⟨?_, ?_, rfl, rfl⟩ <;> repeat' (first | exact trivial | exact Or.inl rfl | exact Or.inr rfl | (refine And.intro (Or.inl rfl) ?_) | (refine And.intro (Or.inr (Or.inl rfl)) ?_) | (refine And.intro (Or.inr (Or.inr (Or.inr ⟨rfl, rfl⟩))) ?_) | (refine And.intro (Or.inr (Or.inr (Or.inl ⟨rfl, rfl, trivial⟩))) ?_) | exact ⟨(by show (_ : Nat) < 1000000000; omega), rfl, rfl⟩ | rfl | (refine And.intro (Or.inl ?_) ?_) | (refine And.intro ?_ ?_))), ?_, ?_⟩
    · exact ⟨Nat.zero_le _, hV2⟩
    clear hV2
    intro k ⟨hk, hV2⟩ back
    refine PW_sound env_ok ⟨_, fn_27, rfl⟩ 2000 _ _ (by kernel_rfl) ?_; simp only [go_sem, Nat.reduceBEq, ↓reduceIte, ↓reduceDIte, Nat.reduceAdd, Nat.reduceSub, Nat.reduceMul, Nat.reduceLeDiff, ← Bool.decide_and, ← Bool.decide_or, ← decide_not, Int.reduceLT, Int.reduceLE, Int.reduceToNat, Int.reduceNeg]
    have hlx : l1.length ≤ 9223372036854775807 := hx.1.1.1
    refine ⟨fun g3 => ?_, fun g3 => ?_⟩
    · obtain ⟨u, hu⟩ : ∃ u, l1[k]? = some u := get_of_lt (by omega)
      obtain ⟨v, hv⟩ : ∃ v, l2[k]? = some v := get_of_lt (by omega)
      rw [drop_cons hu, drop_cons hv] at hV2
      simp only [lexL] at hV2
      refine ⟨Int.natCast_nonneg _, u, hu, Int.natCast_nonneg _, v, hv, fun hne => ⟨Int.natCast_nonneg _, u, hu, Int.natCast_nonneg _, v, hv, ?_⟩, fun he => ?_⟩
      · rw [← hV2]; simp [hne]
      · subst he
        refine ⟨i64_ok (by omega) (by omega), back _ (k + 1) (by refine ⟨?_, ?_, rfl, rfl⟩ <;> repeat' (first | exact trivial | exact Or.inl rfl | exact Or.inr rfl | (refine And.intro (Or.inl rfl) ?_) | (refine And.intro (Or.inr (Or.inl rfl)) ?_) | (refine And.intro (Or.inr (Or.inr (Or.inr ⟨rfl, rfl⟩))) ?_) | (refine And.intro (Or.inr (Or.inr (Or.inl ⟨rfl, rfl, trivial⟩))) ?_) | exact ⟨(by show (_ : Nat) < 1000000000; omega), rfl, rfl⟩ | rfl | (refine And.intro (Or.inl ?_) ?_) | (refine And.intro ?_ ?_))) ⟨by omega, ?_⟩ (by omega)⟩
        rw [← hV2]; simp
    · rw [List.drop_of_length_le (by omega), List.drop_of_length_le (by omega)] at hV2
      rw [← hV2]; rfl
structure StE (a : Int) (n k : Nat) (L : List En) : Prop where
  len : L.length = n
  at_ : ∀ i e, L[i]? = some e → e = ([], 0, decide (i < k) && accB a (i : Int))
theorem StE.zero {a : Int} {n : Nat} : StE a n 0 (List.replicate n ([], 0, false)) :=
  ⟨List.length_replicate .., fun i e h => by
    rw [List.getElem?_replicate] at h
    split at h
    · injection h with h; rw [← h]; simp
    · cases h⟩
theorem StE.next {a : Int} {n k : Nat} {L : List En} (h : StE a n k L) : StE a n (k + 1) (L.modify k fun x => (x.1, x.2.1, accB a (k : Int))) :=
  ⟨by rw [List.length_modify]; exact h.len, fun i e he => by
    rw [List.getElem?_modify] at he
    cases hi : L[i]? with
    | none => rw [hi] at he; cases he
    | some q =>
      rw [hi] at he
      have he : (if k = i then ((q.1, q.2.1, accB a (k : Int)) : En) else q) = e := by injection he
      have := h.at_ i q hi
      subst this
      rw [← he]
      by_cases hki : k = i
      · subst hki; simp
      · rw [if_neg hki]
        have : decide (i < k) = decide (i < k + 1) := decide_eq_decide.2 (by omega)
        rw [this]⟩
theorem StE.done {a : Int} {n : Nat} {L : List En} (h : StE a n n L) : L = startE a n := by
  refine List.ext_getElem? fun i => ?_
  unfold startE
  rw [List.getElem?_map]
  by_cases hi : i < n
  · rw [List.getElem?_range hi]
    obtain ⟨e, he⟩ : ∃ e, L[i]? = some e := get_of_lt (by rw [h.len]; exact hi)
    rw [he, h.at_ i e he]
    simp [hi]
  · rw [List.getElem?_eq_none (by rw [h.len]; omega), List.getElem?_eq_none (by simp; omega)]
    rfl
end Go.Proofs.Ytaphmhdgpdhpiaa
namespace Go.Proofs.Ytaphmhdgpdhpiaa
set_option maxHeartbeats 4000000
set_option maxRecDepth 100000
def fewS : Sch := (2, 1, [(0, 1, [99], [], 1), (0, 0, [98], [98], 2)])
theorem two_ok : OkS two := ⟨by decide, by decide, by decide, by decide, by decide, by decide, by decide⟩
theorem few_ok : OkS fewS := ⟨by decide, by decide, by decide, by decide, by decide, by decide, by decide⟩
theorem lt0 : leastR two 0 = ([], 0, 0) := by decide
theorem lt1 : leastR two 1 = ([1], 1, 0) := by decide
theorem lt2 : leastR two 2 = ([], 0, 30) := by decide
theorem lf1 : leastR fewS 1 = ([], 0, 50) := by decide
theorem tf : trimE fewS = ((2, 1, [(0, 0, [98], [98], 2)]), [1]) := by decide
theorem rt0 : runE two [2, 0, 1] = ([98, 99, 97], [98, 65], 4, 0, true) := by decide
theorem rt1 : runE two [0, 2] = ([], [], 0, 0, false) := by decide
theorem rt2 : runE two [1] = ([], [], 0, 0, false) := by decide
theorem rt3 : runE two [3] = ([], [], 0, 0, false) := by decide
theorem rt4 : runE two [] = ([], [], 0, 0, true) := by decide
theorem re2 : reachedE two = [true, true] := by decide
theorem lf2 : liveE fewS = [true, false] := by decide
theorem PK_cast {E : Env} {G : Goal} {n : Nat} {b b' : Bool} {d : Nat} {want : Bool} {o : Oper} {all : List Oper} {N : List Nat} {acc : List (List Nat)} {os : List Oper} {k : List WI} {s : St} (h : b = b') (hp : PK E G n (.iv .bool b') d want o all N acc os k s) : PK E G n (.iv .bool b) d want o all N acc os k s := by rw [h]; exact hp
theorem c_sanity : PC env 10 [] .bool true := by
  have k0 := c_two
  have k1 := c_Least two 0 two_ok
  have k2 := c_Least two 1 two_ok
  have k3 := c_Least two 2 two_ok
  have k4 := c_Least fewS 1 few_ok
  have k5 := c_Trim fewS few_ok
  have k6 := c_Run two [2, 0, 1] two_ok (by decide)
  have k7 := c_Run two [0, 2] two_ok (by decide)
  have k8 := c_Run two [1] two_ok (by decide)
  have k9 := c_Run two [3] two_ok (by decide)
  have k10 := c_Run two [] two_ok (by decide)
  have k11 := c_Reached two two_ok
  have k12 := c_Live fewS few_ok
  rw [lt0] at k1
  rw [lt1] at k2
  rw [lt2] at k3
  rw [lf1] at k4
  rw [tf] at k5
  rw [rt0] at k6
  rw [rt1] at k7
  rw [rt2] at k8
  rw [rt3] at k9
  rw [rt4] at k10
  rw [re2] at k11
  rw [lf2] at k12
  refine PC.of_PW (m := 2000) env_ok fn_10 rfl rfl rfl rfl (by kernel_rfl) ?_; intro hx; simp only [Try.f10]; simp only [go_sem, Nat.reduceBEq, ↓reduceIte, ↓reduceDIte, Nat.reduceAdd, Nat.reduceSub, Nat.reduceMul, Nat.reduceLeDiff, ← Bool.decide_and, ← Bool.decide_or, ← decide_not, Int.reduceLT, Int.reduceLE, Int.reduceToNat, Int.reduceNeg]
  refine ⟨_, k0, fun _ => ?_⟩
  refine ⟨_, k1, fun _ => ⟨_, k2, fun _ => ⟨_, k3, fun _ => ⟨_, rfl, _, rfl, _, k5, fun _ => ?_⟩⟩⟩⟩
  refine ⟨_, k4, fun _ => ⟨_, k6, fun _ => PK_cast (b' := true) (by decide) ?_⟩⟩
  simp only [go_sem, Nat.reduceBEq, ↓reduceIte, ↓reduceDIte, Nat.reduceAdd, Nat.reduceSub, Nat.reduceMul, Nat.reduceLeDiff, ← Bool.decide_and, ← Bool.decide_or, ← decide_not, Int.reduceLT, Int.reduceLE, Int.reduceToNat, Int.reduceNeg]
  refine ⟨_, k7, fun _ => PK_cast (b' := true) (by decide) ?_⟩
  simp only [go_sem, Nat.reduceBEq, ↓reduceIte, ↓reduceDIte, Nat.reduceAdd, Nat.reduceSub, Nat.reduceMul, Nat.reduceLeDiff, ← Bool.decide_and, ← Bool.decide_or, ← decide_not, Int.reduceLT, Int.reduceLE, Int.reduceToNat, Int.reduceNeg]
  refine ⟨_, k8, fun _ => PK_cast (b' := true) (by decide) ?_⟩
  simp only [go_sem, Nat.reduceBEq, ↓reduceIte, ↓reduceDIte, Nat.reduceAdd, Nat.reduceSub, Nat.reduceMul, Nat.reduceLeDiff, ← Bool.decide_and, ← Bool.decide_or, ← decide_not, Int.reduceLT, Int.reduceLE, Int.reduceToNat, Int.reduceNeg]
  refine ⟨_, k9, fun _ => PK_cast (b' := true) (by decide) ?_⟩
  simp only [go_sem, Nat.reduceBEq, ↓reduceIte, ↓reduceDIte, Nat.reduceAdd, Nat.reduceSub, Nat.reduceMul, Nat.reduceLeDiff, ← Bool.decide_and, ← Bool.decide_or, ← decide_not, Int.reduceLT, Int.reduceLE, Int.reduceToNat, Int.reduceNeg]
  refine ⟨_, k10, fun _ => ?_⟩
  refine ⟨_, c_Ints [1] [1], PK_cast (b' := true) (by decide) ?_⟩
  simp only [go_sem, Nat.reduceBEq, ↓reduceIte, ↓reduceDIte, Nat.reduceAdd, Nat.reduceSub, Nat.reduceMul, Nat.reduceLeDiff, ← Bool.decide_and, ← Bool.decide_or, ← decide_not, Int.reduceLT, Int.reduceLE, Int.reduceToNat, Int.reduceNeg]
  refine ⟨_, c_Ints [1] [1], PK_cast (b' := true) (by decide) ?_⟩
  simp only [go_sem, Nat.reduceBEq, ↓reduceIte, ↓reduceDIte, Nat.reduceAdd, Nat.reduceSub, Nat.reduceMul, Nat.reduceLeDiff, ← Bool.decide_and, ← Bool.decide_or, ← decide_not, Int.reduceLT, Int.reduceLE, Int.reduceToNat, Int.reduceNeg]
  refine ⟨_, k11, fun _ => ⟨_, c_Bools [true, true] [true, true], PK_cast (b' := true) (by decide) ?_⟩⟩
  simp only [go_sem, Nat.reduceBEq, ↓reduceIte, ↓reduceDIte, Nat.reduceAdd, Nat.reduceSub, Nat.reduceMul, Nat.reduceLeDiff, ← Bool.decide_and, ← Bool.decide_or, ← decide_not, Int.reduceLT, Int.reduceLE, Int.reduceToNat, Int.reduceNeg]
  refine ⟨_, k12, fun _ => ⟨_, c_Bools [true, false] [true, false], ?_⟩⟩
  simp only [go_sem, Nat.reduceBEq, ↓reduceIte, ↓reduceDIte, Nat.reduceAdd, Nat.reduceSub, Nat.reduceMul, Nat.reduceLeDiff, ← Bool.decide_and, ← Bool.decide_or, ← decide_not, Int.reduceLT, Int.reduceLE, Int.reduceToNat, Int.reduceNeg]
end Go.Proofs.Ytaphmhdgpdhpiaa
