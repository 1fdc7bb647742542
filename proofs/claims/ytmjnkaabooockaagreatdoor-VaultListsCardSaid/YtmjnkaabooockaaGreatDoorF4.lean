/- The law VaultLists holds for every input. No condition. -/
import Derived.Test.YtmjnkaabooockaaGreatDoorB6
import Derived.Test.YtmjnkaabooockaaGreatDoorCards
import Derived.Test.YtmjnkaabooockaaGreatDoorTie
import Derived.SevenTiedAt
set_option linter.unusedSimpArgs false
set_option linter.unusedVariables false
namespace Go.Proofs.YtmjnkaabooockaaGreatDoor
open Go.Lib
set_option maxHeartbeats 1000000
set_option maxRecDepth 100000
abbrev Pr := Int × Int
def sumS (f : Nat → Pr → Int) (m : List Pr) : Nat × Int := m.foldl (fun s p => (s.1 + 1, s.2 + f s.1 p)) (0, 0)
def sumI (f : Nat → Pr → Int) (m : List Pr) : Int := (sumS f m).2
theorem sumS_len (f : Nat → Pr → Int) : ∀ (m : List Pr) (i : Nat) (x : Int), (m.foldl (fun s p => (s.1 + 1, s.2 + f s.1 p)) (i, x)).1 = i + m.length
  | [], _, _ => rfl
  | p :: m, i, x => by
    rw [List.foldl_cons, sumS_len f m]
    simp only [List.length_cons]
    omega
theorem sumI_snoc {f : Nat → Pr → Int} {m : List Pr} {i : Nat} {p : Pr} (h : m[i]? = some p) : sumI f (m.take (i + 1)) = sumI f (m.take i) + f i p := by
  have hl : (m.take i).length = i := by
    rw [List.length_take]
    have := (List.getElem?_eq_some_iff.1 h).1
    omega
  unfold sumI sumS
  rw [take_snoc h, List.foldl_append, List.foldl_cons, List.foldl_nil, sumS_len, hl]
  dsimp only
  rw [Nat.zero_add]
theorem sumI_ind {f : Nat → Pr → Int} {m : List Pr} (P : Nat → Int → Prop) (h0 : P 0 0) (h : ∀ i p x, m[i]? = some p → P i x → P (i + 1) (x + f i p)) : ∀ i, i ≤ m.length → P i (sumI f (m.take i)) := by
  intro i
  induction i with
  | zero => intro _; exact h0
  | succ i ih =>
    intro hi
    obtain ⟨p, hp⟩ := get_of_lt (xs := m) (i := i) (by omega)
    rw [sumI_snoc hp]
    exact h i p _ hp (ih (by omega))
def newR (u : Usr) (d e : Int) (j : Nat) (p : Pr) : Rec := (d, getL u.2.2 d + 1 + (j : Int), e, rawW p.1, 0, 1 + p.2)
def meantN (u : Usr) (d e : Int) (j : Nat) (p : Pr) : Bool := u.2.1.any (fun o => meansS o (newR u d e j p))
def keptF (u : Usr) (d e : Int) (j : Nat) (p : Pr) : Int := if meantN u d e j p = true then 0 else 1
def sumF (u : Usr) (d e : Int) (w : Str) (j : Nat) (p : Pr) : Int := if rawW p.1 = w then (if meantN u d e j p = true then 0 else 1 + p.2) else 0
def keptW (u : Usr) (d e : Int) (w : Str) (j : Nat) (p : Pr) : Int := if rawW p.1 = w then (if meantN u d e j p = true then 0 else 1) else 0
def keptL (u : Usr) (d e : Int) (n : Int) (j : Nat) (p : Pr) : Int := if p.1 % 4 < n then (if meantN u d e j p = true then 0 else 1) else 0
theorem count_ins (l : List Rec) (i : Nat) (x : Rec) (w : Str) (e : Int) : countS (insAt l i x) w e = countS l w e + valR w e x := by
  unfold countS insAt
  rw [List.map_append, List.map_cons, List.sum_append, List.sum_cons]
  conv => rhs; rw [← List.take_append_drop i l, List.map_append, List.sum_append]
  omega
theorem val_new (u : Usr) (d e : Int) (j : Nat) (p : Pr) (w : Str) : valR w e (newR u d e j p) = if rawW p.1 = w then 1 + p.2 else 0 := by
  unfold valR newR cntR
  dsimp only
  rw [if_neg (show ¬ e < e by omega)]
theorem lists_good {u : Usr} {k : Nat} (hg : goodU k u) {m : List Pr} (hb : ∀ p, p ∈ m → 0 ≤ p.2 ∧ p.2 ≤ 255) (hk : k + m.length < 400) {d e : Int} (hd : 0 ≤ d ∧ d < 8) (he : 0 ≤ e ∧ e ≤ 10000) :
    ∃ w, importS u (listT m) d e = (w, sumI (keptF u d e) m, 0) ∧ goodU (k + m.length) w ∧ w.2.1 = u.2.1 ∧ getL w.2.2 d = getL u.2.2 d + (m.length : Int) ∧ (w.1.length : Int) = (u.1.length : Int) + sumI (keptF u d e) m ∧ ∀ wd, countS w.1 wd e = countS u.1 wd e + sumI (sumF u d e wd) m := by
  have ht : linesE (listT m) = (m.map listRec, -1) := both_lines (m := []) (l := m) (fun x h => absurd h List.not_mem_nil) hb
  unfold importS
  rw [if_neg (by omega), ht, if_neg (show ¬ (0 : Int) ≤ -1 by decide)]
  obtain ⟨w, ⟨w1, w2, w3, w4, w5⟩, hw⟩ := imp_inv (d := d) (e := e) (u := u) (v := u) (l := m.map listRec)
    (fun i v => goodU (k + i) v ∧ v.2.1 = u.2.1 ∧ getL v.2.2 d = getL u.2.2 d + (i : Int) ∧ (v.1.length : Int) = (u.1.length : Int) + sumI (keptF u d e) (m.take i) ∧ ∀ wd, countS v.1 wd e = countS u.1 wd e + sumI (sumF u d e wd) (m.take i))
    ⟨hg, rfl, by simp, by simp [sumI, sumS], fun wd => by simp [sumI, sumS]⟩ (fun i v r hr ⟨p1, p2, p3, p4, p5⟩ => by
      rw [List.getElem?_map] at hr
      obtain ⟨p, hp, rfl⟩ := Option.map_eq_some_iff.1 hr
      have hpb := hb p (List.mem_of_getElem? hp)
      have hi := (List.getElem?_eq_some_iff.1 hp).1
      have hst : stepI d e v (listRec p) = ((learnS v (d, 0, e, rawW p.1, 0, 1 + p.2)).1, (learnS v (d, 0, e, rawW p.1, 0, 1 + p.2)).2.2) := if_pos rfl
      have hright : rightR (d, 1, e, rawW p.1, 0, 1 + p.2) = true := right_of ⟨by dsimp only; omega, by dsimp only; omega, by dsimp only; omega, rawW_ok _, by dsimp only; omega, by dsimp only; omega⟩
      obtain ⟨g1, g2⟩ := learn_good (r := (d, 0, e, rawW p.1, 0, 1 + p.2)) p1 (by omega) hright
      have hlast := p1.2.2.2 d (by omega) (by omega)
      have hlen := p1.2.1
      rw [hst, g2]
      refine ⟨rfl, g1, ?_⟩
      have heq := learnS_eq (u := v) (r := (d, 0, e, rawW p.1, 0, 1 + p.2)) hright (by omega) (by dsimp only; omega)
      dsimp only at heq
      have hnew : (d, getL v.2.2 d + 1, e, rawW p.1, 0, 1 + p.2) = newR u d e i p := by unfold newR; rw [p3]; congr 1; congr 1; omega
      have hnr : rightR (newR u d e i p) = true := by
        rw [← hnew]
        exact rightR_at (r := (d, 1, e, rawW p.1, 0, 1 + p.2)) hright (by omega) (by omega)
      have hany : v.2.1.any (fun o => meantB o (newR u d e i p)) = meantN u d e i p := by
        rw [← any_means (fun o ho => (p1.1.ord o ho).1) hnr, p2]
        rfl
      rw [hnew, hany] at heq
      rw [heq]
      dsimp only
      have s1 := sumI_snoc (f := keptF u d e) hp
      have s2 := fun wd => sumI_snoc (f := sumF u d e wd) hp
      cases hm : meantN u d e i p
      · have e1 : keptF u d e i p = 1 := by unfold keptF; rw [hm]; rfl
        rw [if_neg (by decide)]
        refine ⟨p2, ?_, ?_, fun wd => ?_⟩
        · dsimp only
          rw [get_set _ _ (by omega) (by omega)]
          omega
        · dsimp only
          rw [s1, e1, len_insAt (bsI_le _ _ _)]
          omega
        · dsimp only
          rw [s2, count_ins, p5, val_new]
          have e2 : sumF u d e wd i p = if rawW p.1 = wd then 1 + p.2 else 0 := by unfold sumF; rw [hm]; rfl
          rw [e2]
          omega
      · have e1 : keptF u d e i p = 0 := by unfold keptF; rw [hm]; rfl
        rw [if_pos rfl]
        refine ⟨p2, ?_, ?_, fun wd => ?_⟩
        · dsimp only
          rw [get_set _ _ (by omega) (by omega)]
          omega
        · dsimp only
          rw [s1, e1]
          omega
        · dsimp only
          have e2 : sumF u d e wd i p = 0 := by unfold sumF; rw [hm]; simp
          rw [s2, p5, e2]
          omega)
  rw [List.length_map] at w1 w3 w4 w5
  rw [List.take_length] at w4
  refine ⟨w, ?_, w1, w2, w3, w4, fun wd => by rw [w5 wd, List.take_length]⟩
  rw [hw, w4]
  congr 1
  congr 1
  omega
theorem sum_kept {u : Usr} {d e : Int} {w : Str} {m : List Pr} (hb : ∀ p, p ∈ m → 0 ≤ p.2 ∧ p.2 ≤ 255) : ∀ i, i ≤ m.length → 0 ≤ sumI (sumF u d e w) (m.take i) ∧ sumI (sumF u d e w) (m.take i) ≤ 256 * sumI (keptW u d e w) (m.take i) ∧ sumI (keptW u d e w) (m.take i) ≤ i := by
  intro i
  induction i with
  | zero => intro _; simp [sumI, sumS]
  | succ i ih =>
    intro hi
    obtain ⟨p, hp⟩ := get_of_lt (xs := m) (i := i) (by omega)
    have := ih (by omega)
    have hpb := hb p (List.mem_of_getElem? hp)
    rw [sumI_snoc hp, sumI_snoc hp]
    have h1 : 0 ≤ sumF u d e w i p ∧ sumF u d e w i p ≤ 256 * keptW u d e w i p ∧ keptW u d e w i p ≤ 1 := by
      unfold sumF keptW
      split
      · split <;> omega
      · omega
    omega
theorem rawW_iff (a : Int) (n : Nat) (hn : n < 4) : rawW a = rawW (n : Int) ↔ a % 4 = n := by
  unfold rawW fourW
  have h4 : a % 4 = 0 ∨ a % 4 = 1 ∨ a % 4 = 2 ∨ a % 4 = 3 := by omega
  obtain rfl | rfl | rfl | rfl : n = 0 ∨ n = 1 ∨ n = 2 ∨ n = 3 := by omega
  all_goals rcases h4 with h | h | h | h <;> rw [h] <;> decide
theorem kept_step {u : Usr} {d e : Int} {m : List Pr} {n : Nat} (hn : n < 4) : ∀ i, i ≤ m.length → sumI (keptL u d e (n + 1 : Nat)) (m.take i) = sumI (keptL u d e n) (m.take i) + sumI (keptW u d e (rawW n)) (m.take i) := by
  intro i
  induction i with
  | zero => intro _; simp [sumI, sumS]
  | succ i ih =>
    intro hi
    obtain ⟨p, hp⟩ := get_of_lt (xs := m) (i := i) (by omega)
    have := ih (by omega)
    rw [sumI_snoc hp, sumI_snoc hp, sumI_snoc hp, this]
    have h1 : keptL u d e (n + 1 : Nat) i p = keptL u d e n i p + keptW u d e (rawW n) i p := by
      unfold keptL keptW
      by_cases h : p.1 % 4 = n
      · rw [if_pos (show p.1 % 4 < ((n + 1 : Nat) : Int) by omega), if_neg (show ¬ p.1 % 4 < (n : Int) by omega), if_pos ((rawW_iff _ n hn).2 h)]
        omega
      · rw [if_neg (fun hh => h ((rawW_iff _ n hn).1 hh))]
        by_cases h2 : p.1 % 4 < (n : Int)
        · rw [if_pos (show p.1 % 4 < ((n + 1 : Nat) : Int) by omega), if_pos h2]; omega
        · rw [if_neg (show ¬ p.1 % 4 < ((n + 1 : Nat) : Int) by omega), if_neg h2]; omega
    omega
theorem kept_zero {u : Usr} {d e : Int} {m : List Pr} : ∀ i, i ≤ m.length → sumI (keptL u d e 0) (m.take i) = 0 := by
  intro i
  induction i with
  | zero => intro _; simp [sumI, sumS]
  | succ i ih =>
    intro hi
    obtain ⟨p, hp⟩ := get_of_lt (xs := m) (i := i) (by omega)
    rw [sumI_snoc hp, ih (by omega)]
    unfold keptL
    rw [if_neg (show ¬ p.1 % 4 < 0 by omega)]
    rfl
theorem kept_all {u : Usr} {d e : Int} {m : List Pr} : ∀ i, i ≤ m.length → sumI (keptL u d e 4) (m.take i) = sumI (keptF u d e) (m.take i) := by
  intro i
  induction i with
  | zero => intro _; simp [sumI, sumS]
  | succ i ih =>
    intro hi
    obtain ⟨p, hp⟩ := get_of_lt (xs := m) (i := i) (by omega)
    rw [sumI_snoc hp, sumI_snoc hp, ih (by omega)]
    unfold keptL keptF
    rw [if_pos (show p.1 % 4 < 4 by omega)]
theorem kept_mono {u : Usr} {d e : Int} {m : List Pr} (n : Int) : ∀ i, i ≤ m.length → 0 ≤ sumI (keptL u d e n) (m.take i) ∧ sumI (keptL u d e n) (m.take i) ≤ sumI (keptF u d e) (m.take i) ∧ sumI (keptF u d e) (m.take i) ≤ i := by
  intro i
  induction i with
  | zero => intro _; simp [sumI, sumS]
  | succ i ih =>
    intro hi
    obtain ⟨p, hp⟩ := get_of_lt (xs := m) (i := i) (by omega)
    have := ih (by omega)
    rw [sumI_snoc hp, sumI_snoc hp]
    have : 0 ≤ keptL u d e n i p ∧ keptL u d e n i p ≤ keptF u d e i p ∧ keptF u d e i p ≤ 1 := by
      unfold keptL keptF
      repeat' split
      all_goals omega
    omega
theorem listT_len {m : List Pr} (hb : ∀ p, p ∈ m → 0 ≤ p.2 ∧ p.2 ≤ 255) : (listT m).length ≤ 20 * m.length :=
  flat_len (fun p : Int × Int => listE (rawW p.1) (1 + p.2) ++ [10]) 20 m (fun x hxm => by
    have hb2 := hb x hxm
    have := itoa_len7 (n := 1 + x.2) (by omega) (by omega)
    have := rawW_len x.1
    simp only [listE, List.length_append, List.length_cons, List.length_nil]
    omega)
end Go.Proofs.YtmjnkaabooockaaGreatDoor
namespace Go.Proofs.YtmjnkaabooockaaGreatDoor
open Go.Lib
set_option maxHeartbeats 4000000
set_option maxRecDepth 100000
theorem c_Lists (l : List Raw6) (m : List Pr) (w : Int × Int) : PC env 6 [⟨.sl RawT, l⟩, ⟨.sl (.st (.pair (.int .u8) (.int .u8))), m⟩, ⟨.st (.pair (.int .u8) (.int .u8)), w⟩] .bool true := by
  refine PC.of_PW (m := 2000) env_ok fn_6 rfl rfl rfl rfl (by kernel_rfl) ?_; intro hx; simp only [Tryz.f6]; simp (config := {maxSteps := 4000000}) only [go_sem, Nat.reduceBEq, ↓reduceIte, ↓reduceDIte, Nat.reduceAdd, Nat.reduceSub, Nat.reduceMul, Nat.reduceLeDiff, ← Bool.decide_and, ← Bool.decide_or, ← decide_not, Int.reduceLT, Int.reduceLE, Int.reduceToNat, Int.reduceNeg, by_nil, by32, by10, litP, appendC, Int.reduceEq, not_true_eq_false, not_false_eq_true, false_implies]
  have hg := made_good (l := l) hx.1.2 8 (by decide)
  have hw := own_ok (w := w) ⟨u8_of hx.2.2.1.1, u8_of hx.2.2.1.2⟩
  have hmb : ∀ p, p ∈ m → (0 ≤ p.1 ∧ p.1 ≤ 255) ∧ 0 ≤ p.2 ∧ p.2 ≤ 255 := fun p hp => ⟨u8_of (hx.2.1.2 p hp).1, u8_of (hx.2.1.2 p hp).2⟩
  have hm0 : 0 ≤ (m.length : Int) := Int.natCast_nonneg _
  refine ⟨_, c_sanity, _, c_MadeR l 8 (by decide) (by decide), fun _ => ⟨_, c_owner w, fun _ => ⟨⟨by omega, by omega⟩, ?_⟩⟩⟩
  clear hx
  change goodU 8 (madeU (l.take (8 : Int).toNat)) at hg
  generalize madeU (l.take (8 : Int).toNat) = u at hg
  generalize ho : ownE w = o at hw
  have hmb' : ∀ p, p ∈ m.take (min (m.length : Int) 6).toNat → (0 ≤ p.1 ∧ p.1 ≤ 255) ∧ 0 ≤ p.2 ∧ p.2 ≤ 255 := fun p hp => hmb p (List.mem_of_mem_take hp)
  have hml : (m.take (min (m.length : Int) 6).toNat).length ≤ 6 := by rw [List.length_take]; omega
  generalize m.take (min (m.length : Int) 6).toNat = m' at hmb' hml
  have hmb2 : ∀ p, p ∈ m' → 0 ≤ p.2 ∧ p.2 ≤ 255 := fun p hp => (hmb' p hp).2
  obtain ⟨v, hv1, hv2, hv3, hv4, hv5, hv6⟩ := lists_good hg hmb2 (by omega) hw.1 hw.2
  have htl := listT_len hmb2
  have kL : PC env 23 [⟨.sl (.st (.pair (.int .u8) (.int .u8))), m'⟩, ⟨.int .i64, 6⟩] .str (listT m') := by
    have := c_List m' 6 (by decide) (by decide)
    rwa [List.take_of_length_le (show m'.length ≤ (6 : Int).toNat from hml)] at this
  have kI : PC env 11 [⟨UserT, u⟩, ⟨.str, listT m'⟩, ⟨OwnerT, o⟩] ImportedT (v, sumI (keptF u o.1 o.2) m', 0) := by
    have := c_imported u (listT m') o (by omega) (by have := hg.2.1; omega)
    rwa [hv1] at this
  have kV : PC env 14 [⟨UserT, v⟩] .bool true := by
    have := c_ValidR v
    rwa [(validS_iff v).2 hv2.1] at this
  have kn := kept_mono (u := u) (d := o.1) (e := o.2) (m := m') 4 m'.length (Nat.le_refl _)
  rw [List.take_length] at kn
  have hlu := hg.2.1
  have hla := hg.2.2.2 o.1 (by omega) (by omega)
  refine ⟨_, kL, fun _ => ⟨_, kI, fun _ => ⟨fun _ => ⟨_, kV, ?_⟩, fun h => absurd rfl h⟩⟩⟩
  simp (config := {maxSteps := 4000000}) only [go_sem, Nat.reduceBEq, ↓reduceIte, ↓reduceDIte, Nat.reduceAdd, Nat.reduceSub, Nat.reduceMul, Nat.reduceLeDiff, ← Bool.decide_and, ← Bool.decide_or, ← decide_not, Int.reduceLT, Int.reduceLE, Int.reduceToNat, Int.reduceNeg, by_nil, by32, by10, litP, appendC, Int.reduceEq, not_true_eq_false, not_false_eq_true, false_implies]
  refine ⟨⟨by omega, by omega⟩, getL v.2.2 o.1, lst_at v.2.2 (by omega) (by omega), ⟨by omega, by omega⟩, getL u.2.2 o.1, lst_at u.2.2 (by omega) (by omega), i64_ok (by omega) (by omega), fun h => absurd hv4 h, fun _ => ?_⟩
  refine Walks.loopW (X := Nat) (fun n => ⟨[(12, .iv (.int .i64) (n : Int)), (11, .iv (.int .i64) (sumI (keptL u o.1 o.2 (n : Int)) (m'.take m'.length))), (1, .iv (.sl (.st (.pair (.int .u8) (.int .u8)))) m'), (7, .iv .bool true), (8, .ref 8 0), (9, .ref 9 0), (10, .ref 10 0)], [(10, .box [.iv (.sl RecordT) v.1, .iv (.sl OrderT) v.2.1, .iv (.int .i64) v.2.2.1, .iv (.int .i64) v.2.2.2.1, .iv (.int .i64) v.2.2.2.2.1, .iv (.int .i64) v.2.2.2.2.2.1, .iv (.int .i64) v.2.2.2.2.2.2.1, .iv (.int .i64) v.2.2.2.2.2.2.2.1, .iv (.int .i64) v.2.2.2.2.2.2.2.2.1, .iv (.int .i64) v.2.2.2.2.2.2.2.2.2, .iv (.int .i64) (sumI (keptF u o.1 o.2) m'), .iv (.int .i64) (0 : Int)]), (9, .box [.iv (.int .i64) o.1, .iv (.int .i64) o.2]), (8, .box [.iv (.sl RecordT) u.1, .iv (.sl OrderT) u.2.1, .iv (.int .i64) u.2.2.1, .iv (.int .i64) u.2.2.2.1, .iv (.int .i64) u.2.2.2.2.1, .iv (.int .i64) u.2.2.2.2.2.1, .iv (.int .i64) u.2.2.2.2.2.2.1, .iv (.int .i64) u.2.2.2.2.2.2.2.1, .iv (.int .i64) u.2.2.2.2.2.2.2.2.1, .iv (.int .i64) u.2.2.2.2.2.2.2.2.2])]⟩) (fun n => n ≤ 4) (fun n => 4 - n) 0
    (by
      have h0 : sumI (keptL u o.1 o.2 ((0 : Nat) : Int)) (m'.take m'.length) = 0 := kept_zero _ (Nat.le_refl _)
      rw [h0]
      exact (by refine ⟨?_, ?_, rfl, rfl⟩ <;> repeat' (first | exact trivial | exact Or.inl rfl | exact Or.inr rfl | (refine And.intro (Or.inl rfl) ?_) | (refine And.intro (Or.inr (Or.inl rfl)) ?_) | (refine And.intro (Or.inr (Or.inr (Or.inr ⟨rfl, rfl⟩))) ?_) | (refine And.intro (Or.inr (Or.inr (Or.inl ⟨rfl, rfl, trivial⟩))) ?_) | exact ⟨(by show (_ : Nat) < 1000000000; omega), rfl, rfl⟩ | rfl | (refine And.intro (Or.inl ?_) ?_) | (refine And.intro ?_ ?_)))) (Nat.zero_le _) ?_
  intro n hn back
  have kmn := kept_mono (u := u) (d := o.1) (e := o.2) (m := m') (n : Int) m'.length (Nat.le_refl _)
  refine PW_sound env_ok ⟨_, fn_6, rfl⟩ 2000 _ _ (by kernel_rfl) ?_; simp only [go_sem, Nat.reduceBEq, ↓reduceIte, ↓reduceDIte, Nat.reduceAdd, Nat.reduceSub, Nat.reduceMul, Nat.reduceLeDiff, ← Bool.decide_and, ← Bool.decide_or, ← decide_not, Int.reduceLT, Int.reduceLE, Int.reduceToNat, Int.reduceNeg, by_nil, by32, by10, litP, appendC, Int.reduceEq, not_true_eq_false, not_false_eq_true, false_implies]
  refine ⟨fun g1 => ?_, fun g1 => ?_⟩
  · have hwr : IntKind.u8.wrap (n : Int) = (n : Int) := wrap_in _ (u8_ok (by omega) (by omega))
    rw [hwr]
    refine ⟨_, c_WordR (n : Int), fun _ => ?_⟩
    refine Walks.loopW (X := Nat × Bool) (fun z => ⟨[(16, .iv (.int .i64) (z.1 : Int)), (15, .iv (.int .i64) (sumI (sumF u o.1 o.2 (rawW n)) (m'.take z.1))), (14, .iv .bool z.2), (13, .iv .str (rawW n)), (12, .iv (.int .i64) (n : Int)), (11, .iv (.int .i64) (sumI (keptL u o.1 o.2 (n : Int)) (m'.take m'.length) + sumI (keptW u o.1 o.2 (rawW n)) (m'.take z.1))), (1, .iv (.sl (.st (.pair (.int .u8) (.int .u8)))) m'), (7, .iv .bool true), (8, .ref 8 0), (9, .ref 9 0), (10, .ref 10 0)], [(10, .box [.iv (.sl RecordT) v.1, .iv (.sl OrderT) v.2.1, .iv (.int .i64) v.2.2.1, .iv (.int .i64) v.2.2.2.1, .iv (.int .i64) v.2.2.2.2.1, .iv (.int .i64) v.2.2.2.2.2.1, .iv (.int .i64) v.2.2.2.2.2.2.1, .iv (.int .i64) v.2.2.2.2.2.2.2.1, .iv (.int .i64) v.2.2.2.2.2.2.2.2.1, .iv (.int .i64) v.2.2.2.2.2.2.2.2.2, .iv (.int .i64) (sumI (keptF u o.1 o.2) m'), .iv (.int .i64) (0 : Int)]), (9, .box [.iv (.int .i64) o.1, .iv (.int .i64) o.2]), (8, .box [.iv (.sl RecordT) u.1, .iv (.sl OrderT) u.2.1, .iv (.int .i64) u.2.2.1, .iv (.int .i64) u.2.2.2.1, .iv (.int .i64) u.2.2.2.2.1, .iv (.int .i64) u.2.2.2.2.2.1, .iv (.int .i64) u.2.2.2.2.2.2.1, .iv (.int .i64) u.2.2.2.2.2.2.2.1, .iv (.int .i64) u.2.2.2.2.2.2.2.2.1, .iv (.int .i64) u.2.2.2.2.2.2.2.2.2])]⟩) (fun z => z.1 ≤ m'.length) (fun z => m'.length - z.1) (0, false)
      (by
        have h0 : sumI (keptL u o.1 o.2 (n : Int)) (m'.take m'.length) + sumI (keptW u o.1 o.2 (rawW n)) (m'.take 0) = sumI (keptL u o.1 o.2 (n : Int)) (m'.take m'.length) := by simp [sumI, sumS]
        have h1 : sumI (sumF u o.1 o.2 (rawW n)) (m'.take 0) = 0 := by simp [sumI, sumS]
        dsimp only
        rw [h0, h1]
        exact (by refine ⟨?_, ?_, rfl, rfl⟩ <;> repeat' (first | exact trivial | exact Or.inl rfl | exact Or.inr rfl | (refine And.intro (Or.inl rfl) ?_) | (refine And.intro (Or.inr (Or.inl rfl)) ?_) | (refine And.intro (Or.inr (Or.inr (Or.inr ⟨rfl, rfl⟩))) ?_) | (refine And.intro (Or.inr (Or.inr (Or.inl ⟨rfl, rfl, trivial⟩))) ?_) | exact ⟨(by show (_ : Nat) < 1000000000; omega), rfl, rfl⟩ | rfl | (refine And.intro (Or.inl ?_) ?_) | (refine And.intro ?_ ?_)))) (Nat.zero_le _) ?_
    intro ⟨i, b⟩ hi back2
    dsimp only at hi
    have ksn := sum_kept (u := u) (d := o.1) (e := o.2) (w := rawW n) hmb2 i hi
    refine PW_sound env_ok ⟨_, fn_6, rfl⟩ 2000 _ _ (by kernel_rfl) ?_; simp only [go_sem, Nat.reduceBEq, ↓reduceIte, ↓reduceDIte, Nat.reduceAdd, Nat.reduceSub, Nat.reduceMul, Nat.reduceLeDiff, ← Bool.decide_and, ← Bool.decide_or, ← decide_not, Int.reduceLT, Int.reduceLE, Int.reduceToNat, Int.reduceNeg, by_nil, by32, by10, litP, appendC, Int.reduceEq, not_true_eq_false, not_false_eq_true, false_implies]
    have i0 := Int.natCast_nonneg i
    refine ⟨fun g2 => ?_, fun g2 => ?_⟩
    · obtain ⟨p, hp⟩ : ∃ p, m'[i]? = some p := get_of_lt (by omega)
      have hpb := hmb' p (List.mem_of_getElem? hp)
      have hs1 := sumI_snoc (f := sumF u o.1 o.2 (rawW n)) hp
      have hs2 := sumI_snoc (f := keptW u o.1 o.2 (rawW n)) hp
      refine ⟨⟨by omega, by omega⟩, getL u.2.2 o.1, lst_at u.2.2 (by omega) (by omega), i64_ok (by omega) (by omega), i64_ok (by omega) (by omega), i0, p, hp, _, c_WordR p.1, fun _ => ⟨i0, p, hp, i64_ok (by omega) (by omega), fun h => ?_, fun h => ?_⟩⟩
      · have e1 : sumF u o.1 o.2 (rawW n) i p = 0 := if_neg h
        have e2 : keptW u o.1 o.2 (rawW n) i p = 0 := if_neg h
        rw [e1, Int.add_zero] at hs1
        rw [e2, Int.add_zero] at hs2
        rw [← hs1, ← hs2]
        exact ⟨i64_ok (by omega) (by omega), back2 _ (i + 1, b) (by refine ⟨?_, ?_, rfl, rfl⟩ <;> repeat' (first | exact trivial | exact Or.inl rfl | exact Or.inr rfl | (refine And.intro (Or.inl rfl) ?_) | (refine And.intro (Or.inr (Or.inl rfl)) ?_) | (refine And.intro (Or.inr (Or.inr (Or.inr ⟨rfl, rfl⟩))) ?_) | (refine And.intro (Or.inr (Or.inr (Or.inl ⟨rfl, rfl, trivial⟩))) ?_) | exact ⟨(by show (_ : Nat) < 1000000000; omega), rfl, rfl⟩ | rfl | (refine And.intro (Or.inl ?_) ?_) | (refine And.intro ?_ ?_))) (by dsimp only; omega) (by dsimp only; omega)⟩
      · refine ⟨_, c_Meant u.2.1 (newR u o.1 o.2 i p), ?_⟩
        have e1 : sumF u o.1 o.2 (rawW n) i p = if meantN u o.1 o.2 i p = true then 0 else 1 + p.2 := if_pos h
        have e2 : keptW u o.1 o.2 (rawW n) i p = if meantN u o.1 o.2 i p = true then 0 else 1 := if_pos h
        cases hm : u.2.1.any (fun o' => meansS o' (newR u o.1 o.2 i p))
        · rw [show meantN u o.1 o.2 i p = false from hm] at e1 e2
          rw [if_neg (by decide)] at e1 e2
          rw [e1] at hs1
          rw [e2] at hs2
          simp only [go_sem, Nat.reduceBEq, ↓reduceIte, ↓reduceDIte, Nat.reduceAdd, Nat.reduceSub, Nat.reduceMul, Nat.reduceLeDiff, ← Bool.decide_and, ← Bool.decide_or, ← decide_not, Int.reduceLT, Int.reduceLE, Int.reduceToNat, Int.reduceNeg, by_nil, by32, by10, litP, appendC, Int.reduceEq, not_true_eq_false, not_false_eq_true, false_implies]
          rw [Int.add_assoc, ← hs1, ← hs2]
          have ksn2 := sum_kept (u := u) (d := o.1) (e := o.2) (w := rawW n) hmb2 (i + 1) (by omega)
          exact ⟨i64_ok (by omega) (by omega), i64_ok (by omega) (by omega), i64_ok (by omega) (by omega), back2 _ (i + 1, b) (by refine ⟨?_, ?_, rfl, rfl⟩ <;> repeat' (first | exact trivial | exact Or.inl rfl | exact Or.inr rfl | (refine And.intro (Or.inl rfl) ?_) | (refine And.intro (Or.inr (Or.inl rfl)) ?_) | (refine And.intro (Or.inr (Or.inr (Or.inr ⟨rfl, rfl⟩))) ?_) | (refine And.intro (Or.inr (Or.inr (Or.inl ⟨rfl, rfl, trivial⟩))) ?_) | exact ⟨(by show (_ : Nat) < 1000000000; omega), rfl, rfl⟩ | rfl | (refine And.intro (Or.inl ?_) ?_) | (refine And.intro ?_ ?_))) (by dsimp only; omega) (by dsimp only; omega)⟩
        · rw [show meantN u o.1 o.2 i p = true from hm] at e1 e2
          rw [if_pos rfl] at e1 e2
          rw [e1, Int.add_zero] at hs1
          rw [e2, Int.add_zero] at hs2
          simp only [go_sem, Nat.reduceBEq, ↓reduceIte, ↓reduceDIte, Nat.reduceAdd, Nat.reduceSub, Nat.reduceMul, Nat.reduceLeDiff, ← Bool.decide_and, ← Bool.decide_or, ← decide_not, Int.reduceLT, Int.reduceLE, Int.reduceToNat, Int.reduceNeg, by_nil, by32, by10, litP, appendC, Int.reduceEq, not_true_eq_false, not_false_eq_true, false_implies]
          rw [← hs1, ← hs2]
          exact ⟨i64_ok (by omega) (by omega), back2 _ (i + 1, true) (by refine ⟨?_, ?_, rfl, rfl⟩ <;> repeat' (first | exact trivial | exact Or.inl rfl | exact Or.inr rfl | (refine And.intro (Or.inl rfl) ?_) | (refine And.intro (Or.inr (Or.inl rfl)) ?_) | (refine And.intro (Or.inr (Or.inr (Or.inr ⟨rfl, rfl⟩))) ?_) | (refine And.intro (Or.inr (Or.inr (Or.inl ⟨rfl, rfl, trivial⟩))) ?_) | exact ⟨(by show (_ : Nat) < 1000000000; omega), rfl, rfl⟩ | rfl | (refine And.intro (Or.inl ?_) ?_) | (refine And.intro ?_ ?_))) (by dsimp only; omega) (by dsimp only; omega)⟩
    · have hie : i = m'.length := by omega
      subst hie
      have kst := kept_step (u := u) (d := o.1) (e := o.2) (m := m') (n := n) (by omega) m'.length (Nat.le_refl _)
      have hcv : PC env 26 [⟨UserT, v⟩, ⟨.str, rawW n⟩, ⟨.int .i64, o.2⟩] (.int .i64) (countS u.1 (rawW n) o.2 + sumI (sumF u o.1 o.2 (rawW n)) (m'.take m'.length)) := by
        have := c_CountR v (rawW n) o.2 hv2.1.tame hw.2
        rwa [hv6, ← List.take_length (l := m')] at this
      refine ⟨_, hcv, fun _ => ⟨_, c_CountR u (rawW n) o.2 hg.1.tame hw.2, fun _ => ?_⟩⟩
      have hcl := countS_le (l := u.1) (w := rawW n) (e := o.2) (fun r hr => ⟨(hg.1.tame.2 r hr).2.2.1, (hg.1.tame.2 r hr).2.2.2⟩)
      have hnx := back
      rw [← kst]
      have hne : 0 < sumI (sumF u o.1 o.2 (rawW n)) (m'.take m'.length) → ¬ (v.1.length : Int) = (u.1.length : Int) := fun h1 h2 => by
        have kk := kept_mono (u := u) (d := o.1) (e := o.2) (m := m') ((n + 1 : Nat) : Int) m'.length (Nat.le_refl _)
        rw [List.take_length] at kk kst kmn ksn h1
        omega
      refine ⟨i64_ok (by omega) (by omega), fun _ => ?_, fun h => absurd rfl h⟩
      cases b
      · simp only [go_sem, Nat.reduceBEq, ↓reduceIte, ↓reduceDIte, Nat.reduceAdd, Nat.reduceSub, Nat.reduceMul, Nat.reduceLeDiff, ← Bool.decide_and, ← Bool.decide_or, ← decide_not, Int.reduceLT, Int.reduceLE, Int.reduceToNat, Int.reduceNeg, by_nil, by32, by10, litP, appendC, Int.reduceEq, not_true_eq_false, not_false_eq_true, false_implies]
        exact ⟨i64_ok (by omega) (by omega), back _ (n + 1) (by refine ⟨?_, ?_, rfl, rfl⟩ <;> repeat' (first | exact trivial | exact Or.inl rfl | exact Or.inr rfl | (refine And.intro (Or.inl rfl) ?_) | (refine And.intro (Or.inr (Or.inl rfl)) ?_) | (refine And.intro (Or.inr (Or.inr (Or.inr ⟨rfl, rfl⟩))) ?_) | (refine And.intro (Or.inr (Or.inr (Or.inl ⟨rfl, rfl, trivial⟩))) ?_) | exact ⟨(by show (_ : Nat) < 1000000000; omega), rfl, rfl⟩ | rfl | (refine And.intro (Or.inl ?_) ?_) | (refine And.intro ?_ ?_))) (by omega) (by omega)⟩
      · simp only [go_sem, Nat.reduceBEq, ↓reduceIte, ↓reduceDIte, Nat.reduceAdd, Nat.reduceSub, Nat.reduceMul, Nat.reduceLeDiff, ← Bool.decide_and, ← Bool.decide_or, ← decide_not, Int.reduceLT, Int.reduceLE, Int.reduceToNat, Int.reduceNeg, by_nil, by32, by10, litP, appendC, Int.reduceEq, not_true_eq_false, not_false_eq_true, false_implies]
        refine ⟨fun h1 => ⟨fun h2 => absurd h2 (hne h1), fun _ => ?_⟩, fun h1 => ?_⟩
        · exact ⟨i64_ok (by omega) (by omega), back _ (n + 1) (by refine ⟨?_, ?_, rfl, rfl⟩ <;> repeat' (first | exact trivial | exact Or.inl rfl | exact Or.inr rfl | (refine And.intro (Or.inl rfl) ?_) | (refine And.intro (Or.inr (Or.inl rfl)) ?_) | (refine And.intro (Or.inr (Or.inr (Or.inr ⟨rfl, rfl⟩))) ?_) | (refine And.intro (Or.inr (Or.inr (Or.inl ⟨rfl, rfl, trivial⟩))) ?_) | exact ⟨(by show (_ : Nat) < 1000000000; omega), rfl, rfl⟩ | rfl | (refine And.intro (Or.inl ?_) ?_) | (refine And.intro ?_ ?_))) (by omega) (by omega)⟩
        · exact ⟨i64_ok (by omega) (by omega), back _ (n + 1) (by refine ⟨?_, ?_, rfl, rfl⟩ <;> repeat' (first | exact trivial | exact Or.inl rfl | exact Or.inr rfl | (refine And.intro (Or.inl rfl) ?_) | (refine And.intro (Or.inr (Or.inl rfl)) ?_) | (refine And.intro (Or.inr (Or.inr (Or.inr ⟨rfl, rfl⟩))) ?_) | (refine And.intro (Or.inr (Or.inr (Or.inl ⟨rfl, rfl, trivial⟩))) ?_) | exact ⟨(by show (_ : Nat) < 1000000000; omega), rfl, rfl⟩ | rfl | (refine And.intro (Or.inl ?_) ?_) | (refine And.intro ?_ ?_))) (by omega) (by omega)⟩
  · have hn4 : n = 4 := by omega
    subst hn4
    have e4 : sumI (keptL u o.1 o.2 ((4 : Nat) : Int)) (m'.take m'.length) = sumI (keptF u o.1 o.2) m' := by have := kept_all (u := u) (d := o.1) (e := o.2) (m := m') m'.length (Nat.le_refl _); rw [List.take_length] at this ⊢; exact this
    rw [e4]
    exact ⟨fun _ => ⟨i64_ok (by omega) (by omega), fun _ => trivial, fun h => absurd hv5 h⟩, fun h => absurd rfl h⟩
end Go.Proofs.YtmjnkaabooockaaGreatDoor
namespace Go.Proofs.YtmjnkaabooockaaGreatDoor
open Go.ChangeShapes Go.WideShapes Go.ChangeAt Go.RowKit
theorem lists_all (xs : List (Sigma Ty.den)) (h : xs.map (·.1) = [.sl RawT, .sl (.st (.pair (.int .u8) (.int .u8))), .st (.pair (.int .u8) (.int .u8))]) : PC env 6 xs .bool true := by
  match xs, h with
  | [⟨_, y0⟩, ⟨_, y1⟩, ⟨_, y2⟩], h =>
    injection h with h1 h
    injection h with h2 h
    injection h with h3 h
    dsimp only at h1 h2 h3
    subst h1 h2 h3
    exact c_Lists y0 y1 y2
set_option maxRecDepth 100000 in
theorem lists_lifted (os : Os) (started : os.Started) (H : Type) (enc : TypeId × Value → H) :
    ReturnsInHanded {} Tryz.checked os 6 .any (Rows.vaultListsRow.pre enc Tryz.prog Tryz.f6 (OpenSpec.ofChange Rows.vaultListsSpec)) (Rows.vaultListsSpec.post enc Tryz.prog Tryz.f6 false true false false) := by
  rw [pre_laid (c := Rows.vaultListsRow) (s := Rows.vaultListsSpec) rfl]
  refine lift_laid (C := Tryz.checked) (X := fun w _ => laidMet Tryz.prog laidL w) laid_heap own_none started (by kernel_rfl) fn_6
    (ChangeSpec.witness_at (enc := enc) (C := Tryz.checked) (X := fun w _ => laidMet Tryz.prog laidL w) false (laidWorld os) #[.slice none 0 0, .slice none 0 0, .agg #[.int .u8 0, .int .u8 0]] 8 (by kernel_rfl) (by kernel_rfl) (by kernel_rfl) (by kernel_rfl) (by kernel_rfl) (by kernel_rfl) (laid_met os _)) ?_
  intro W base args ds gs before hval hW hx hsh
  refine law_calls (E := env) (b0 := base) (Ts := [.sl RawT, .sl (.st (.pair (.int .u8) (.int .u8))), .st (.pair (.int .u8) (.int .u8))]) (tb := 4) env_ok laid_out (of_decide_eq_true (by kernel_rfl)) rfl rfl rfl (by kernel_rfl) rfl ?_ lists_all (tabs_of hsh hx) hval hW
  intro ds hds
  match ds, hds with
  | [d0, d1, d2], _ => rfl
theorem lists_holds : Rows.VaultListsSaid :=
  OpenClaim.holds_of_wide 6 Tryz.f6 rfl rfl rfl rfl rfl rfl rfl ⟨rfl, rfl, rfl, rfl, rfl⟩ rfl rfl rfl rfl rfl (by kernel_rfl) fn_6 (by kernel_rfl)
    (of_decide_eq_true (by kernel_rfl)) (by unfold Func.isWrapper; first | (rw [if_pos (by decide +kernel)]; kernel_rfl) | (rw [if_neg (by decide +kernel)]; exact ⟨rfl, rfl⟩))
    (fun os started H enc _ => lists_lifted os started H enc)
theorem lists_card : Rows.VaultListsCardSaid :=
  Claim7.holds_tied_plain_at .later [] [.data, .data, .data] true (true, "426d57a87c791b27104f04666428ef46072b02b99fc935c38a2ca183da242164") false
    lists_holds (fun _ h => by cases h) (by kernel_rfl) (fun _ h => by cases h) vaultLists_row_tie rfl ⟨rfl, rfl⟩ (by kernel_rfl) rfl
    (fun f fn hf hfn => by
      obtain rfl : f = 6 := Option.some.inj ((show Tryz.prog.funcNamed "syllabary/syllabarylaw27.VaultLists" = some 6 by kernel_rfl).symm.trans hf) |>.symm
      obtain rfl : fn = Tryz.f6 := (Option.some.inj (fn_6.symm.trans hfn)).symm
      exact ⟨by kernel_rfl, fun j t ht => by
        have hall : (Tryz.f6.params.toList.all fun u => !Tryz.prog.wantsStandIn u) = true := by kernel_rfl
        have hm : t ∈ Tryz.f6.params.toList := Array.mem_toList_iff.2 (Array.mem_of_getElem? ht)
        exact (show Tryz.prog.wantsStandIn t = false by simpa using List.all_eq_true.1 hall t hm)⟩)
    (by kernel_rfl)
end Go.Proofs.YtmjnkaabooockaaGreatDoor
