/- The law VaultParts holds for every input. No condition. -/
import Derived.Test.YtmjnkaabooockaaGreatDoorB6
import Derived.Test.YtmjnkaabooockaaGreatDoorCards
import Derived.Test.YtmjnkaabooockaaGreatDoorTie
import Derived.SevenTiedAt
set_option linter.unusedSimpArgs false
set_option linter.unusedVariables false
namespace Go.Proofs.YtmjnkaabooockaaGreatDoor
open Go.Lib
set_option maxHeartbeats 1000000
set_option maxRecDepth 100000
abbrev Pr := Int × Int
def sumS (f : Nat → Pr → Int) (m : List Pr) : Nat × Int := m.foldl (fun s p => (s.1 + 1, s.2 + f s.1 p)) (0, 0)
def sumI (f : Nat → Pr → Int) (m : List Pr) : Int := (sumS f m).2
theorem sumS_len (f : Nat → Pr → Int) : ∀ (m : List Pr) (i : Nat) (x : Int), (m.foldl (fun s p => (s.1 + 1, s.2 + f s.1 p)) (i, x)).1 = i + m.length
  | [], _, _ => rfl
  | p :: m, i, x => by
    rw [List.foldl_cons, sumS_len f m]
    simp only [List.length_cons]
    omega
theorem sumI_snoc {f : Nat → Pr → Int} {m : List Pr} {i : Nat} {p : Pr} (h : m[i]? = some p) : sumI f (m.take (i + 1)) = sumI f (m.take i) + f i p := by
  have hl : (m.take i).length = i := by
    rw [List.length_take]
    have := (List.getElem?_eq_some_iff.1 h).1
    omega
  unfold sumI sumS
  rw [take_snoc h, List.foldl_append, List.foldl_cons, List.foldl_nil, sumS_len, hl]
  dsimp only
  rw [Nat.zero_add]
theorem sumI_ind {f : Nat → Pr → Int} {m : List Pr} (P : Nat → Int → Prop) (h0 : P 0 0) (h : ∀ i p x, m[i]? = some p → P i x → P (i + 1) (x + f i p)) : ∀ i, i ≤ m.length → P i (sumI f (m.take i)) := by
  intro i
  induction i with
  | zero => intro _; exact h0
  | succ i ih =>
    intro hi
    obtain ⟨p, hp⟩ := get_of_lt (xs := m) (i := i) (by omega)
    rw [sumI_snoc hp]
    exact h i p _ hp (ih (by omega))
def newR (u : Usr) (d e : Int) (j : Nat) (p : Pr) : Rec := (d, getL u.2.2 d + 1 + (j : Int), e, rawW p.1, 0, 1 + p.2)
def meantN (u : Usr) (d e : Int) (j : Nat) (p : Pr) : Bool := u.2.1.any (fun o => meansS o (newR u d e j p))
def keptF (u : Usr) (d e : Int) (j : Nat) (p : Pr) : Int := if meantN u d e j p = true then 0 else 1
def sumF (u : Usr) (d e : Int) (w : Str) (j : Nat) (p : Pr) : Int := if rawW p.1 = w then (if meantN u d e j p = true then 0 else 1 + p.2) else 0
def keptW (u : Usr) (d e : Int) (w : Str) (j : Nat) (p : Pr) : Int := if rawW p.1 = w then (if meantN u d e j p = true then 0 else 1) else 0
def keptL (u : Usr) (d e : Int) (n : Int) (j : Nat) (p : Pr) : Int := if p.1 % 4 < n then (if meantN u d e j p = true then 0 else 1) else 0
theorem count_ins (l : List Rec) (i : Nat) (x : Rec) (w : Str) (e : Int) : countS (insAt l i x) w e = countS l w e + valR w e x := by
  unfold countS insAt
  rw [List.map_append, List.map_cons, List.sum_append, List.sum_cons]
  conv => rhs; rw [← List.take_append_drop i l, List.map_append, List.sum_append]
  omega
theorem val_new (u : Usr) (d e : Int) (j : Nat) (p : Pr) (w : Str) : valR w e (newR u d e j p) = if rawW p.1 = w then 1 + p.2 else 0 := by
  unfold valR newR cntR
  dsimp only
  rw [if_neg (show ¬ e < e by omega)]
theorem lists_good {u : Usr} {k : Nat} (hg : goodU k u) {m : List Pr} (hb : ∀ p, p ∈ m → 0 ≤ p.2 ∧ p.2 ≤ 255) (hk : k + m.length < 400) {d e : Int} (hd : 0 ≤ d ∧ d < 8) (he : 0 ≤ e ∧ e ≤ 10000) :
    ∃ w, importS u (listT m) d e = (w, sumI (keptF u d e) m, 0) ∧ goodU (k + m.length) w ∧ w.2.1 = u.2.1 ∧ getL w.2.2 d = getL u.2.2 d + (m.length : Int) ∧ (w.1.length : Int) = (u.1.length : Int) + sumI (keptF u d e) m ∧ ∀ wd, countS w.1 wd e = countS u.1 wd e + sumI (sumF u d e wd) m := by
  have ht : linesE (listT m) = (m.map listRec, -1) := both_lines (m := []) (l := m) (fun x h => absurd h List.not_mem_nil) hb
  unfold importS
  rw [if_neg (by omega), ht, if_neg (show ¬ (0 : Int) ≤ -1 by decide)]
  obtain ⟨w, ⟨w1, w2, w3, w4, w5⟩, hw⟩ := imp_inv (d := d) (e := e) (u := u) (v := u) (l := m.map listRec)
    (fun i v => goodU (k + i) v ∧ v.2.1 = u.2.1 ∧ getL v.2.2 d = getL u.2.2 d + (i : Int) ∧ (v.1.length : Int) = (u.1.length : Int) + sumI (keptF u d e) (m.take i) ∧ ∀ wd, countS v.1 wd e = countS u.1 wd e + sumI (sumF u d e wd) (m.take i))
    ⟨hg, rfl, by simp, by simp [sumI, sumS], fun wd => by simp [sumI, sumS]⟩ (fun i v r hr ⟨p1, p2, p3, p4, p5⟩ => by
      rw [List.getElem?_map] at hr
      obtain ⟨p, hp, rfl⟩ := Option.map_eq_some_iff.1 hr
      have hpb := hb p (List.mem_of_getElem? hp)
      have hi := (List.getElem?_eq_some_iff.1 hp).1
      have hst : stepI d e v (listRec p) = ((learnS v (d, 0, e, rawW p.1, 0, 1 + p.2)).1, (learnS v (d, 0, e, rawW p.1, 0, 1 + p.2)).2.2) := if_pos rfl
      have hright : rightR (d, 1, e, rawW p.1, 0, 1 + p.2) = true := right_of ⟨by dsimp only; omega, by dsimp only; omega, by dsimp only; omega, rawW_ok _, by dsimp only; omega, by dsimp only; omega⟩
      obtain ⟨g1, g2⟩ := learn_good (r := (d, 0, e, rawW p.1, 0, 1 + p.2)) p1 (by omega) hright
      have hlast := p1.2.2.2 d (by omega) (by omega)
      have hlen := p1.2.1
      rw [hst, g2]
      refine ⟨rfl, g1, ?_⟩
      have heq := learnS_eq (u := v) (r := (d, 0, e, rawW p.1, 0, 1 + p.2)) hright (by omega) (by dsimp only; omega)
      dsimp only at heq
      have hnew : (d, getL v.2.2 d + 1, e, rawW p.1, 0, 1 + p.2) = newR u d e i p := by unfold newR; rw [p3]; congr 1; congr 1; omega
      have hnr : rightR (newR u d e i p) = true := by
        rw [← hnew]
        exact rightR_at (r := (d, 1, e, rawW p.1, 0, 1 + p.2)) hright (by omega) (by omega)
      have hany : v.2.1.any (fun o => meantB o (newR u d e i p)) = meantN u d e i p := by
        rw [← any_means (fun o ho => (p1.1.ord o ho).1) hnr, p2]
        rfl
      rw [hnew, hany] at heq
      rw [heq]
      dsimp only
      have s1 := sumI_snoc (f := keptF u d e) hp
      have s2 := fun wd => sumI_snoc (f := sumF u d e wd) hp
      cases hm : meantN u d e i p
      · have e1 : keptF u d e i p = 1 := by unfold keptF; rw [hm]; rfl
        rw [if_neg (by decide)]
        refine ⟨p2, ?_, ?_, fun wd => ?_⟩
        · dsimp only
          rw [get_set _ _ (by omega) (by omega)]
          omega
        · dsimp only
          rw [s1, e1, len_insAt (bsI_le _ _ _)]
          omega
        · dsimp only
          rw [s2, count_ins, p5, val_new]
          have e2 : sumF u d e wd i p = if rawW p.1 = wd then 1 + p.2 else 0 := by unfold sumF; rw [hm]; rfl
          rw [e2]
          omega
      · have e1 : keptF u d e i p = 0 := by unfold keptF; rw [hm]; rfl
        rw [if_pos rfl]
        refine ⟨p2, ?_, ?_, fun wd => ?_⟩
        · dsimp only
          rw [get_set _ _ (by omega) (by omega)]
          omega
        · dsimp only
          rw [s1, e1]
          omega
        · dsimp only
          have e2 : sumF u d e wd i p = 0 := by unfold sumF; rw [hm]; simp
          rw [s2, p5, e2]
          omega)
  rw [List.length_map] at w1 w3 w4 w5
  rw [List.take_length] at w4
  refine ⟨w, ?_, w1, w2, w3, w4, fun wd => by rw [w5 wd, List.take_length]⟩
  rw [hw, w4]
  congr 1
  congr 1
  omega
theorem sum_kept {u : Usr} {d e : Int} {w : Str} {m : List Pr} (hb : ∀ p, p ∈ m → 0 ≤ p.2 ∧ p.2 ≤ 255) : ∀ i, i ≤ m.length → 0 ≤ sumI (sumF u d e w) (m.take i) ∧ sumI (sumF u d e w) (m.take i) ≤ 256 * sumI (keptW u d e w) (m.take i) ∧ sumI (keptW u d e w) (m.take i) ≤ i := by
  intro i
  induction i with
  | zero => intro _; simp [sumI, sumS]
  | succ i ih =>
    intro hi
    obtain ⟨p, hp⟩ := get_of_lt (xs := m) (i := i) (by omega)
    have := ih (by omega)
    have hpb := hb p (List.mem_of_getElem? hp)
    rw [sumI_snoc hp, sumI_snoc hp]
    have h1 : 0 ≤ sumF u d e w i p ∧ sumF u d e w i p ≤ 256 * keptW u d e w i p ∧ keptW u d e w i p ≤ 1 := by
      unfold sumF keptW
      split
      · split <;> omega
      · omega
    omega
theorem rawW_iff (a : Int) (n : Nat) (hn : n < 4) : rawW a = rawW (n : Int) ↔ a % 4 = n := by
  unfold rawW fourW
  have h4 : a % 4 = 0 ∨ a % 4 = 1 ∨ a % 4 = 2 ∨ a % 4 = 3 := by omega
  obtain rfl | rfl | rfl | rfl : n = 0 ∨ n = 1 ∨ n = 2 ∨ n = 3 := by omega
  all_goals rcases h4 with h | h | h | h <;> rw [h] <;> decide
theorem kept_step {u : Usr} {d e : Int} {m : List Pr} {n : Nat} (hn : n < 4) : ∀ i, i ≤ m.length → sumI (keptL u d e (n + 1 : Nat)) (m.take i) = sumI (keptL u d e n) (m.take i) + sumI (keptW u d e (rawW n)) (m.take i) := by
  intro i
  induction i with
  | zero => intro _; simp [sumI, sumS]
  | succ i ih =>
    intro hi
    obtain ⟨p, hp⟩ := get_of_lt (xs := m) (i := i) (by omega)
    have := ih (by omega)
    rw [sumI_snoc hp, sumI_snoc hp, sumI_snoc hp, this]
    have h1 : keptL u d e (n + 1 : Nat) i p = keptL u d e n i p + keptW u d e (rawW n) i p := by
      unfold keptL keptW
      by_cases h : p.1 % 4 = n
      · rw [if_pos (show p.1 % 4 < ((n + 1 : Nat) : Int) by omega), if_neg (show ¬ p.1 % 4 < (n : Int) by omega), if_pos ((rawW_iff _ n hn).2 h)]
        omega
      · rw [if_neg (fun hh => h ((rawW_iff _ n hn).1 hh))]
        by_cases h2 : p.1 % 4 < (n : Int)
        · rw [if_pos (show p.1 % 4 < ((n + 1 : Nat) : Int) by omega), if_pos h2]; omega
        · rw [if_neg (show ¬ p.1 % 4 < ((n + 1 : Nat) : Int) by omega), if_neg h2]; omega
    omega
theorem kept_zero {u : Usr} {d e : Int} {m : List Pr} : ∀ i, i ≤ m.length → sumI (keptL u d e 0) (m.take i) = 0 := by
  intro i
  induction i with
  | zero => intro _; simp [sumI, sumS]
  | succ i ih =>
    intro hi
    obtain ⟨p, hp⟩ := get_of_lt (xs := m) (i := i) (by omega)
    rw [sumI_snoc hp, ih (by omega)]
    unfold keptL
    rw [if_neg (show ¬ p.1 % 4 < 0 by omega)]
    rfl
theorem kept_all {u : Usr} {d e : Int} {m : List Pr} : ∀ i, i ≤ m.length → sumI (keptL u d e 4) (m.take i) = sumI (keptF u d e) (m.take i) := by
  intro i
  induction i with
  | zero => intro _; simp [sumI, sumS]
  | succ i ih =>
    intro hi
    obtain ⟨p, hp⟩ := get_of_lt (xs := m) (i := i) (by omega)
    rw [sumI_snoc hp, sumI_snoc hp, ih (by omega)]
    unfold keptL keptF
    rw [if_pos (show p.1 % 4 < 4 by omega)]
theorem kept_mono {u : Usr} {d e : Int} {m : List Pr} (n : Int) : ∀ i, i ≤ m.length → 0 ≤ sumI (keptL u d e n) (m.take i) ∧ sumI (keptL u d e n) (m.take i) ≤ sumI (keptF u d e) (m.take i) ∧ sumI (keptF u d e) (m.take i) ≤ i := by
  intro i
  induction i with
  | zero => intro _; simp [sumI, sumS]
  | succ i ih =>
    intro hi
    obtain ⟨p, hp⟩ := get_of_lt (xs := m) (i := i) (by omega)
    have := ih (by omega)
    rw [sumI_snoc hp, sumI_snoc hp]
    have : 0 ≤ keptL u d e n i p ∧ keptL u d e n i p ≤ keptF u d e i p ∧ keptF u d e i p ≤ 1 := by
      unfold keptL keptF
      repeat' split
      all_goals omega
    omega
theorem listT_len {m : List Pr} (hb : ∀ p, p ∈ m → 0 ≤ p.2 ∧ p.2 ≤ 255) : (listT m).length ≤ 20 * m.length :=
  flat_len (fun p : Int × Int => listE (rawW p.1) (1 + p.2) ++ [10]) 20 m (fun x hxm => by
    have hb2 := hb x hxm
    have := itoa_len7 (n := 1 + x.2) (by omega) (by omega)
    have := rawW_len x.1
    simp only [listE, List.length_append, List.length_cons, List.length_nil]
    omega)
end Go.Proofs.YtmjnkaabooockaaGreatDoor
namespace Go.Proofs.YtmjnkaabooockaaGreatDoor
open Go.Lib
set_option maxHeartbeats 1000000
set_option maxRecDepth 100000
theorem impL_app {d e : Int} {u : Usr} : ∀ (a b : List Rec) (i : Nat) (v : Usr), impL d e u i v (a ++ b) = if (impL d e u i v a).2.2 = 0 then impL d e u (i + a.length) (impL d e u i v a).1 b else impL d e u i v a
  | [], b, i, v => by
    rw [List.nil_append, impL, if_pos rfl]
    rfl
  | r :: a, b, i, v => by
    rw [List.cons_append, impL, impL]
    split
    · rw [impL_app a b]
      simp only [List.length_cons]
      rw [show i + 1 + a.length = i + (a.length + 1) by omega]
    · rfl
theorem impL_err {d e : Int} {u : Usr} : ∀ (a : List Rec) (i : Nat) (v : Usr), (impL d e u i v a).2.2 ≠ 0 → (impL d e u i v a).1 = u
  | [], i, v, h => absurd rfl h
  | r :: a, i, v, h => by
    rw [impL] at h ⊢
    split at h
    · rename_i h2
      rw [if_pos h2]
      exact impL_err a _ _ h
    · rename_i h2
      rw [if_neg h2]
theorem impL_ok {d e : Int} {u : Usr} : ∀ (a : List Rec) (i : Nat) (v : Usr), (impL d e u i v a).2.2 = 0 → (impL d e u i v a).2.1 = ((impL d e u i v a).1.1.length : Int) - (u.1.length : Int)
  | [], i, v, h => rfl
  | r :: a, i, v, h => by
    rw [impL] at h ⊢
    split at h
    · rename_i h2
      rw [if_pos h2]
      exact impL_ok a _ _ h
    · rename_i h2
      exact absurd h h2
theorem impL_base {d e : Int} {u u' : Usr} : ∀ (a : List Rec) (i j : Nat) (v : Usr), (impL d e u i v a).2.2 = 0 → (impL d e u' j v a).2.2 = 0 ∧ (impL d e u' j v a).1 = (impL d e u i v a).1
  | [], i, j, v, h => ⟨rfl, rfl⟩
  | r :: a, i, j, v, h => by
    rw [impL] at h ⊢
    rw [impL]
    split at h
    · rename_i h2
      rw [if_pos h2, if_pos h2]
      exact impL_base a _ _ _ h
    · rename_i h2
      exact absurd h h2
theorem impL_few {d e : Int} {u : Usr} : ∀ (a : List Rec) (i k : Nat) (v : Usr), 9 ≤ k → goodU k v → (∀ r, r ∈ a → rightR r = true ∧ r.2.1 ≤ 9) → (impL d e u i v a).2.2 = 0 → goodU (k + a.length) (impL d e u i v a).1
  | [], i, k, v, hk, hg, _, h => hg
  | r :: a, i, k, v, hk, hg, hr, h => by
    rw [impL] at h ⊢
    split at h
    · rename_i h2
      rw [if_pos h2]
      obtain ⟨h3, h4⟩ := hr r (List.mem_cons_self ..)
      have hf : few (k + 1) (stepI d e v r).1 := by
        rw [step_rest h3]
        have := rest_few hg.2 h3 h4
        rwa [show max (k + 1) 9 = k + 1 by omega] at this
      have hv : VU (stepI d e v r).1 := by rw [step_rest h3]; exact rest_VU hg.1 h3
      have := impL_few a (i + 1) (k + 1) _ (by omega) ⟨hv, hf⟩ (fun q hq => hr q (List.mem_cons_of_mem _ hq)) h
      rwa [show k + 1 + a.length = k + (a.length + 1) by omega] at this
    · rename_i h2
      exact absurd h h2
theorem linesT_len {m : List Raw6} (h : ∀ x, x ∈ m → RawT.ok x) : (linesT m).length ≤ 61 * m.length :=
  flat_len (fun x => lineE (lineR x) ++ [10]) 61 m (fun y hy => by
    have := line_len (lineR_right (h y hy))
    simp only [List.length_append, List.length_cons, List.length_nil]; omega)
theorem parts_law {u : Usr} (hg : goodU 8 u) {m : List Raw6} (hm : ∀ x, x ∈ m → RawT.ok x) (h2 : m.length ≤ 2) {l : List Pr} (hl : ∀ p, p ∈ l → 0 ≤ p.2 ∧ p.2 ≤ 255) (hl2 : l.length ≤ 2) {d e : Int} (hd : 0 ≤ d ∧ d < 8) (he : 0 ≤ e ∧ e ≤ 10000) :
    ((importS u (linesT m) d e).2.2 ≠ 0 ∧ importS u (linesT m ++ listT l) d e = (u, (importS u (linesT m) d e).2.1, (importS u (linesT m) d e).2.2)) ∨
    ((importS u (linesT m) d e).2.2 = 0 ∧ ((importS u (linesT m) d e).1.1.length ≤ 20 ∧ (-100 ≤ (importS u (linesT m) d e).2.1 ∧ (importS u (linesT m) d e).2.1 ≤ 100) ∧ (-100 ≤ (importS (importS u (linesT m) d e).1 (listT l) d e).2.1 ∧ (importS (importS u (linesT m) d e).1 (listT l) d e).2.1 ≤ 100)) ∧ (importS (importS u (linesT m) d e).1 (listT l) d e).2.2 = 0 ∧ importS u (linesT m ++ listT l) d e = ((importS (importS u (linesT m) d e).1 (listT l) d e).1, (importS u (linesT m) d e).2.1 + (importS (importS u (linesT m) d e).1 (listT l) d e).2.1, 0)) := by
  have t1 : linesE (linesT m) = (m.map lineR, -1) := by
    have := both_lines (m := m) (l := []) hm (fun p h => absurd h List.not_mem_nil)
    simpa [listT] using this
  have t2 : linesE (linesT m ++ listT l) = (m.map lineR ++ l.map listRec, -1) := both_lines hm hl
  have t3 : linesE (listT l) = (l.map listRec, -1) := both_lines (m := []) (l := l) (fun x h => absurd h List.not_mem_nil) hl
  have i1 : importS u (linesT m) d e = impL d e u 0 u (m.map lineR) := by
    unfold importS
    rw [if_neg (by omega), t1, if_neg (show ¬ (0 : Int) ≤ -1 by decide)]
  have i2 : importS u (linesT m ++ listT l) d e = impL d e u 0 u (m.map lineR ++ l.map listRec) := by
    unfold importS
    rw [if_neg (by omega), t2, if_neg (show ¬ (0 : Int) ≤ -1 by decide)]
  have i3 : ∀ v : Usr, importS v (listT l) d e = impL d e v 0 v (l.map listRec) := fun v => by
    unfold importS
    rw [if_neg (by omega), t3, if_neg (show ¬ (0 : Int) ≤ -1 by decide)]
  rw [i1, i2, impL_app]
  by_cases h : (impL d e u 0 u (m.map lineR)).2.2 = 0
  · refine .inr ⟨h, ?_⟩
    rw [if_pos h]
    have hg9 : goodU 9 u := ⟨hg.1, few_mono hg.2 (by omega)⟩
    have hgv := impL_few (d := d) (e := e) (u := u) (m.map lineR) 0 9 u (Nat.le_refl _) hg9 (fun r hr => by
      obtain ⟨x, hx, rfl⟩ := List.mem_map.1 hr
      refine ⟨lineR_right (hm x hx), ?_⟩
      unfold lineR
      dsimp only
      omega) h
    have hok := impL_ok (m.map lineR) 0 u h
    rw [List.length_map] at hgv
    generalize impL d e u 0 u (m.map lineR) = x at h hgv hok
    obtain ⟨w, w1, w2, w3, w4, w5, w6⟩ := lists_good hgv hl (by omega) hd he
    rw [i3] at w1
    have hb := impL_base (u' := u) (l.map listRec) 0 (0 + (m.map lineR).length) x.1 (by rw [w1])
    have hok2 := impL_ok (u := u) (l.map listRec) (0 + (m.map lineR).length) x.1 hb.1
    rw [w1] at hb
    rw [i3, w1]
    have := hgv.2.1
    have hu8 := hg.2.1
    have hw13 := w2.2.1
    refine ⟨⟨by omega, ⟨by omega, by omega⟩, ⟨by dsimp only; omega, by dsimp only; omega⟩⟩, rfl, ?_⟩
    refine Prod.ext hb.2 (Prod.ext ?_ hb.1)
    dsimp only
    rw [hok2, hb.2, hok]
    dsimp only
    omega
  · refine .inl ⟨h, ?_⟩
    rw [if_neg h]
    have := impL_err (m.map lineR) 0 u h
    exact Prod.ext this rfl
end Go.Proofs.YtmjnkaabooockaaGreatDoor
namespace Go.Proofs.YtmjnkaabooockaaGreatDoor
open Go.Lib
set_option maxHeartbeats 4000000
set_option maxRecDepth 100000
theorem c_Parts (l m : List Raw6) (w : Int × Int) : PC env 7 [⟨.sl RawT, l⟩, ⟨.sl RawT, m⟩, ⟨.st (.pair (.int .u8) (.int .u8)), w⟩] .bool true := by
  refine PC.of_PW (m := 2000) env_ok fn_7 rfl rfl rfl rfl (by kernel_rfl) ?_; intro hx; simp only [Tryz.f7]; simp (config := {maxSteps := 4000000}) only [go_sem, Nat.reduceBEq, ↓reduceIte, ↓reduceDIte, Nat.reduceAdd, Nat.reduceSub, Nat.reduceMul, Nat.reduceLeDiff, ← Bool.decide_and, ← Bool.decide_or, ← decide_not, Int.reduceLT, Int.reduceLE, Int.reduceToNat, Int.reduceNeg, by_nil, by32, by10, litP, appendC, Int.reduceEq, not_true_eq_false, not_false_eq_true, false_implies]
  have hg := made_good (l := l) hx.1.2 8 (by decide)
  have hwb : (0 ≤ w.1 ∧ w.1 ≤ 255) ∧ (0 ≤ w.2 ∧ w.2 ≤ 255) := ⟨u8_of hx.2.2.1.1, u8_of hx.2.2.1.2⟩
  have hw := own_ok (w := w) hwb
  have hmb : ∀ x, x ∈ m → RawT.ok x := hx.2.1.2
  refine ⟨_, c_sanity, _, c_MadeR l 8 (by decide) (by decide), fun _ => ⟨_, c_owner w, fun _ => ?_⟩⟩
  clear hx
  change goodU 8 (madeU (l.take (8 : Int).toNat)) at hg
  generalize madeU (l.take (8 : Int).toNat) = u at hg
  generalize ho : ownE w = o at hw
  refine ⟨_, c_Lines m 2 (by decide) (by decide), fun _ => ?_⟩
  have hm2 : (m.take (2 : Int).toNat).length ≤ 2 := by rw [List.length_take]; exact Nat.min_le_left ..
  have hmb2 : ∀ x, x ∈ m.take (2 : Int).toNat → RawT.ok x := fun x h => hmb x (List.mem_of_mem_take h)
  generalize m.take (2 : Int).toNat = m' at hm2 hmb2
  have hlb : ∀ p, p ∈ [w, (w.2, w.1)] → 0 ≤ p.2 ∧ p.2 ≤ 255 := fun p hp => by
    simp only [List.mem_cons, List.not_mem_nil, or_false] at hp
    rcases hp with rfl | rfl
    · exact hwb.2
    · exact hwb.1
  have kL := c_List [w, (w.2, w.1)] 2 (by decide) (by decide)
  rw [List.take_of_length_le (show [w, (w.2, w.1)].length ≤ (2 : Int).toNat from Nat.le_refl 2)] at kL
  have law := parts_law hg hmb2 hm2 hlb (Nat.le_refl _) hw.1 hw.2
  have l1 := linesT_len hmb2
  have l2 := listT_len hlb
  simp only [List.length_cons, List.length_nil] at l2
  have k1 := c_imported u (linesT m') o (by omega) (by have := hg.2.1; omega)
  have k12 := c_imported u (linesT m' ++ listT [w, (w.2, w.1)]) o (by rw [List.length_append]; omega) (by have := hg.2.1; omega)
  have hs : ∀ v : Usr, PC env 15 [⟨UserT, v⟩, ⟨UserT, v⟩] .bool true := fun v => by
    have := c_Same v v
    rwa [eqP_t rfl] at this
  have k3 := fun hl => c_imported (importS u (linesT m') o.1 o.2).1 (listT [w, (w.2, w.1)]) o (by omega) hl
  rcases law with ⟨h1, h2⟩ | ⟨h1, ⟨hlen, hb1, hb2⟩, h3, h4⟩
  · rw [h2] at k12
    refine ⟨_, kL, fun _ => ⟨by omega, _, k12, fun _ => ⟨_, k1, fun _ => ⟨fun _ => ⟨fun _ => ⟨fun _ => ⟨_, hs u, ?_⟩, fun h => absurd rfl h⟩, fun h => absurd rfl h⟩, fun h => absurd h h1⟩⟩⟩⟩
    simp (config := {maxSteps := 4000000}) only [go_sem, Nat.reduceBEq, ↓reduceIte, ↓reduceDIte, Nat.reduceAdd, Nat.reduceSub, Nat.reduceMul, Nat.reduceLeDiff, ← Bool.decide_and, ← Bool.decide_or, ← decide_not, Int.reduceLT, Int.reduceLE, Int.reduceToNat, Int.reduceNeg, by_nil, by32, by10, litP, appendC, Int.reduceEq, not_true_eq_false, not_false_eq_true, false_implies]
  · rw [h4] at k12
    have k3' := k3 (by omega)
    have hk : (importS (importS u (linesT m') o.1 o.2).1 (listT [w, (w.2, w.1)]) o.1 o.2).2.2 = 0 := h3
    generalize importS (importS u (linesT m') o.1 o.2).1 (listT [w, (w.2, w.1)]) o.1 o.2 = y at k12 k3' hk hb2
    refine ⟨_, kL, fun _ => ⟨by omega, _, k12, fun _ => ⟨_, k1, fun _ => ⟨fun h => absurd h1 h, fun _ => ⟨_, k3', fun _ => ⟨fun _ => ⟨fun _ => ⟨_, hs y.1, ?_⟩, fun h => absurd hk h⟩, fun h => absurd rfl h⟩⟩⟩⟩⟩⟩
    simp (config := {maxSteps := 4000000}) only [go_sem, Nat.reduceBEq, ↓reduceIte, ↓reduceDIte, Nat.reduceAdd, Nat.reduceSub, Nat.reduceMul, Nat.reduceLeDiff, ← Bool.decide_and, ← Bool.decide_or, ← decide_not, Int.reduceLT, Int.reduceLE, Int.reduceToNat, Int.reduceNeg, by_nil, by32, by10, litP, appendC, Int.reduceEq, not_true_eq_false, not_false_eq_true, false_implies]
    exact i64_ok (by omega) (by omega)
end Go.Proofs.YtmjnkaabooockaaGreatDoor
namespace Go.Proofs.YtmjnkaabooockaaGreatDoor
open Go.ChangeShapes Go.WideShapes Go.ChangeAt Go.RowKit
theorem parts_all (xs : List (Sigma Ty.den)) (h : xs.map (·.1) = [.sl RawT, .sl RawT, .st (.pair (.int .u8) (.int .u8))]) : PC env 7 xs .bool true := by
  match xs, h with
  | [⟨_, y0⟩, ⟨_, y1⟩, ⟨_, y2⟩], h =>
    injection h with h1 h
    injection h with h2 h
    injection h with h3 h
    dsimp only at h1 h2 h3
    subst h1 h2 h3
    exact c_Parts y0 y1 y2
set_option maxRecDepth 100000 in
theorem parts_lifted (os : Os) (started : os.Started) (H : Type) (enc : TypeId × Value → H) :
    ReturnsInHanded {} Tryz.checked os 7 .any (Rows.vaultPartsRow.pre enc Tryz.prog Tryz.f7 (OpenSpec.ofChange Rows.vaultPartsSpec)) (Rows.vaultPartsSpec.post enc Tryz.prog Tryz.f7 false true false false) := by
  rw [pre_laid (c := Rows.vaultPartsRow) (s := Rows.vaultPartsSpec) rfl]
  refine lift_laid (C := Tryz.checked) (X := fun w _ => laidMet Tryz.prog laidL w) laid_heap own_none started (by kernel_rfl) fn_7
    (ChangeSpec.witness_at (enc := enc) (C := Tryz.checked) (X := fun w _ => laidMet Tryz.prog laidL w) false (laidWorld os) #[.slice none 0 0, .slice none 0 0, .agg #[.int .u8 0, .int .u8 0]] 8 (by kernel_rfl) (by kernel_rfl) (by kernel_rfl) (by kernel_rfl) (by kernel_rfl) (by kernel_rfl) (laid_met os _)) ?_
  intro W base args ds gs before hval hW hx hsh
  refine law_calls (E := env) (b0 := base) (Ts := [.sl RawT, .sl RawT, .st (.pair (.int .u8) (.int .u8))]) (tb := 4) env_ok laid_out (of_decide_eq_true (by kernel_rfl)) rfl rfl rfl (by kernel_rfl) rfl ?_ parts_all (tabs_of hsh hx) hval hW
  intro ds hds
  match ds, hds with
  | [d0, d1, d2], _ => rfl
theorem parts_holds : Rows.VaultPartsSaid :=
  OpenClaim.holds_of_wide 7 Tryz.f7 rfl rfl rfl rfl rfl rfl rfl ⟨rfl, rfl, rfl, rfl, rfl⟩ rfl rfl rfl rfl rfl (by kernel_rfl) fn_7 (by kernel_rfl)
    (of_decide_eq_true (by kernel_rfl)) (by unfold Func.isWrapper; first | (rw [if_pos (by decide +kernel)]; kernel_rfl) | (rw [if_neg (by decide +kernel)]; exact ⟨rfl, rfl⟩))
    (fun os started H enc _ => parts_lifted os started H enc)
theorem parts_card : Rows.VaultPartsCardSaid :=
  Claim7.holds_tied_plain_at .later [] [.data, .data, .data] true (true, "426d57a87c791b27104f04666428ef46072b02b99fc935c38a2ca183da242164") false
    parts_holds (fun _ h => by cases h) (by kernel_rfl) (fun _ h => by cases h) vaultParts_row_tie rfl ⟨rfl, rfl⟩ (by kernel_rfl) rfl
    (fun f fn hf hfn => by
      obtain rfl : f = 7 := Option.some.inj ((show Tryz.prog.funcNamed "syllabary/syllabarylaw27.VaultParts" = some 7 by kernel_rfl).symm.trans hf) |>.symm
      obtain rfl : fn = Tryz.f7 := (Option.some.inj (fn_7.symm.trans hfn)).symm
      exact ⟨by kernel_rfl, fun j t ht => by
        have hall : (Tryz.f7.params.toList.all fun u => !Tryz.prog.wantsStandIn u) = true := by kernel_rfl
        have hm : t ∈ Tryz.f7.params.toList := Array.mem_toList_iff.2 (Array.mem_of_getElem? ht)
        exact (show Tryz.prog.wantsStandIn t = false by simpa using List.all_eq_true.1 hall t hm)⟩)
    (by kernel_rfl)
end Go.Proofs.YtmjnkaabooockaaGreatDoor
