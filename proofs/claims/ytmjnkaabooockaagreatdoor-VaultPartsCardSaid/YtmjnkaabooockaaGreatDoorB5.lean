/- VaultRestores, as a contract. Nothing here is trusted; no condition. -/
import Derived.Test.YtmjnkaabooockaaGreatDoorB4
set_option linter.unusedSimpArgs false
set_option linter.unusedVariables false
namespace Go.Proofs.YtmjnkaabooockaaGreatDoor
open Go.Lib
set_option maxHeartbeats 1000000
set_option maxRecDepth 100000
def txt (l : List Str) : Str := (l.map fun x => x ++ [10]).flatten
theorem linesN_cons {n : Nat} {x t : Str} {l : List Rec} (h : (10 : UInt8) ∉ x) : linesN (n + 1) (x ++ 10 :: t) l = (match lineV x with | none => ([], (l.length : Int)) | some q => linesN n t (l ++ [q])) := by
  rw [linesN, if_neg (by simp), cut_yes h]
  rfl
theorem linesN_txt : ∀ (xs : List (Str × Rec)) (n : Nat) (l : List Rec), (∀ p, p ∈ xs → (10 : UInt8) ∉ p.1 ∧ lineV p.1 = some p.2) → xs.length < n → linesN n (txt (xs.map (·.1))) l = (l ++ xs.map (·.2), -1)
  | [], n, l, _, hn => by
    obtain ⟨m, rfl⟩ : ∃ m, n = m + 1 := ⟨n - 1, by simp only [List.length_nil] at hn; omega⟩
    rw [linesN, if_pos (show txt (List.map (fun x : Str × Rec => x.1) []) = [] from rfl)]
    simp
  | p :: xs, n, l, h, hn => by
    obtain ⟨m, rfl⟩ : ∃ m, n = m + 1 := ⟨n - 1, by simp only [List.length_cons] at hn; omega⟩
    obtain ⟨h1, h2⟩ := h p (List.mem_cons_self ..)
    have e : txt ((p :: xs).map (·.1)) = p.1 ++ 10 :: txt (xs.map (·.1)) := by simp [txt]
    rw [e, linesN_cons h1, h2]
    dsimp only
    rw [linesN_txt xs m (l ++ [p.2]) (fun q hq => h q (List.mem_cons_of_mem _ hq)) (by simp only [List.length_cons] at hn; omega)]
    simp
theorem txt_len (l : List Str) : l.length ≤ (txt l).length := by
  induction l with
  | nil => simp
  | cons a l ih =>
    have : txt (a :: l) = a ++ 10 :: txt l := by simp [txt]
    rw [this]
    simp only [List.length_append, List.length_cons]
    omega
theorem linesE_txt (xs : List (Str × Rec)) (h : ∀ p, p ∈ xs → (10 : UInt8) ∉ p.1 ∧ lineV p.1 = some p.2) : linesE (txt (xs.map (·.1))) = (xs.map (·.2), -1) := by
  unfold linesE
  rw [linesN_txt xs _ [] h (by have := txt_len (xs.map (·.1)); rw [List.length_map] at this; omega)]
  rfl
theorem joinC_no (c d : UInt8) (hcd : d ≠ c) : ∀ (l : List Str), (∀ x, x ∈ l → d ∉ x) → d ∉ joinC c l
  | [], _ => by simp [joinC]
  | [x], h => by simpa [joinC] using h x (by simp)
  | x :: y :: l, h => by
    rw [joinC_cons c x (by simp)]
    have ih := joinC_no c d hcd (y :: l) (fun z hz => h z (List.mem_cons_of_mem _ hz))
    simp only [List.mem_append, List.mem_cons, not_or]
    exact ⟨h x (by simp), hcd, ih⟩
theorem no10_line {r : Rec} (h : rightR r = true) : (10 : UInt8) ∉ lineE r := by
  obtain ⟨h1, h2, h3, h4, h5, h6⟩ := right_nums h
  refine joinC_no 32 10 (by decide) _ (fun x hx => ?_)
  simp only [List.mem_cons, List.not_mem_nil, or_false] at hx
  rcases hx with rfl | rfl | rfl | rfl | rfl | rfl
  · exact no10_num _ (by omega)
  · exact no10_num _ (by omega)
  · exact no10_num _ (by omega)
  · exact all_no_c okU10 (word_all h4)
  · exact no10_num _ (by omega)
  · exact no10_num _ (by omega)
theorem no10_list {w : Str} {n : Int} (h : wordB w = true) (h0 : 0 ≤ n) : (10 : UInt8) ∉ listE w n := by
  unfold listE
  simp only [List.mem_append, List.mem_cons, not_or]
  exact ⟨all_no_c okU10 (word_all h), by decide, no10_num _ h0⟩
def listRec (p : Int × Int) : Rec := (0, 0, 0, rawW p.1, 0, 1 + p.2)
theorem textX_lines {l : List Rec} (h : ∀ r, r ∈ l → rightR r = true) : linesE (textX l) = (l, -1) := by
  have := linesE_txt (l.map fun r => (lineE r, r)) (fun p hp => by
    obtain ⟨r, hr, rfl⟩ := List.mem_map.1 hp
    exact ⟨no10_line (h r hr), lineV_line (h r hr)⟩)
  rw [List.map_map, List.map_map] at this
  have e : l.map ((fun x => x.2) ∘ fun r => (lineE r, r)) = l := by
    conv => rhs; rw [← List.map_id l]
    rfl
  rw [e] at this
  rw [← this]
  congr 1
  unfold textX txt
  rw [List.map_map]
  rfl
theorem both_lines {m : List Raw6} {l : List (Int × Int)} (h : ∀ x, x ∈ m → RawT.ok x) (hl : ∀ p, p ∈ l → 0 ≤ p.2 ∧ p.2 ≤ 255) : linesE (linesT m ++ listT l) = (m.map lineR ++ l.map listRec, -1) := by
  have := linesE_txt ((m.map fun x => (lineE (lineR x), lineR x)) ++ l.map fun p => (listE (rawW p.1) (1 + p.2), listRec p)) (fun p hp => by
    rcases List.mem_append.1 hp with hp | hp
    · obtain ⟨r, hr, rfl⟩ := List.mem_map.1 hp
      exact ⟨no10_line (lineR_right (h r hr)), lineV_line (lineR_right (h r hr))⟩
    · obtain ⟨r, hr, rfl⟩ := List.mem_map.1 hp
      have := hl r hr
      exact ⟨no10_list (rawW_ok _) (by omega), lineV_list (rawW_ok _) (by omega) (by omega)⟩)
  rw [List.map_append, List.map_append, List.map_map, List.map_map, List.map_map, List.map_map] at this
  refine Eq.trans ?_ this
  congr 1
  unfold linesT listT txt
  rw [List.map_append, List.flatten_append, List.map_map, List.map_map]
  rfl
theorem srt_uniq {α : Type} {pl : α → Int × Int} {l : List α} (h : Srt pl l) {x y : α} (hx : x ∈ l) (hy : y ∈ l) (he : pl x = pl y) : x = y := by
  obtain ⟨i, hi⟩ := List.getElem?_of_mem hx
  obtain ⟨j, hj⟩ := List.getElem?_of_mem hy
  rcases Nat.lt_trichotomy i j with h1 | h1 | h1
  · have := srt_get h hi hj h1
    rw [he, befB_irr] at this; cases this
  · subst h1
    rw [hi] at hj
    exact Option.some.inj hj
  · have := srt_get h hj hi h1
    rw [he, befB_irr] at this; cases this
theorem rest_meant {u : Usr} {r : Rec} (h : u.2.1.any (fun o => meansS o r) = true) : restS u r = (u, 0) := if_pos h
theorem rest_there {u : Usr} {r : Rec} (hs : Srt plR u.1) (h : r ∈ u.1) : restS u r = (u, 0) := by
  unfold restS
  split
  · rfl
  · have hh := (hit_iff hs (plR r)).2 (List.mem_map_of_mem h)
    obtain ⟨x, hx1, hx2⟩ := hit_some hh
    have : x = r := srt_uniq hs (List.mem_of_getElem? hx1) h (cmpP_zero.1 hx2)
    rw [if_pos (by rw [hx1, this])]
theorem same_iff {o : Ord'} {r : Rec} : samePl o r = true ↔ plO o = plR r := by
  unfold samePl plO plR
  rw [decide_eq_true_eq, Prod.mk.injEq]
theorem rest_new {u : Usr} {r : Rec} (hs : Srt plR u.1) (hm : u.2.1.any (fun o => meansS o r) = false) (hn : plR r ∉ u.1.map plR) (ho : plR r ∉ u.2.1.map plO) (hl : u.1.length < 400) :
    restS u r = ((insAt u.1 (linI plR u.1 (plR r)) r, u.2.1, setL u.2.2 r.1 (max (getL u.2.2 r.1) r.2.1)), 0) := by
  have h1 : hitAt plR u.1 (plR r) (bsI plR u.1 (plR r)) = false := Bool.eq_false_iff.2 fun hh => hn ((hit_iff hs _).1 hh)
  have h2 : u.2.1.any (fun o => samePl o r) = false := Bool.eq_false_iff.2 fun hh => by
    obtain ⟨o, ho', hm'⟩ := List.any_eq_true.1 hh
    exact ho (by rw [← same_iff.1 hm']; exact List.mem_map_of_mem ho')
  unfold restS
  rw [if_neg (by rw [hm]; decide), if_neg (hit_no h1), h1, h2, if_neg (by decide), if_neg (by omega), bsI_lin hs]
theorem max_last {L : L8} {d s : Int} (h0 : 0 ≤ d) (h7 : d ≤ 7) {b : Int} (hs : s ≤ b) (h : ∀ i : Int, 0 ≤ i → i ≤ 7 → 0 ≤ getL L i ∧ getL L i ≤ b) :
    ∀ i : Int, 0 ≤ i → i ≤ 7 → getL L i ≤ getL (setL L d (max (getL L d) s)) i ∧ getL (setL L d (max (getL L d) s)) i ≤ b := by
  intro i hi hi7
  have := h i hi hi7
  by_cases e : i = d
  · subst e; rw [get_set L _ hi hi7]; omega
  · rw [get_setL_ne L _ hi hi7 e]; omega
theorem any_no {l : List Ord'} {r : Rec} (h : l.any (fun o => meansS o r) = false) {o : Ord'} (ho : o ∈ l) : meansS o r = false := by
  rw [List.any_eq_false] at h
  simpa using h o ho
theorem new_VU {u : Usr} {r : Rec} (hu : VU u) (hr : rightR r = true) (hm : u.2.1.any (fun o => meansS o r) = false) (hn : plR r ∉ u.1.map plR) (ho : plR r ∉ u.2.1.map plO) (hl : u.1.length < 400) :
    VU (insAt u.1 (linI plR u.1 (plR r)) r, u.2.1, setL u.2.2 r.1 (max (getL u.2.2 r.1) r.2.1)) := by
  obtain ⟨d0, d7⟩ := rec_dev hr
  have hnum := (right_nums hr).2.1
  have hx := max_last (L := u.2.2) (s := r.2.1) d0 d7 hnum.2 hu.last
  have hlen : (insAt u.1 (linI plR u.1 (plR r)) r).length = u.1.length + 1 := len_insAt (linI_le _ _ _)
  refine ⟨by dsimp only; omega, hu.l2, fun i h0 h7 => ⟨by have := (hx i h0 h7).1; have := (hu.last i h0 h7).1; dsimp only; omega, (hx i h0 h7).2⟩, fun o ho' => ?_, hu.sO, srt_ins hu.sR hn, fun q hq => ?_⟩
  · obtain ⟨k1, k2⟩ := hu.ord o ho'
    obtain ⟨e0, e7⟩ := ord_dev k1
    exact ⟨k1, Int.le_trans k2 (hx _ e0 e7).1⟩
  · rcases mem_insAt.1 hq with rfl | hq
    · refine ⟨hr, ?_, ho, fun o ho' => ?_⟩
      · dsimp only
        rw [get_set _ _ d0 d7]
        omega
      · have : meansS o q = false := any_no hm ho'
        rw [meansS_of (hu.ord o ho').1 hr] at this
        exact this
    · obtain ⟨k1, k2, k3, k4⟩ := hu.rcd q hq
      obtain ⟨e0, e7⟩ := rec_dev k1
      exact ⟨k1, Int.le_trans k2 (hx _ e0 e7).1, k3, k4⟩
theorem rest_VU {u : Usr} {r : Rec} (hu : VU u) (hr : rightR r = true) : VU (restS u r).1 := by
  by_cases hm : u.2.1.any (fun o => meansS o r) = true
  · rw [rest_meant hm]; exact hu
  have hm' := Bool.eq_false_iff.2 hm
  by_cases hn : plR r ∈ u.1.map plR
  · unfold restS
    have h1 := (hit_iff hu.sR (plR r)).2 hn
    rw [if_neg hm, h1]
    split
    · exact hu
    · exact hu
  by_cases ho : plR r ∈ u.2.1.map plO
  · obtain ⟨o, ho1, ho2⟩ := List.mem_map.1 ho
    unfold restS
    rw [if_neg hm]
    split
    · exact hu
    · rw [if_pos (by rw [List.any_eq_true.2 ⟨o, ho1, same_iff.2 ho2⟩, Bool.or_true])]
      exact hu
  by_cases hl : u.1.length < 400
  · rw [rest_new hu.sR hm' hn ho hl]
    exact new_VU hu hr hm' hn ho hl
  · unfold restS
    repeat' split
    all_goals first | exact hu | (exfalso; omega)
theorem rest_few {k : Nat} {u : Usr} {r : Rec} (hf : few k u) (hr : rightR r = true) (h9 : r.2.1 ≤ 9) : few (max (k + 1) 9) (restS u r).1 := by
  have hup : few (max (k + 1) 9) u := few_mono hf (by omega)
  unfold restS
  repeat' split
  all_goals first | exact hup | skip
  obtain ⟨d0, d7⟩ := rec_dev hr
  have hx := max_last (L := u.2.2) (s := r.2.1) d0 d7 (b := ((max (k + 1) 9 : Nat) : Int)) (by omega) hup.2.2
  refine ⟨?_, hup.2.1, fun i h0 h7 => ⟨by have := (hx i h0 h7).1; have := (hf.2.2 i h0 h7).1; dsimp only; omega, (hx i h0 h7).2⟩⟩
  have := hf.1
  dsimp only
  rw [len_insAt (bsI_le _ _ _)]
  omega
theorem impL_inv {d e : Int} {u : Usr} {l : List Rec} (P : Nat → Usr → Prop) (h : ∀ i v r, l[i]? = some r → P i v → (stepI d e v r).2 = 0 ∧ P (i + 1) (stepI d e v r).1) :
    ∀ (n k : Nat) (v : Usr), l.length - k = n → k ≤ l.length → P k v → ∃ w, P l.length w ∧ impL d e u k v (l.drop k) = (w, (w.1.length : Int) - (u.1.length : Int), 0)
  | 0, k, v, hn, hk, hp => by
    have e : k = l.length := by omega
    subst e
    exact ⟨v, hp, by rw [List.drop_of_length_le (Nat.le_refl _), impL]⟩
  | n + 1, k, v, hn, hk, hp => by
    obtain ⟨r, hr⟩ := get_of_lt (xs := l) (i := k) (by omega)
    obtain ⟨h1, h2⟩ := h k v r hr hp
    rw [drop_cons hr, impL, if_pos h1]
    exact impL_inv P h n (k + 1) _ (by omega) (by omega) h2
theorem imp_inv {d e : Int} {u v : Usr} {l : List Rec} (P : Nat → Usr → Prop) (h0 : P 0 v) (h : ∀ i v r, l[i]? = some r → P i v → (stepI d e v r).2 = 0 ∧ P (i + 1) (stepI d e v r).1) :
    ∃ w, P l.length w ∧ impL d e u 0 v l = (w, (w.1.length : Int) - (u.1.length : Int), 0) := by
  have := impL_inv (u := u) P h l.length 0 v (by omega) (Nat.zero_le _) h0
  simpa using this
theorem step_rest {d e : Int} {v : Usr} {r : Rec} (h : rightR r = true) : stepI d e v r = restS v r := by
  have := (right_nums h).2.1
  exact if_neg (by omega)
theorem imp_text {u : Usr} {l : List Rec} {d e : Int} (h : ∀ r, r ∈ l → rightR r = true) (hd : 0 ≤ d ∧ d < 8) (he : 0 ≤ e ∧ e ≤ 10000) : importS u (textX l) d e = impL d e u 0 u l := by
  unfold importS
  rw [if_neg (by omega), textX_lines h, if_neg (show ¬ (0 : Int) ≤ -1 by decide)]
theorem not_any {l : List Ord'} {r : Rec} (ho : ∀ o, o ∈ l → rightO o = true) (hr : rightR r = true) (h : ∀ o, o ∈ l → meantB o r = false) : l.any (fun o => meansS o r) = false := by
  rw [Bool.eq_false_iff]
  intro hh
  obtain ⟨o, h1, h2⟩ := List.any_eq_true.1 hh
  rw [meansS_of (ho o h1) hr, h o h1] at h2
  cases h2
end Go.Proofs.YtmjnkaabooockaaGreatDoor
namespace Go.Proofs.YtmjnkaabooockaaGreatDoor
open Go.Lib
set_option maxHeartbeats 1000000
set_option maxRecDepth 100000
abbrev z8 : L8 := (0, 0, 0, 0, 0, 0, 0, 0)
abbrev noU : Usr := ([], [], z8)
theorem noU_VU : VU noU := exU0_VU
theorem srt_ext {l m : List Rec} (h1 : Srt plR l) (h2 : Srt plR m) (h : ∀ x, x ∈ l ↔ x ∈ m) : l = m :=
  srtL_ext (lt := fun x y => befB (plR x) (plR y)) (fun _ => befB_irr) (fun _ _ _ a b => befB_trans a b) h1 h2 h
theorem seen_nodup {l : List Rec} (h : Srt plR l) {i : Nat} {r : Rec} (hr : (seenS l)[i]? = some r) : r ∉ (seenS l).take i := fun hm => by
  obtain ⟨j, hj⟩ := List.getElem?_of_mem hm
  rw [List.getElem?_take] at hj
  split at hj
  · rename_i hlt
    have := srtL_get (seen_srt h) hj hr hlt
    rw [ltS_irr] at this
    cases this
  · cases hj
theorem take_succ_mem {α : Type} {l : List α} {i : Nat} {r x : α} (h : l[i]? = some r) : x ∈ l.take (i + 1) ↔ x = r ∨ x ∈ l.take i := by
  rw [take_snoc h, List.mem_append, List.mem_singleton, or_comm]
theorem restores_none {u : Usr} (hu : VU u) {d e : Int} (hd : 0 ≤ d ∧ d < 8) (he : 0 ≤ e ∧ e ≤ 10000) :
    ∃ w, importS noU (textX (seenS u.1)) d e = (w, (u.1.length : Int), 0) ∧ w.1 = u.1 ∧ VU w := by
  have hR : ∀ r, r ∈ seenS u.1 → rightR r = true := fun r h => (hu.rcd r (seen_mem.1 h)).1
  rw [imp_text hR hd he]
  have hlen := seen_len u.1
  have h400 := hu.l1
  obtain ⟨w, ⟨w1, w2, w3, w4⟩, hw⟩ := imp_inv (d := d) (e := e) (u := noU) (v := noU) (l := seenS u.1)
    (fun i v => v.2.1 = [] ∧ VU v ∧ v.1.length = i ∧ ∀ r, r ∈ v.1 ↔ r ∈ (seenS u.1).take i)
    ⟨rfl, noU_VU, rfl, fun r => by simp⟩ (fun i v r hr ⟨p1, p2, p3, p4⟩ => by
      have hrm := List.mem_of_getElem? hr
      have hi : i < (seenS u.1).length := (List.getElem?_eq_some_iff.1 hr).1
      have hrr := hR r hrm
      have hm : v.2.1.any (fun o => meansS o r) = false := by rw [p1]; rfl
      have ho : plR r ∉ v.2.1.map plO := by rw [p1]; exact List.not_mem_nil
      have hn : plR r ∉ v.1.map plR := fun hh => by
        obtain ⟨q, hq, hqe⟩ := List.mem_map.1 hh
        have hq' := (p4 q).1 hq
        have hqm : q ∈ u.1 := seen_mem.1 (List.mem_of_mem_take hq')
        have : q = r := srt_uniq hu.sR hqm (seen_mem.1 hrm) hqe
        subst this
        exact seen_nodup hu.sR hr hq'
      rw [step_rest hrr, rest_new p2.sR hm hn ho (by omega)]
      refine ⟨rfl, p1, new_VU p2 hrr hm hn ho (by omega), ?_, fun x => ?_⟩
      · dsimp only
        rw [len_insAt (linI_le _ _ _), p3]
      · dsimp only
        rw [mem_insAt, take_succ_mem hr, p4])
  refine ⟨w, ?_, ?_, w2⟩
  · rw [hw, w3, hlen]
    simp
  · refine srt_ext w2.sR hu.sR fun x => ?_
    rw [w4, List.take_length, seen_mem]
theorem restores_self {u : Usr} (hu : VU u) {d e : Int} (hd : 0 ≤ d ∧ d < 8) (he : 0 ≤ e ∧ e ≤ 10000) :
    importS u (textX (seenS u.1)) d e = (u, 0, 0) := by
  have hR : ∀ r, r ∈ seenS u.1 → rightR r = true := fun r h => (hu.rcd r (seen_mem.1 h)).1
  rw [imp_text hR hd he]
  obtain ⟨w, w1, hw⟩ := imp_inv (d := d) (e := e) (u := u) (v := u) (l := seenS u.1) (fun _ v => v = u) rfl (fun i v r hr hv => by
    subst hv
    have hrm := List.mem_of_getElem? hr
    rw [step_rest (hR r hrm), rest_there hu.sR (seen_mem.1 hrm)]
    exact ⟨rfl, rfl⟩)
  rw [hw, w1, Int.sub_self]
structure Left (u v : Usr) : Prop where
  vu : VU u
  vv : VU v
  mem : ∀ r, r ∈ v.1 ↔ r ∈ u.1 ∧ ∀ o, o ∈ v.2.1 → meantB o r = false
  last : ∀ i : Int, 0 ≤ i → i ≤ 7 → getL u.2.2 i ≤ getL v.2.2 i
  places : ∀ r, r ∈ u.1 → plR r ∉ v.2.1.map plO
theorem left_self {u : Usr} (hu : VU u) : Left u u :=
  ⟨hu, hu, fun r => ⟨fun h => ⟨h, (hu.rcd r h).2.2.2⟩, fun h => h.1⟩, fun _ _ _ => Int.le_refl _, fun r h => (hu.rcd r h).2.2.1⟩
theorem left_forget {u v : Usr} {o : Ord'} {k : Nat} (h : Left u v) (hf : few k v) (hk : k < 400) (hr : rightO (o.1, 1, o.2.2) = true) : Left u (forgetS v o).1 ∧ few (k + 1) (forgetS v o).1 ∧ (forgetS v o).2 = 0 := by
  obtain ⟨⟨g1, g2⟩, g3⟩ := forget_good ⟨h.vv, hf⟩ hk hr
  refine ⟨?_, g2, g3⟩
  obtain ⟨d0, d7⟩ := rightO_dev hr
  have hl := hf.2.2 _ d0 d7
  have hlen := hf.2.1
  rw [forgetS_eq hr (by omega) (by omega)] at g1 ⊢
  dsimp only at g1 ⊢
  refine ⟨h.vu, g1, fun r => ?_, fun i h0 h7 => ?_, fun r hr' hm => ?_⟩
  · dsimp only
    rw [List.mem_filter, h.mem, Bool.not_eq_true']
    constructor
    · rintro ⟨⟨a, b⟩, c⟩
      refine ⟨a, fun o' ho' => ?_⟩
      rcases mem_insAt.1 ho' with rfl | ho'
      · exact c
      · exact b o' ho'
    · rintro ⟨a, b⟩
      exact ⟨⟨a, fun o' ho' => b o' (mem_insAt.2 (.inr ho'))⟩, b _ (mem_insAt.2 (.inl rfl))⟩
  · exact Int.le_trans (h.last i h0 h7) (getL_up _ h0 h7)
  · obtain ⟨o', ho', he⟩ := List.mem_map.1 hm
    rcases mem_insAt.1 ho' with rfl | ho'
    · have h1 := (h.vu.rcd r hr').2.1
      have e1 : o.1 = r.1 := congrArg Prod.fst he
      have e2 : getL v.2.2 o.1 + 1 = r.2.1 := congrArg Prod.snd he
      have h2 := h.last r.1 (by omega) (by omega)
      rw [e1] at e2
      omega
    · exact h.places r hr' (List.mem_map.2 ⟨o', ho', he⟩)
theorem forgets_same {u v : Usr} (h : Left u v) {d e : Int} (hd : 0 ≤ d ∧ d < 8) (he : 0 ≤ e ∧ e ≤ 10000) : importS v (textX (seenS u.1)) d e = (v, 0, 0) := by
  have hR : ∀ r, r ∈ seenS u.1 → rightR r = true := fun r hr => (h.vu.rcd r (seen_mem.1 hr)).1
  rw [imp_text hR hd he]
  obtain ⟨w, w1, hw⟩ := imp_inv (d := d) (e := e) (u := v) (v := v) (l := seenS u.1) (fun _ x => x = v) rfl (fun i x r hr hx => by
    subst hx
    have hrm := List.mem_of_getElem? hr
    rw [step_rest (hR r hrm)]
    cases hm : x.2.1.any (fun o => meansS o r)
    · have : r ∈ x.1 := (h.mem r).2 ⟨seen_mem.1 hrm, fun o ho => by
        rw [← meansS_of (h.vv.ord o ho).1 (hR r hrm)]
        exact any_no hm ho⟩
      rw [rest_there h.vv.sR this]
      exact ⟨rfl, rfl⟩
    · rw [rest_meant hm]
      exact ⟨rfl, rfl⟩)
  rw [hw, w1, Int.sub_self]
theorem setL_self {L : L8} {d s : Int} (h0 : 0 ≤ d) (h7 : d ≤ 7) (h : s ≤ getL L d) : setL L d (max (getL L d) s) = L := by
  have e : max (getL L d) s = getL L d := by omega
  rw [e]
  obtain ⟨a, b, c, d', e', f, g, i⟩ := L
  have h8 : d = 0 ∨ d = 1 ∨ d = 2 ∨ d = 3 ∨ d = 4 ∨ d = 5 ∨ d = 6 ∨ d = 7 := by omega
  rcases h8 with rfl | rfl | rfl | rfl | rfl | rfl | rfl | rfl <;> rfl
theorem forgets_bare {u v : Usr} (h : Left u v) {d e : Int} (hd : 0 ≤ d ∧ d < 8) (he : 0 ≤ e ∧ e ≤ 10000) : ∃ n, importS ([], v.2.1, v.2.2) (textX (seenS u.1)) d e = (v, n, 0) := by
  have hR : ∀ r, r ∈ seenS u.1 → rightR r = true := fun r hr => (h.vu.rcd r (seen_mem.1 hr)).1
  rw [imp_text hR hd he]
  have hlen := seen_len u.1
  have h400 := h.vu.l1
  obtain ⟨w, ⟨w1, w2, w3, w4⟩, hw⟩ := imp_inv (d := d) (e := e) (u := ([], v.2.1, v.2.2)) (v := ([], v.2.1, v.2.2)) (l := seenS u.1)
    (fun i x => x.2 = v.2 ∧ Srt plR x.1 ∧ x.1.length ≤ i ∧ ∀ r, r ∈ x.1 ↔ r ∈ (seenS u.1).take i ∧ ∀ o, o ∈ v.2.1 → meantB o r = false)
    ⟨rfl, List.Pairwise.nil, Nat.le_refl _, fun r => by simp⟩ (fun i x r hr ⟨p1, p2, p3, p4⟩ => by
      have hrm := List.mem_of_getElem? hr
      have hi : i < (seenS u.1).length := (List.getElem?_eq_some_iff.1 hr).1
      have hrr := hR r hrm
      have hru := seen_mem.1 hrm
      obtain ⟨k1, k2, _⟩ := h.vu.rcd r hru
      obtain ⟨d0, d7⟩ := rec_dev k1
      rw [step_rest hrr]
      cases hm : x.2.1.any (fun o => meansS o r)
      · have hno : ∀ o, o ∈ v.2.1 → meantB o r = false := fun o ho => by
          rw [← meansS_of (h.vv.ord o ho).1 hrr]
          rw [p1] at hm
          exact any_no hm ho
        have hn : plR r ∉ x.1.map plR := fun hh => by
          obtain ⟨q, hq, hqe⟩ := List.mem_map.1 hh
          have hq' := ((p4 q).1 hq).1
          have : q = r := srt_uniq h.vu.sR (seen_mem.1 (List.mem_of_mem_take hq')) hru hqe
          subst this
          exact seen_nodup h.vu.sR hr hq'
        have ho : plR r ∉ x.2.1.map plO := by rw [p1]; exact h.places r hru
        rw [rest_new p2 hm hn ho (by omega)]
        refine ⟨rfl, ?_, srt_ins p2 hn, ?_, fun y => ?_⟩
        · dsimp only
          rw [p1, setL_self d0 d7 (Int.le_trans k2 (h.last _ d0 d7))]
        · dsimp only
          rw [len_insAt (linI_le _ _ _)]
          omega
        · dsimp only
          rw [mem_insAt, take_succ_mem hr, p4]
          constructor
          · rintro (rfl | ⟨a, b⟩)
            · exact ⟨.inl rfl, hno⟩
            · exact ⟨.inr a, b⟩
          · rintro ⟨rfl | a, b⟩
            · exact .inl rfl
            · exact .inr ⟨a, b⟩
      · rw [rest_meant hm]
        refine ⟨rfl, p1, p2, Nat.le_succ_of_le p3, fun y => ?_⟩
        rw [take_succ_mem hr, p4]
        constructor
        · rintro ⟨a, b⟩
          exact ⟨.inr a, b⟩
        · rintro ⟨rfl | a, b⟩
          · exfalso
            obtain ⟨o, ho, hh⟩ := List.any_eq_true.1 hm
            rw [p1] at ho
            rw [meansS_of (h.vv.ord o ho).1 hrr, b o ho] at hh
            cases hh
          · exact ⟨a, b⟩)
  rw [hw]
  have e : w = v := by
    have e1 : w.1 = v.1 := srt_ext w2 h.vv.sR fun x => by rw [w4, List.take_length, seen_mem, h.mem]
    obtain ⟨a, b⟩ := w
    obtain ⟨a', b'⟩ := v
    dsimp only at w1 e1
    rw [w1, e1]
  rw [e]
  exact ⟨_, rfl⟩
theorem count_txt {l : List Str} (h : ∀ x, x ∈ l → (10 : UInt8) ∉ x) : (txt l).countP (fun c => c == 10) = l.length := by
  induction l with
  | nil => rfl
  | cons a l ih =>
    have e : txt (a :: l) = a ++ 10 :: txt l := by simp [txt]
    rw [e, List.countP_append, List.countP_cons, ih fun x hx => h x (List.mem_cons_of_mem _ hx)]
    have : a.countP (fun c => c == 10) = 0 := List.countP_eq_zero.2 fun c hc => by
      intro hh
      have : c = 10 := by simpa using hh
      exact h a (List.mem_cons_self ..) (this ▸ hc)
    rw [this]
    simp
end Go.Proofs.YtmjnkaabooockaaGreatDoor
namespace Go.Proofs.YtmjnkaabooockaaGreatDoor
open Go.Lib
set_option maxHeartbeats 4000000
set_option maxRecDepth 100000
theorem c_imported (u : Usr) (s : Str) (o : Int × Int) (hs : s.length ≤ 1000000000) (hu : u.1.length ≤ 1000) : PC env 11 [⟨UserT, u⟩, ⟨.str, s⟩, ⟨OwnerT, o⟩] ImportedT (importS u s o.1 o.2) := by
  refine PC.of_PW (m := 2000) env_ok fn_11 rfl rfl rfl rfl (by kernel_rfl) ?_; intro hx; simp only [Tryz.f11]; simp only [go_sem, Nat.reduceBEq, ↓reduceIte, ↓reduceDIte, Nat.reduceAdd, Nat.reduceSub, Nat.reduceMul, Nat.reduceLeDiff, ← Bool.decide_and, ← Bool.decide_or, ← decide_not, Int.reduceLT, Int.reduceLE, Int.reduceToNat, Int.reduceNeg, by_nil, by32, by10, litP, appendC, Int.reduceEq, not_true_eq_false, not_false_eq_true, false_implies]
  exact ⟨_, c_Import u s o.1 o.2 hs hu, fun _ => rfl⟩
def ownE (w : Int × Int) : Int × Int := (w.1 % 8, w.2 % 20)
theorem c_owner (w : Int × Int) : PC env 12 [⟨.st (.pair (.int .u8) (.int .u8)), w⟩] OwnerT (ownE w) := by
  refine PC.of_PW (m := 2000) env_ok fn_12 rfl rfl rfl rfl (by kernel_rfl) ?_; intro hx; simp only [Tryz.f12]; simp only [go_sem, Nat.reduceBEq, ↓reduceIte, ↓reduceDIte, Nat.reduceAdd, Nat.reduceSub, Nat.reduceMul, Nat.reduceLeDiff, ← Bool.decide_and, ← Bool.decide_or, ← decide_not, Int.reduceLT, Int.reduceLE, Int.reduceToNat, Int.reduceNeg, by_nil, by32, by10, litP, appendC, Int.reduceEq, not_true_eq_false, not_false_eq_true, false_implies]
  have h1 := (u8_of hx.1.1).1
  have h2 := (u8_of hx.1.2).1
  dsimp only at h1 h2
  rw [Int.tmod_eq_emod_of_nonneg h1, Int.tmod_eq_emod_of_nonneg h2]
  rfl
abbrev rA : Rec := (0, 1, 3, [65, 66], 1, 2)
abbrev sA : Str := [48, 32, 49, 32, 51, 32, 65, 66, 32, 49, 32, 50]
theorem rA_right : rightR rA = true := by decide
theorem it0 : itoa 0 = [48] := by rw [itoa_dec (by decide)]; exact dec_small (by decide)
theorem it1 : itoa 1 = [49] := by rw [itoa_dec (by decide)]; exact dec_small (by decide)
theorem it2 : itoa 2 = [50] := by rw [itoa_dec (by decide)]; exact dec_small (by decide)
theorem it3 : itoa 3 = [51] := by rw [itoa_dec (by decide)]; exact dec_small (by decide)
theorem rA_line : lineE rA = sA := by
  unfold lineE
  rw [it0, it1, it2, it3]
  rfl
theorem no_rec {s : Str} (h : readL recFs zR (spl 32 s) = none) : readV recFs zR s = none := by rw [rd_spl _ _ _ (by decide)]; exact h
theorem no_line {s : Str} (h : readL recFs zR (spl 32 s) = none) (h' : readL listFs zR (spl 32 s) = none) : lineV s = none := by
  unfold lineV
  rw [no_rec h]
  dsimp only
  rw [rd_spl _ _ _ (by decide)]; exact h'
theorem parse_A : parseE sA = (rA, 0) := by
  unfold parseE
  rw [← rA_line, parse_line rA_right]
theorem parse_B : parseE [48, 32, 49, 32, 51, 32, 65, 66, 32, 49] = (zR, 3) := by
  unfold parseE
  rw [no_rec (by decide)]
theorem linesE_one {x : Str} (h : (10 : UInt8) ∉ x) : linesE (x ++ [10]) = (match lineV x with | none => ([], 0) | some q => ([q], -1)) := by
  unfold linesE
  have e : (x ++ [10]).length = x.length + 1 := by simp
  rw [e, linesN_cons h]
  cases lineV x
  · rfl
  · dsimp only
    rw [linesN, if_pos rfl]
    rfl
theorem imp_A : importS noU (sA ++ [10]) 2 4 = (([rA], [], (1, 0, 0, 0, 0, 0, 0, 0)), 1, 0) := by
  have h1 : linesE (sA ++ [10]) = ([rA], -1) := by
    rw [linesE_one (by decide), ← rA_line, lineV_line rA_right]
  unfold importS
  rw [if_neg (by decide), h1, if_neg (by decide)]
  rw [impL, step_rest rA_right, rest_new (u := noU) (r := rA) List.Pairwise.nil rfl (by simp) (by simp) (by decide), if_pos rfl, impL]
  rfl
theorem lst_AB : lineV [65, 66, 32, 53] = some (0, 0, 0, [65, 66], 0, 5) := by
  have := lineV_list (w := [65, 66]) (n := 5) (by decide) (by decide) (by decide)
  rw [← this]
  unfold listE
  rw [itoa_dec (by decide), dec_small (by decide)]
  rfl
abbrev uAB : Usr := ([(2, 1, 4, [65, 66], 0, 5)], [], (0, 0, 1, 0, 0, 0, 0, 0))
theorem imp_AB : importS noU ([65, 66, 32, 53] ++ [10]) 2 4 = (uAB, 1, 0) := by
  have h1 : linesE ([65, 66, 32, 53] ++ [10]) = ([(0, 0, 0, [65, 66], 0, 5)], -1) := by
    rw [linesE_one (by decide), lst_AB]
  unfold importS
  rw [if_neg (by decide), h1, if_neg (by decide)]
  have h2 : stepI 2 4 noU (0, 0, 0, [65, 66], 0, 5) = (uAB, 0) := by
    unfold stepI
    rw [if_pos rfl]
    dsimp only
    rw [learnS_eq (by decide) (by decide) (by decide), bsI_lin List.Pairwise.nil]
    rfl
  rw [impL, h2, if_pos rfl, impL]
  rfl
theorem imp_no1 : (importS noU ([65, 66] ++ [10]) 2 4).2.2 = 3 := by
  have h1 : linesE ([65, 66] ++ [10]) = ([], 0) := by
    rw [linesE_one (by decide), no_line (by decide) (by decide)]
  unfold importS
  rw [if_neg (by decide), h1, if_pos (by decide)]
theorem imp_no2 : (importS noU ([65, 66, 32, 48] ++ [10]) 2 4).2.2 = 3 := by
  have h1 : linesE ([65, 66, 32, 48] ++ [10]) = ([], 0) := by
    rw [linesE_one (by decide), no_line (by decide) (by decide)]
  unfold importS
  rw [if_neg (by decide), h1, if_pos (by decide)]
theorem imp_no3 : (importS noU [65, 66, 32, 53] 2 4).2.2 = 3 := by
  have h1 : linesE [65, 66, 32, 53] = ([], 0) := by
    unfold linesE
    rw [linesN, if_neg (by decide), cut_no (by decide)]
    rfl
  unfold importS
  rw [if_neg (by decide), h1, if_pos (by decide)]
theorem imp_no4 : (importS noU [] 8 0).2.2 = 1 := by
  unfold importS
  rw [if_pos (by decide)]
abbrev uA : Usr := ([rA], [], (1, 0, 0, 0, 0, 0, 0, 0))
abbrev rB : Rec := (0, 1, 3, [66], 1, 2)
abbrev sB : Str := [48, 32, 49, 32, 51, 32, 66, 32, 49, 32, 50]
theorem rB_line : lineE rB = sB := by
  unfold lineE
  rw [it0, it1, it2, it3]
  rfl
theorem imp_no5 : (importS uA (sB ++ [10]) 2 4).2.2 = 260 := by
  have h1 : linesE (sB ++ [10]) = ([rB], -1) := by
    rw [linesE_one (by decide), ← rB_line, lineV_line (by decide)]
  have hs : Srt plR uA.1 := by unfold Srt; simp
  have h2 : restS uA rB = (uA, 260) := by
    unfold restS
    rw [if_neg (by decide), bsI_lin hs]
    rw [if_neg (by decide), if_pos (by decide)]
  unfold importS
  rw [if_neg (by decide), h1, if_neg (by decide), impL, step_rest (by decide), h2, if_neg (by decide)]
abbrev oA : Ord' := (1, 0, 4, 1, [65, 66], 0, 0)
abbrev uF : Usr := ([], [(1, 1, 4, 1, [65, 66], 0, 0)], (0, 1, 0, 0, 0, 0, 0, 0))
theorem for_A : forgetR noU oA = (uF, 0) := by
  rw [forgetR_eq noU_VU, forgetS_eq (by decide) (by decide) (by decide), bsI_lin List.Pairwise.nil]
  rfl
theorem imp_F : importS uF (sA ++ [10]) 2 4 = (uF, 0, 0) := by
  have h1 : linesE (sA ++ [10]) = ([rA], -1) := by
    rw [linesE_one (by decide), ← rA_line, lineV_line rA_right]
  unfold importS
  rw [if_neg (by decide), h1, if_neg (by decide)]
  rw [impL, step_rest rA_right, rest_meant (by decide), if_pos rfl, impL]
  rfl
theorem exp_A : textX (seenS uA.1) = sA ++ [10] := by
  have : seenS uA.1 = [rA] := rfl
  rw [this]
  unfold textX
  simp only [List.map_cons, List.map_nil, List.flatten_cons, List.flatten_nil, List.append_nil, rA_line]
theorem c_sanity : PC env 8 [] .bool true := by
  refine PC.of_PW (m := 2000) env_ok fn_8 rfl rfl rfl rfl (by kernel_rfl) ?_; intro hx; simp only [Tryz.f8]; simp (config := {maxSteps := 4000000}) only [go_sem, Nat.reduceBEq, ↓reduceIte, ↓reduceDIte, Nat.reduceAdd, Nat.reduceSub, Nat.reduceMul, Nat.reduceLeDiff, ← Bool.decide_and, ← Bool.decide_or, ← decide_not, Int.reduceLT, Int.reduceLE, Int.reduceToNat, Int.reduceNeg, by_nil, by32, by10, litP, appendC, Int.reduceEq, not_true_eq_false, not_false_eq_true, false_implies]
  have p1 : PC env 20 [⟨.str, sA⟩] (.tup RecordT (.int .i64)) (rA, 0) := by
    have := c_Parse sA (by decide); rw [parse_A] at this; exact this
  have p2 : PC env 20 [⟨.str, [48, 32, 49, 32, 51, 32, 65, 66, 32, 49]⟩] (.tup RecordT (.int .i64)) (zR, 3) := by
    have := c_Parse [48, 32, 49, 32, 51, 32, 65, 66, 32, 49] (by decide); rw [parse_B] at this; exact this
  have i1 : PC env 11 [⟨UserT, noU⟩, ⟨.str, [65, 66, 32, 53] ++ [10]⟩, ⟨OwnerT, (2, 4)⟩] ImportedT (uAB, 1, 0) := by
    have := c_imported noU ([65, 66, 32, 53] ++ [10]) (2, 4) (by decide) (by decide); rw [imp_AB] at this; exact this
  have f1 : PC env 16 [⟨UserT, noU⟩, ⟨OrderT, oA⟩] (.tup UserT (.int .i64)) (uF, 0) := by
    have := c_ForgetR noU oA (by decide) (by decide) (fun i h0 h7 => by have := (noU_VU.last i h0 h7).2; omega); rw [for_A] at this; exact this
  have i2 : PC env 11 [⟨UserT, uF⟩, ⟨.str, sA ++ [10]⟩, ⟨OwnerT, (2, 4)⟩] ImportedT (uF, 0, 0) := by
    have := c_imported uF (sA ++ [10]) (2, 4) (by decide) (by decide); rw [imp_F] at this; exact this
  have i3 : PC env 11 [⟨UserT, noU⟩, ⟨.str, sA ++ [10]⟩, ⟨OwnerT, (2, 4)⟩] ImportedT (uA, 1, 0) := by
    have := c_imported noU (sA ++ [10]) (2, 4) (by decide) (by decide); rw [imp_A] at this; exact this
  refine ⟨_, p1, fun _ => ⟨_, p2, fun _ => ⟨_, i1, fun _ => ⟨_, f1, fun _ => ⟨_, i2, fun _ => ⟨_, i3, fun _ => ?_⟩⟩⟩⟩⟩⟩
  refine ⟨_, c_imported noU ([65, 66] ++ [10]) (2, 4) (by decide) (by decide), fun _ => ⟨fun _ => ?_, fun h => absurd imp_no1 h⟩⟩
  refine ⟨_, c_imported noU ([65, 66, 32, 48] ++ [10]) (2, 4) (by decide) (by decide), fun _ => ⟨fun _ => ?_, fun h => absurd imp_no2 h⟩⟩
  refine ⟨_, c_imported noU [65, 66, 32, 53] (2, 4) (by decide) (by decide), fun _ => ⟨fun _ => ?_, fun h => absurd imp_no3 h⟩⟩
  refine ⟨_, c_imported noU [] (8, 0) (by decide) (by decide), fun _ => ⟨fun _ => ?_, fun h => absurd imp_no4 h⟩⟩
  refine ⟨_, c_imported uA (sB ++ [10]) (2, 4) (by decide) (by decide), fun _ => ?_⟩
  have sr : PC env 13 [⟨.sl RecordT, uAB.1⟩, ⟨.sl RecordT, [(2, 1, 4, [65, 66], 0, 5)]⟩] .bool true := by
    have := c_SameRecords uAB.1 [(2, 1, 4, [65, 66], 0, 5)]
    rwa [decide_eq_true rfl] at this
  have ss : PC env 15 [⟨UserT, uF⟩, ⟨UserT, uF⟩] .bool true := by
    have := c_Same uF uF
    rwa [eqP_t rfl] at this
  refine ⟨fun _ => ⟨fun _ => ⟨_, sr, ?_⟩, fun h => absurd rfl h⟩, fun h => absurd rfl h⟩
  simp (config := {maxSteps := 4000000}) only [go_sem, Nat.reduceBEq, ↓reduceIte, ↓reduceDIte, Nat.reduceAdd, Nat.reduceSub, Nat.reduceMul, Nat.reduceLeDiff, ← Bool.decide_and, ← Bool.decide_or, ← decide_not, Int.reduceLT, Int.reduceLE, Int.reduceToNat, Int.reduceNeg, by_nil, by32, by10, litP, appendC, Int.reduceEq, not_true_eq_false, not_false_eq_true, false_implies]
  refine ⟨_, ss, ?_⟩
  simp (config := {maxSteps := 4000000}) only [go_sem, Nat.reduceBEq, ↓reduceIte, ↓reduceDIte, Nat.reduceAdd, Nat.reduceSub, Nat.reduceMul, Nat.reduceLeDiff, ← Bool.decide_and, ← Bool.decide_or, ← decide_not, Int.reduceLT, Int.reduceLE, Int.reduceToNat, Int.reduceNeg, by_nil, by32, by10, litP, appendC, Int.reduceEq, not_true_eq_false, not_false_eq_true, false_implies]
  exact ⟨_, c_Line rA rA_right, fun _ => ⟨fun _ => ⟨fun _ => ⟨1, rfl, fun _ => ⟨_, c_Export uA (by decide) (fun r hr => by rw [List.mem_singleton.1 hr]; exact rA_right), fun _ => ⟨fun _ => imp_no5, fun h => absurd exp_A h⟩⟩, fun h => absurd rfl h⟩, fun h => absurd rfl h⟩, fun h => absurd rA_line h⟩⟩
end Go.Proofs.YtmjnkaabooockaaGreatDoor
namespace Go.Proofs.YtmjnkaabooockaaGreatDoor
open Go.Lib
set_option maxHeartbeats 4000000
set_option maxRecDepth 100000
theorem own_ok {w : Int × Int} (h : (0 ≤ w.1 ∧ w.1 ≤ 255) ∧ (0 ≤ w.2 ∧ w.2 ≤ 255)) : (0 ≤ (ownE w).1 ∧ (ownE w).1 < 8) ∧ (0 ≤ (ownE w).2 ∧ (ownE w).2 ≤ 10000) := by
  unfold ownE
  dsimp only
  omega
theorem textX_len {l : List Rec} (h : ∀ r, r ∈ l → rightR r = true) : (textX l).length ≤ 61 * l.length :=
  flat_len (fun r => lineE r ++ [10]) 61 l (fun y hy => by
    have := line_len (h y hy)
    simp only [List.length_append, List.length_cons, List.length_nil]; omega)
theorem c_Restores (l : List Raw6) (w : Int × Int) : PC env 3 [⟨.sl RawT, l⟩, ⟨.st (.pair (.int .u8) (.int .u8)), w⟩] .bool true := by
  refine PC.of_PW (m := 2000) env_ok fn_3 rfl rfl rfl rfl (by kernel_rfl) ?_; intro hx; simp only [Tryz.f3]; simp only [go_sem, Nat.reduceBEq, ↓reduceIte, ↓reduceDIte, Nat.reduceAdd, Nat.reduceSub, Nat.reduceMul, Nat.reduceLeDiff, ← Bool.decide_and, ← Bool.decide_or, ← decide_not, Int.reduceLT, Int.reduceLE, Int.reduceToNat, Int.reduceNeg, by_nil, by32, by10, litP, appendC, Int.reduceEq, not_true_eq_false, not_false_eq_true, false_implies]
  refine ⟨_, c_sanity, _, c_MadeR l 12 (by decide) (by decide), fun _ => ?_⟩
  have hg := made_good (l := l) hx.1.2 12 (by decide)
  have hw := own_ok (w := w) ⟨u8_of hx.2.1.1, u8_of hx.2.1.2⟩
  clear hx
  change goodU 12 (madeU (l.take (12 : Int).toNat)) at hg
  generalize madeU (l.take (12 : Int).toNat) = u at hg
  have hu := hg.1
  have h12 : u.1.length ≤ 12 := hg.2.1
  have hR : ∀ r, r ∈ u.1 → rightR r = true := fun r h => (hu.rcd r h).1
  have hRs : ∀ r, r ∈ seenS u.1 → rightR r = true := fun r h => hR r (seen_mem.1 h)
  have htl := textX_len hRs
  rw [seen_len] at htl
  obtain ⟨v, hv, hv1, hv2⟩ := restores_none hu hw.1 hw.2
  have hs := restores_self hu hw.1 hw.2
  have k1 : PC env 11 [⟨UserT, noU⟩, ⟨.str, textX (seenS u.1)⟩, ⟨OwnerT, ownE w⟩] ImportedT (v, (u.1.length : Int), 0) := by
    have := c_imported noU (textX (seenS u.1)) (ownE w) (by omega) (by decide)
    rwa [hv] at this
  have k2 : PC env 11 [⟨UserT, u⟩, ⟨.str, textX (seenS u.1)⟩, ⟨OwnerT, ownE w⟩] ImportedT (u, 0, 0) := by
    have := c_imported u (textX (seenS u.1)) (ownE w) (by omega) (by omega)
    rwa [hs] at this
  refine ⟨_, c_Export u h12 hR, fun _ => ?_⟩
  have sr : PC env 13 [⟨.sl RecordT, v.1⟩, ⟨.sl RecordT, u.1⟩] .bool true := by
    have := c_SameRecords v.1 u.1
    rwa [decide_eq_true hv1] at this
  have vr : PC env 14 [⟨UserT, v⟩] .bool true := by
    have := c_ValidR v
    rwa [(validS_iff v).2 hv2] at this
  have ss : PC env 15 [⟨UserT, u⟩, ⟨UserT, u⟩] .bool true := by
    have := c_Same u u
    rwa [eqP_t rfl] at this
  refine ⟨_, c_owner w, fun _ => ⟨_, k1, fun _ => ⟨_, c_owner w, fun _ => ⟨_, k2, fun _ => ?_⟩⟩⟩⟩
  refine ⟨fun _ => ⟨_, sr, ?_⟩, fun h => absurd rfl h⟩
  simp only [go_sem, Nat.reduceBEq, ↓reduceIte, ↓reduceDIte, Nat.reduceAdd, Nat.reduceSub, Nat.reduceMul, Nat.reduceLeDiff, ← Bool.decide_and, ← Bool.decide_or, ← decide_not, Int.reduceLT, Int.reduceLE, Int.reduceToNat, Int.reduceNeg, by_nil, by32, by10, litP, appendC, Int.reduceEq, not_true_eq_false, not_false_eq_true, false_implies]
  refine ⟨_, vr, ?_⟩
  simp only [go_sem, Nat.reduceBEq, ↓reduceIte, ↓reduceDIte, Nat.reduceAdd, Nat.reduceSub, Nat.reduceMul, Nat.reduceLeDiff, ← Bool.decide_and, ← Bool.decide_or, ← decide_not, Int.reduceLT, Int.reduceLE, Int.reduceToNat, Int.reduceNeg, by_nil, by32, by10, litP, appendC, Int.reduceEq, not_true_eq_false, not_false_eq_true, false_implies]
  exact ⟨_, ss, by simp only [go_sem, Nat.reduceBEq, ↓reduceIte, ↓reduceDIte, Nat.reduceAdd, Nat.reduceSub, Nat.reduceMul, Nat.reduceLeDiff, ← Bool.decide_and, ← Bool.decide_or, ← decide_not, Int.reduceLT, Int.reduceLE, Int.reduceToNat, Int.reduceNeg, by_nil, by32, by10, litP, appendC, Int.reduceEq, not_true_eq_false, not_false_eq_true, false_implies]⟩
end Go.Proofs.YtmjnkaabooockaaGreatDoor
