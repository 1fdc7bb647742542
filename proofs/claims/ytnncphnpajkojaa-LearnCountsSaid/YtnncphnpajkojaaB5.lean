/- Plain facts: epochs of made users, and what counts do. Nothing here is trusted; no condition. -/
import Derived.Test.YtnncphnpajkojaaB4
set_option linter.unusedSimpArgs false
set_option linter.unusedVariables false
namespace Go.Proofs.Ytnncphnpajkojaa
set_option maxHeartbeats 1000000

theorem takeW_filter {α : Type} {pl : α → Int × Int} {p : Int × Int} : ∀ {l : List α}, Srt pl l → l.takeWhile (fun x => befB (pl x) p) = l.filter (fun x => befB (pl x) p) ∧ l.dropWhile (fun x => befB (pl x) p) = l.filter (fun x => !(befB (pl x) p))
  | [], _ => ⟨rfl, rfl⟩
  | a :: r, h => by
    obtain ⟨h1, h2⟩ := List.pairwise_cons.1 h
    obtain ⟨i1, i2⟩ := takeW_filter (p := p) (l := r) h2
    cases hq : befB (pl a) p
    · have hno : ∀ b, b ∈ r → befB (pl b) p = false := fun b hb => Bool.eq_false_iff.2 fun hh => by
        rw [befB_trans (h1 b hb) hh] at hq; cases hq
      have e1 : r.filter (fun x => befB (pl x) p) = [] := List.filter_eq_nil_iff.2 fun b hb => by rw [hno b hb]; decide
      have e2 : r.filter (fun x => !(befB (pl x) p)) = r := List.filter_eq_self.2 fun b hb => by rw [hno b hb]; rfl
      simp [List.takeWhile, List.dropWhile, hq, e1, e2]
    · simp [List.takeWhile, List.dropWhile, hq, i1, i2]
theorem ins_eq {α : Type} {pl : α → Int × Int} {l : List α} {x : α} (h : Srt pl l) : insAt l (linI pl l (pl x)) x = l.filter (fun y => befB (pl y) (pl x)) ++ x :: l.filter (fun y => !(befB (pl y) (pl x))) := by
  obtain ⟨h1, h2⟩ := takeW_filter (p := pl x) h
  rw [← h1, ← h2]
  unfold insAt linI
  have e := List.takeWhile_append_dropWhile (p := fun y => befB (pl y) (pl x)) (l := l)
  have et := List.take_left (l₁ := l.takeWhile (fun y => befB (pl y) (pl x))) (l₂ := l.dropWhile (fun y => befB (pl y) (pl x)))
  have ed := List.drop_left (l₁ := l.takeWhile (fun y => befB (pl y) (pl x))) (l₂ := l.dropWhile (fun y => befB (pl y) (pl x)))
  rw [e] at et ed
  rw [et, ed]
theorem srt_filter {α : Type} {pl : α → Int × Int} {l : List α} (h : Srt pl l) (p : α → Bool) : Srt pl (l.filter p) := List.Pairwise.sublist List.filter_sublist h
theorem filter_ins {α : Type} {pl : α → Int × Int} {l : List α} {x : α} (h : Srt pl l) (p : α → Bool) :
    (insAt l (linI pl l (pl x)) x).filter p = if p x then insAt (l.filter p) (linI pl (l.filter p) (pl x)) x else l.filter p := by
  have hc : ∀ q : α → Bool, (l.filter q).filter p = (l.filter p).filter q := fun q => by rw [List.filter_filter, List.filter_filter]; congr 1; funext y; exact Bool.and_comm _ _
  split
  · rename_i hp
    rw [ins_eq h, ins_eq (srt_filter h p), List.filter_append, List.filter_cons, if_pos hp, hc, hc]
  · rename_i hp
    rw [ins_eq h, List.filter_append, List.filter_cons, if_neg hp, hc, hc]
    obtain ⟨h1, h2⟩ := takeW_filter (p := pl x) (srt_filter h p)
    rw [← h1, ← h2]
    exact List.takeWhile_append_dropWhile
/-- All records that were learnt, and the user: the records are those that no order means. -/
structure AllOf (k : Nat) (u : Usr) (all : List Rec) : Prop where
  good : goodU k u
  len : all.length ≤ k
  srt : Srt plR all
  right : ∀ r, r ∈ all → rightR r = true ∧ r.2.1 ≤ getL u.2.2 r.1
  kept : u.1 = keptS all u.2.1
def allS (all : List Rec) (u : Usr) (x : Raw6) : List Rec := if x.1 % 3 = 0 then all else insAt all (linI plR all ((recS x).1, getL u.2.2 (recS x).1 + 1)) ((recS x).1, getL u.2.2 (recS x).1 + 1, (recS x).2.2)
theorem all_learn {k : Nat} {u : Usr} {all : List Rec} {r : Rec} (h : AllOf k u all) (hk : k < 400) (hr : rightR (r.1, 1, r.2.2) = true) :
    AllOf (k + 1) (learnS u r).1 (insAt all (linI plR all (r.1, getL u.2.2 r.1 + 1)) (r.1, getL u.2.2 r.1 + 1, r.2.2)) := by
  obtain ⟨d0, d7⟩ := rightR_dev hr
  have hl := h.good.2.2.2 _ d0 d7
  have h1 := h.good.2.1
  have hR : rightR (r.1, getL u.2.2 r.1 + 1, r.2.2) = true := rightR_at hr (by omega) (by omega)
  have hp : plR (r.1, getL u.2.2 r.1 + 1, r.2.2) = (r.1, getL u.2.2 r.1 + 1) := rfl
  have hnew : (r.1, getL u.2.2 r.1 + 1) ∉ all.map plR := fun hm => by
    obtain ⟨y, hy, he⟩ := List.mem_map.1 hm
    have h1 := (h.right y hy).2
    have e1 : y.1 = r.1 := (congrArg Prod.fst he : (plR y).1 = _)
    have e2 : y.2.1 = getL u.2.2 r.1 + 1 := (congrArg Prod.snd he : (plR y).2 = _)
    rw [e1] at h1
    omega
  have ho : ∀ o, o ∈ u.2.1 → rightO o = true := fun o ho => (h.good.1.ord o ho).1
  refine ⟨(learn_good h.good hk hr).1, ?_, ?_, fun y hy => ?_, ?_⟩
  · rw [len_insAt (linI_le _ _ _)]
    have := h.len
    omega
  · rw [← hp]; exact srt_ins h.srt (by rw [hp]; exact hnew)
  · have hlast : ∀ i : Int, 0 ≤ i → i ≤ 7 → getL u.2.2 i ≤ getL (learnS u r).1.2.2 i := fun i a b => by
      rw [(learn_few h.good.2 hk hr d0 d7).2.1]; exact getL_up _ a b
    rcases mem_insAt.1 hy with rfl | hy
    · refine ⟨hR, ?_⟩
      rw [(learn_few h.good.2 hk hr d0 d7).2.1]
      dsimp only
      rw [get_set _ _ d0 d7]
      exact Int.le_refl _
    · obtain ⟨a, b⟩ := h.right y hy
      obtain ⟨e0, e7⟩ := rec_dev a
      exact ⟨a, Int.le_trans b (hlast _ e0 e7)⟩
  · rw [learnS_eq hr (by omega) (by omega)]
    have hf := filter_ins (x := (r.1, getL u.2.2 r.1 + 1, r.2.2)) h.srt (fun r => !(u.2.1.any (fun o => meansS o r)))
    rw [hp] at hf
    dsimp only
    split
    · rename_i hm
      dsimp only
      unfold keptS
      rw [hf, any_means ho hR, if_neg (by rw [hm]; decide)]
      exact h.kept
    · rename_i hm
      dsimp only
      unfold keptS
      have hm2 := Bool.eq_false_iff.2 hm
      rw [hf, any_means ho hR, if_pos (by rw [hm2]; rfl), bsI_lin h.good.1.sR]
      have hk := h.kept
      unfold keptS at hk
      rw [← hk]
theorem all_forget {k : Nat} {u : Usr} {all : List Rec} {o : Ord'} (h : AllOf k u all) (hk : k < 400) (hr : rightO (o.1, 1, o.2.2) = true) :
    AllOf (k + 1) (forgetS u o).1 all := by
  obtain ⟨d0, d7⟩ := rightO_dev hr
  have hl := h.good.2.2.2 _ d0 d7
  have h1 := h.good.2.2.1
  have hO : rightO (o.1, getL u.2.2 o.1 + 1, o.2.2) = true := rightO_at hr (by omega) (by omega)
  refine ⟨(forget_good h.good hk hr).1, by have := h.len; omega, h.srt, fun y hy => ?_, ?_⟩
  · obtain ⟨a, b⟩ := h.right y hy
    obtain ⟨e0, e7⟩ := rec_dev a
    refine ⟨a, Int.le_trans b ?_⟩
    rw [(forget_few h.good.2 hk hr d0 d7).2.1]; exact getL_up _ e0 e7
  · rw [forgetS_eq hr (by omega) (by omega)]
    dsimp only
    conv => lhs; rw [h.kept]
    unfold keptS
    rw [List.filter_filter]
    refine List.filter_congr fun y hy => ?_
    have hy' := (h.right y hy).1
    rw [← meansS_of hO hy', ← Bool.not_or]
    congr 1
    rw [Bool.eq_iff_iff, Bool.or_eq_true, List.any_eq_true, List.any_eq_true]
    constructor
    · rintro (hh | ⟨z, hz, hh⟩)
      · exact ⟨_, mem_insAt.2 (.inl rfl), hh⟩
      · exact ⟨z, mem_insAt.2 (.inr hz), hh⟩
    · rintro ⟨z, hz, hh⟩
      rcases mem_insAt.1 hz with rfl | hz
      · exact .inl hh
      · exact .inr ⟨z, hz, hh⟩
theorem allOf_step {k : Nat} {u : Usr} {all : List Rec} {x : Raw6} (h : AllOf k u all) (hk : k < 400) (hx : RawT.ok x) : AllOf (k + 1) (stepS u x).1 (allS all u x) := by
  unfold stepS allS
  split
  · exact all_forget h hk (ordS_right hx)
  · exact all_learn h hk (recS_right hx)
theorem allOf_start : AllOf 0 ([], [], (0, 0, 0, 0, 0, 0, 0, 0)) [] := ⟨⟨exU0_VU, exU0_few⟩, Nat.le_refl _, List.Pairwise.nil, fun r h => (List.not_mem_nil h).elim, rfl⟩
end Go.Proofs.Ytnncphnpajkojaa
namespace Go.Proofs.Ytnncphnpajkojaa
set_option maxHeartbeats 1000000
theorem few_mono {k m : Nat} {u : Usr} (h : few k u) (hk : k ≤ m) : few m u := ⟨Nat.le_trans h.1 hk, Nat.le_trans h.2.1 hk, fun i a b => by have := h.2.2 i a b; omega⟩
theorem made_good {l : List Raw6} (hl : ∀ x, x ∈ l → RawT.ok x) (n : Nat) (hn : n ≤ 400) : goodU n (madeU (l.take n)) := by
  by_cases h : n ≤ l.length
  · exact madeU_good hl n h hn
  · have e : l.take n = l.take l.length := by rw [List.take_of_length_le (by omega), List.take_of_length_le (Nat.le_refl _)]
    rw [e]
    obtain ⟨a, b⟩ := madeU_good hl l.length (Nat.le_refl _) (by omega)
    exact ⟨a, few_mono b (by omega)⟩
theorem rightR_nums {r : Rec} (h : rightR r = true) : 0 ≤ r.2.2.1 ∧ r.2.2.1 ≤ 10000 ∧ 0 ≤ r.2.2.2.2.2 ∧ r.2.2.2.2.2 ≤ 1000 := by
  unfold rightR at h
  simp only [Bool.and_eq_true, decide_eq_true_eq] at h
  obtain ⟨⟨_, _, a, b⟩, _, _, c, d⟩ := h
  exact ⟨a, b, by omega, d⟩
theorem tame_of {l : List Rec} (h : ∀ r, r ∈ l → rightR r = true) (hl : l.length ≤ 1000) : tame l := ⟨hl, fun r hr => rightR_nums (h r hr)⟩
theorem VU.tame {u : Usr} (h : VU u) : tame u.1 := tame_of (fun r hr => (h.rcd r hr).1) (by have := h.l1; omega)
theorem count_filter {l : List Rec} {p : Rec → Bool} {w : List UInt8} {e : Int} (h : ∀ r, r ∈ l → r.2.2.2.1 = w → p r = true) : countS (l.filter p) w e = countS l w e := by
  unfold countS
  induction l with
  | nil => rfl
  | cons a r ih =>
    have ih' := ih fun x hx => h x (List.mem_cons_of_mem _ hx)
    rw [List.filter_cons]
    split
    · simp only [List.map_cons, List.sum_cons, ih']
    · rename_i hp
      have hv : valR w e a = 0 := by
        unfold valR
        rw [if_neg fun hw => hp (h a (List.mem_cons_self ..) hw)]
      simp only [List.map_cons, List.sum_cons, ih', hv]
      omega
theorem ordS_means {x : Raw6} {r : Rec} (hx : RawT.ok x) (hr : rightR r = true) (n : Int) : meansS (ordS x) r = meantB ((ordS x).1, n, (ordS x).2.2) r := by
  have h := ordS_right hx
  have e : rightO (ordS x) = true := h
  rw [meansS_of e hr]
  rfl
end Go.Proofs.Ytnncphnpajkojaa
namespace Go.Proofs.Ytnncphnpajkojaa
set_option maxHeartbeats 1000000
def young (u : Usr) : Prop := (∀ r, r ∈ u.1 → r.2.2.1 ≤ 9) ∧ ∀ o, o ∈ u.2.1 → o.2.2.1 ≤ 9
theorem step_young {u : Usr} {x : Raw6} (h : young u) : young (stepS u x).1 := by
  have ha := Int.emod_lt_of_pos x.2.2.1 (show (0 : Int) < 10 by decide)
  unfold stepS
  split
  · unfold forgetS
    split
    · split
      · exact h
      · refine ⟨fun r hr => h.1 r (List.mem_filter.1 hr).1, fun o ho => ?_⟩
        rcases mem_insAt.1 ho with rfl | ho
        · show x.2.2.1 % 10 ≤ 9; omega
        · exact h.2 o ho
    · exact h
  · unfold learnS
    split
    · split
      · exact h
      · dsimp only
        split
        · exact h
        · refine ⟨fun r hr => ?_, h.2⟩
          rcases mem_insAt.1 hr with rfl | hr
          · show x.2.2.1 % 10 ≤ 9; omega
          · exact h.1 r hr
    · exact h
theorem made_young {l : List Raw6} (n : Nat) : young (madeU (l.take n)) := by
  unfold madeU
  have : ∀ (l : List Raw6) (u : Usr), young u → young (l.foldl (fun u x => (stepS u x).1) u) := by
    intro l
    induction l with
    | nil => intro u h; exact h
    | cons a r ih => intro u h; exact ih _ (step_young h)
  exact this _ _ ⟨fun r h => (List.not_mem_nil h).elim, fun o h => (List.not_mem_nil h).elim⟩
theorem aftD_down {v k : Int} (h0 : 0 ≤ v) (hk : 0 ≤ k) : aftD v (k + 1) ≤ aftD v k := by
  unfold aftD
  by_cases h : k + 1 < 64
  · rw [if_neg (by omega), if_neg (by omega)]
    have e : (k + 1).toNat = k.toNat + 1 := by omega
    rw [e, ← half_step]
    have hn : 0 ≤ v / 2 ^ k.toNat := Int.ediv_nonneg h0 (Int.le_of_lt (Int.pow_pos (by decide)))
    omega
  · rw [if_pos (by omega)]
    split
    · exact Int.le_refl _
    · exact Int.ediv_nonneg h0 (Int.le_of_lt (Int.pow_pos (by decide)))
theorem cntR_down {r : Rec} {e : Int} (h0 : 0 ≤ r.2.2.2.2.2) (he : e + 1 ≤ 10000) : cntR r (e + 1) ≤ cntR r e := by
  by_cases h : r.2.2.1 < e
  · unfold cntR atD
    rw [if_pos h, if_pos (by omega), if_neg (by omega), if_neg (by omega)]
    dsimp only
    rw [show e + 1 - r.2.2.1 = (e - r.2.2.1) + 1 by omega]
    exact aftD_down h0 (by omega)
  · have := (cntR_le (e := e + 1) h0).2
    have e2 : cntR r e = r.2.2.2.2.2 := by unfold cntR; rw [if_neg h]
    omega
theorem count_down {l : List Rec} {w : List UInt8} {e : Int} (h : ∀ r, r ∈ l → 0 ≤ r.2.2.2.2.2) (he : e + 1 ≤ 10000) : countS l w (e + 1) ≤ countS l w e := by
  unfold countS
  induction l with
  | nil => exact Int.le_refl _
  | cons a r ih =>
    simp only [List.map_cons, List.sum_cons]
    have h1 := ih fun x hx => h x (List.mem_cons_of_mem _ hx)
    have h2 : valR w (e + 1) a ≤ valR w e a := by
      unfold valR
      split
      · exact cntR_down (h a (List.mem_cons_self ..)) he
      · exact Int.le_refl _
    omega
theorem count_app (a b : List Rec) (w : List UInt8) (e : Int) : countS (a ++ b) w e = countS a w e + countS b w e := by
  unfold countS
  rw [List.map_append, List.sum_append]
theorem count_ins {l : List Rec} {i : Nat} {x : Rec} {w : List UInt8} {e : Int} : countS (insAt l i x) w e = countS l w e + valR w e x := by
  unfold insAt
  conv => rhs; rw [← List.take_append_drop i l]
  rw [count_app, count_app]
  have : countS (x :: l.drop i) w e = valR w e x + countS (l.drop i) w e := by unfold countS; simp only [List.map_cons, List.sum_cons]
  omega
theorem count_none {l : List Rec} {w : List UInt8} {e : Int} (h : ∀ r, r ∈ l → r.2.2.2.1 ≠ w) : countS l w e = 0 := by
  unfold countS
  induction l with
  | nil => rfl
  | cons a r ih =>
    simp only [List.map_cons, List.sum_cons]
    rw [ih fun x hx => h x (List.mem_cons_of_mem _ hx)]
    unfold valR
    rw [if_neg (h a (List.mem_cons_self ..))]
    rfl
theorem count_learn {u : Usr} {r : Rec} (hg : goodU 12 u) (hy : young u) (hr : rightR (r.1, 1, r.2.2) = true) (he : 10 ≤ r.2.2.1) :
    countS (learnS u r).1.1 r.2.2.2.1 r.2.2.1 = countS u.1 r.2.2.2.1 r.2.2.1 + r.2.2.2.2.2 := by
  obtain ⟨hv, hf⟩ := hg
  obtain ⟨d0, d7⟩ := rightR_dev hr
  have hl := hf.2.2 _ d0 d7
  have h1 := hf.1
  rw [learnS_eq hr (by omega) (by omega)]
  have hno : u.2.1.any (fun o => meantB o (r.1, getL u.2.2 r.1 + 1, r.2.2)) = false := List.any_eq_false.2 fun o ho => by
    have := hy.2 o ho
    unfold meantB
    rw [decide_eq_false (by show ¬ r.2.2.1 ≤ o.2.2.1; omega)]
    simp
  rw [hno, if_neg (by decide)]
  dsimp only
  rw [count_ins]
  have : valR r.2.2.2.1 r.2.2.1 (r.1, getL u.2.2 r.1 + 1, r.2.2) = r.2.2.2.2.2 := by
    unfold valR cntR
    rw [if_pos rfl, if_neg (by show ¬ r.2.2.1 < r.2.2.1; omega)]
  rw [this]
theorem right_word {w : List UInt8} (hw : wordB w = true) : rightO (0, 1, 30, 1, w, 0, 0) = true := by
  unfold rightO rk rk1
  simp [hw]
theorem count_forgot {u : Usr} {w : List UInt8} (hg : goodU 12 u) (hy : young u) (hw : wordB w = true) (ep : Int) : countS (forgetS u (0, 0, 30, 1, w, 0, 0)).1.1 w ep = 0 := by
  obtain ⟨hv, hf⟩ := hg
  have hl := hf.2.2 0 (by decide) (by decide)
  have h2 := hf.2.1
  rw [forgetS_eq (o := (0, 0, 30, 1, w, 0, 0)) (right_word hw) (by omega) (by show getL u.2.2 0 < 1000000; omega)]
  refine count_none fun r hr hww => ?_
  obtain ⟨hr1, hr2⟩ := List.mem_filter.1 hr
  have := hy.1 r hr1
  have hm : meantB (0, getL u.2.2 0 + 1, 30, 1, w, 0, 0) r = true := by
    unfold meantB meansK
    simp [hww]
    omega
  rw [hm] at hr2
  cases hr2
end Go.Proofs.Ytnncphnpajkojaa
