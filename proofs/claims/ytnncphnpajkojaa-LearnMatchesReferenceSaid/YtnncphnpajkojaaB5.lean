/- Contract: Seen of a valid user's records, however many. Nothing here is trusted; no condition. -/
import Derived.Test.YtnncphnpajkojaaB4
import Derived.Shelf.SlSortCmp.WholeK
set_option linter.unusedSimpArgs false
set_option linter.unusedVariables false
namespace Go.Proofs.Ytnncphnpajkojaa
set_option maxHeartbeats 1000000

theorem takeW_filter {α : Type} {pl : α → Int × Int} {p : Int × Int} : ∀ {l : List α}, Srt pl l → l.takeWhile (fun x => befB (pl x) p) = l.filter (fun x => befB (pl x) p) ∧ l.dropWhile (fun x => befB (pl x) p) = l.filter (fun x => !(befB (pl x) p))
  | [], _ => ⟨rfl, rfl⟩
  | a :: r, h => by
    obtain ⟨h1, h2⟩ := List.pairwise_cons.1 h
    obtain ⟨i1, i2⟩ := takeW_filter (p := p) (l := r) h2
    cases hq : befB (pl a) p
    · have hno : ∀ b, b ∈ r → befB (pl b) p = false := fun b hb => Bool.eq_false_iff.2 fun hh => by
        rw [befB_trans (h1 b hb) hh] at hq; cases hq
      have e1 : r.filter (fun x => befB (pl x) p) = [] := List.filter_eq_nil_iff.2 fun b hb => by rw [hno b hb]; decide
      have e2 : r.filter (fun x => !(befB (pl x) p)) = r := List.filter_eq_self.2 fun b hb => by rw [hno b hb]; rfl
      simp [List.takeWhile, List.dropWhile, hq, e1, e2]
    · simp [List.takeWhile, List.dropWhile, hq, i1, i2]
theorem ins_eq {α : Type} {pl : α → Int × Int} {l : List α} {x : α} (h : Srt pl l) : insAt l (linI pl l (pl x)) x = l.filter (fun y => befB (pl y) (pl x)) ++ x :: l.filter (fun y => !(befB (pl y) (pl x))) := by
  obtain ⟨h1, h2⟩ := takeW_filter (p := pl x) h
  rw [← h1, ← h2]
  unfold insAt linI
  have e := List.takeWhile_append_dropWhile (p := fun y => befB (pl y) (pl x)) (l := l)
  have et := List.take_left (l₁ := l.takeWhile (fun y => befB (pl y) (pl x))) (l₂ := l.dropWhile (fun y => befB (pl y) (pl x)))
  have ed := List.drop_left (l₁ := l.takeWhile (fun y => befB (pl y) (pl x))) (l₂ := l.dropWhile (fun y => befB (pl y) (pl x)))
  rw [e] at et ed
  rw [et, ed]
theorem srt_filter {α : Type} {pl : α → Int × Int} {l : List α} (h : Srt pl l) (p : α → Bool) : Srt pl (l.filter p) := List.Pairwise.sublist List.filter_sublist h
theorem filter_ins {α : Type} {pl : α → Int × Int} {l : List α} {x : α} (h : Srt pl l) (p : α → Bool) :
    (insAt l (linI pl l (pl x)) x).filter p = if p x then insAt (l.filter p) (linI pl (l.filter p) (pl x)) x else l.filter p := by
  have hc : ∀ q : α → Bool, (l.filter q).filter p = (l.filter p).filter q := fun q => by rw [List.filter_filter, List.filter_filter]; congr 1; funext y; exact Bool.and_comm _ _
  split
  · rename_i hp
    rw [ins_eq h, ins_eq (srt_filter h p), List.filter_append, List.filter_cons, if_pos hp, hc, hc]
  · rename_i hp
    rw [ins_eq h, List.filter_append, List.filter_cons, if_neg hp, hc, hc]
    obtain ⟨h1, h2⟩ := takeW_filter (p := pl x) (srt_filter h p)
    rw [← h1, ← h2]
    exact List.takeWhile_append_dropWhile
/-- All records that were learnt, and the user: the records are those that no order means. -/
structure AllOf (k : Nat) (u : Usr) (all : List Rec) : Prop where
  good : goodU k u
  len : all.length ≤ k
  srt : Srt plR all
  right : ∀ r, r ∈ all → rightR r = true ∧ r.2.1 ≤ getL u.2.2 r.1
  kept : u.1 = keptS all u.2.1
def allS (all : List Rec) (u : Usr) (x : Raw6) : List Rec := if x.1 % 3 = 0 then all else insAt all (linI plR all ((recS x).1, getL u.2.2 (recS x).1 + 1)) ((recS x).1, getL u.2.2 (recS x).1 + 1, (recS x).2.2)
theorem all_learn {k : Nat} {u : Usr} {all : List Rec} {r : Rec} (h : AllOf k u all) (hk : k < 400) (hr : rightR (r.1, 1, r.2.2) = true) :
    AllOf (k + 1) (learnS u r).1 (insAt all (linI plR all (r.1, getL u.2.2 r.1 + 1)) (r.1, getL u.2.2 r.1 + 1, r.2.2)) := by
  obtain ⟨d0, d7⟩ := rightR_dev hr
  have hl := h.good.2.2.2 _ d0 d7
  have h1 := h.good.2.1
  have hR : rightR (r.1, getL u.2.2 r.1 + 1, r.2.2) = true := rightR_at hr (by omega) (by omega)
  have hp : plR (r.1, getL u.2.2 r.1 + 1, r.2.2) = (r.1, getL u.2.2 r.1 + 1) := rfl
  have hnew : (r.1, getL u.2.2 r.1 + 1) ∉ all.map plR := fun hm => by
    obtain ⟨y, hy, he⟩ := List.mem_map.1 hm
    have h1 := (h.right y hy).2
    have e1 : y.1 = r.1 := (congrArg Prod.fst he : (plR y).1 = _)
    have e2 : y.2.1 = getL u.2.2 r.1 + 1 := (congrArg Prod.snd he : (plR y).2 = _)
    rw [e1] at h1
    omega
  have ho : ∀ o, o ∈ u.2.1 → rightO o = true := fun o ho => (h.good.1.ord o ho).1
  refine ⟨(learn_good h.good hk hr).1, ?_, ?_, fun y hy => ?_, ?_⟩
  · rw [len_insAt (linI_le _ _ _)]
    have := h.len
    omega
  · rw [← hp]; exact srt_ins h.srt (by rw [hp]; exact hnew)
  · have hlast : ∀ i : Int, 0 ≤ i → i ≤ 7 → getL u.2.2 i ≤ getL (learnS u r).1.2.2 i := fun i a b => by
      rw [(learn_few h.good.2 hk hr d0 d7).2.1]; exact getL_up _ a b
    rcases mem_insAt.1 hy with rfl | hy
    · refine ⟨hR, ?_⟩
      rw [(learn_few h.good.2 hk hr d0 d7).2.1]
      dsimp only
      rw [get_set _ _ d0 d7]
      exact Int.le_refl _
    · obtain ⟨a, b⟩ := h.right y hy
      obtain ⟨e0, e7⟩ := rec_dev a
      exact ⟨a, Int.le_trans b (hlast _ e0 e7)⟩
  · rw [learnS_eq hr (by omega) (by omega)]
    have hf := filter_ins (x := (r.1, getL u.2.2 r.1 + 1, r.2.2)) h.srt (fun r => !(u.2.1.any (fun o => meansS o r)))
    rw [hp] at hf
    dsimp only
    split
    · rename_i hm
      dsimp only
      unfold keptS
      rw [hf, any_means ho hR, if_neg (by rw [hm]; decide)]
      exact h.kept
    · rename_i hm
      dsimp only
      unfold keptS
      have hm2 := Bool.eq_false_iff.2 hm
      rw [hf, any_means ho hR, if_pos (by rw [hm2]; rfl), bsI_lin h.good.1.sR]
      have hk := h.kept
      unfold keptS at hk
      rw [← hk]
theorem all_forget {k : Nat} {u : Usr} {all : List Rec} {o : Ord'} (h : AllOf k u all) (hk : k < 400) (hr : rightO (o.1, 1, o.2.2) = true) :
    AllOf (k + 1) (forgetS u o).1 all := by
  obtain ⟨d0, d7⟩ := rightO_dev hr
  have hl := h.good.2.2.2 _ d0 d7
  have h1 := h.good.2.2.1
  have hO : rightO (o.1, getL u.2.2 o.1 + 1, o.2.2) = true := rightO_at hr (by omega) (by omega)
  refine ⟨(forget_good h.good hk hr).1, by have := h.len; omega, h.srt, fun y hy => ?_, ?_⟩
  · obtain ⟨a, b⟩ := h.right y hy
    obtain ⟨e0, e7⟩ := rec_dev a
    refine ⟨a, Int.le_trans b ?_⟩
    rw [(forget_few h.good.2 hk hr d0 d7).2.1]; exact getL_up _ e0 e7
  · rw [forgetS_eq hr (by omega) (by omega)]
    dsimp only
    conv => lhs; rw [h.kept]
    unfold keptS
    rw [List.filter_filter]
    refine List.filter_congr fun y hy => ?_
    have hy' := (h.right y hy).1
    rw [← meansS_of hO hy', ← Bool.not_or]
    congr 1
    rw [Bool.eq_iff_iff, Bool.or_eq_true, List.any_eq_true, List.any_eq_true]
    constructor
    · rintro (hh | ⟨z, hz, hh⟩)
      · exact ⟨_, mem_insAt.2 (.inl rfl), hh⟩
      · exact ⟨z, mem_insAt.2 (.inr hz), hh⟩
    · rintro ⟨z, hz, hh⟩
      rcases mem_insAt.1 hz with rfl | hz
      · exact .inl hh
      · exact .inr ⟨z, hz, hh⟩
theorem allOf_step {k : Nat} {u : Usr} {all : List Rec} {x : Raw6} (h : AllOf k u all) (hk : k < 400) (hx : RawT.ok x) : AllOf (k + 1) (stepS u x).1 (allS all u x) := by
  unfold stepS allS
  split
  · exact all_forget h hk (ordS_right hx)
  · exact all_learn h hk (recS_right hx)
theorem allOf_start : AllOf 0 ([], [], (0, 0, 0, 0, 0, 0, 0, 0)) [] := ⟨⟨exU0_VU, exU0_few⟩, Nat.le_refl _, List.Pairwise.nil, fun r h => (List.not_mem_nil h).elim, rfl⟩
end Go.Proofs.Ytnncphnpajkojaa
namespace Go.Proofs.Ytnncphnpajkojaa
set_option maxHeartbeats 1000000
theorem few_mono {k m : Nat} {u : Usr} (h : few k u) (hk : k ≤ m) : few m u := ⟨Nat.le_trans h.1 hk, Nat.le_trans h.2.1 hk, fun i a b => by have := h.2.2 i a b; omega⟩
theorem made_good {l : List Raw6} (hl : ∀ x, x ∈ l → RawT.ok x) (n : Nat) (hn : n ≤ 400) : goodU n (madeU (l.take n)) := by
  by_cases h : n ≤ l.length
  · exact madeU_good hl n h hn
  · have e : l.take n = l.take l.length := by rw [List.take_of_length_le (by omega), List.take_of_length_le (Nat.le_refl _)]
    rw [e]
    obtain ⟨a, b⟩ := madeU_good hl l.length (Nat.le_refl _) (by omega)
    exact ⟨a, few_mono b (by omega)⟩
theorem rightR_nums {r : Rec} (h : rightR r = true) : 0 ≤ r.2.2.1 ∧ r.2.2.1 ≤ 10000 ∧ 0 ≤ r.2.2.2.2.2 ∧ r.2.2.2.2.2 ≤ 1000 := by
  unfold rightR at h
  simp only [Bool.and_eq_true, decide_eq_true_eq] at h
  obtain ⟨⟨_, _, a, b⟩, _, _, c, d⟩ := h
  exact ⟨a, b, by omega, d⟩
theorem tame_of {l : List Rec} (h : ∀ r, r ∈ l → rightR r = true) (hl : l.length ≤ 1000) : tame l := ⟨hl, fun r hr => rightR_nums (h r hr)⟩
theorem VU.tame {u : Usr} (h : VU u) : tame u.1 := tame_of (fun r hr => (h.rcd r hr).1) (by have := h.l1; omega)
theorem count_filter {l : List Rec} {p : Rec → Bool} {w : List UInt8} {e : Int} (h : ∀ r, r ∈ l → r.2.2.2.1 = w → p r = true) : countS (l.filter p) w e = countS l w e := by
  unfold countS
  induction l with
  | nil => rfl
  | cons a r ih =>
    have ih' := ih fun x hx => h x (List.mem_cons_of_mem _ hx)
    rw [List.filter_cons]
    split
    · simp only [List.map_cons, List.sum_cons, ih']
    · rename_i hp
      have hv : valR w e a = 0 := by
        unfold valR
        rw [if_neg fun hw => hp (h a (List.mem_cons_self ..) hw)]
      simp only [List.map_cons, List.sum_cons, ih', hv]
      omega
theorem ordS_means {x : Raw6} {r : Rec} (hx : RawT.ok x) (hr : rightR r = true) (n : Int) : meansS (ordS x) r = meantB ((ordS x).1, n, (ordS x).2.2) r := by
  have h := ordS_right hx
  have e : rightO (ordS x) = true := h
  rw [meansS_of e hr]
  rfl
end Go.Proofs.Ytnncphnpajkojaa
namespace Go.Proofs.Ytnncphnpajkojaa
set_option maxHeartbeats 1000000
def young (u : Usr) : Prop := (∀ r, r ∈ u.1 → r.2.2.1 ≤ 9) ∧ ∀ o, o ∈ u.2.1 → o.2.2.1 ≤ 9
theorem step_young {u : Usr} {x : Raw6} (h : young u) : young (stepS u x).1 := by
  have ha := Int.emod_lt_of_pos x.2.2.1 (show (0 : Int) < 10 by decide)
  unfold stepS
  split
  · unfold forgetS
    split
    · split
      · exact h
      · refine ⟨fun r hr => h.1 r (List.mem_filter.1 hr).1, fun o ho => ?_⟩
        rcases mem_insAt.1 ho with rfl | ho
        · show x.2.2.1 % 10 ≤ 9; omega
        · exact h.2 o ho
    · exact h
  · unfold learnS
    split
    · split
      · exact h
      · dsimp only
        split
        · exact h
        · refine ⟨fun r hr => ?_, h.2⟩
          rcases mem_insAt.1 hr with rfl | hr
          · show x.2.2.1 % 10 ≤ 9; omega
          · exact h.1 r hr
    · exact h
theorem made_young {l : List Raw6} (n : Nat) : young (madeU (l.take n)) := by
  unfold madeU
  have : ∀ (l : List Raw6) (u : Usr), young u → young (l.foldl (fun u x => (stepS u x).1) u) := by
    intro l
    induction l with
    | nil => intro u h; exact h
    | cons a r ih => intro u h; exact ih _ (step_young h)
  exact this _ _ ⟨fun r h => (List.not_mem_nil h).elim, fun o h => (List.not_mem_nil h).elim⟩
theorem aftD_down {v k : Int} (h0 : 0 ≤ v) (hk : 0 ≤ k) : aftD v (k + 1) ≤ aftD v k := by
  unfold aftD
  by_cases h : k + 1 < 64
  · rw [if_neg (by omega), if_neg (by omega)]
    have e : (k + 1).toNat = k.toNat + 1 := by omega
    rw [e, ← half_step]
    have hn : 0 ≤ v / 2 ^ k.toNat := Int.ediv_nonneg h0 (Int.le_of_lt (Int.pow_pos (by decide)))
    omega
  · rw [if_pos (by omega)]
    split
    · exact Int.le_refl _
    · exact Int.ediv_nonneg h0 (Int.le_of_lt (Int.pow_pos (by decide)))
theorem cntR_down {r : Rec} {e : Int} (h0 : 0 ≤ r.2.2.2.2.2) (he : e + 1 ≤ 10000) : cntR r (e + 1) ≤ cntR r e := by
  by_cases h : r.2.2.1 < e
  · unfold cntR atD
    rw [if_pos h, if_pos (by omega), if_neg (by omega), if_neg (by omega)]
    dsimp only
    rw [show e + 1 - r.2.2.1 = (e - r.2.2.1) + 1 by omega]
    exact aftD_down h0 (by omega)
  · have := (cntR_le (e := e + 1) h0).2
    have e2 : cntR r e = r.2.2.2.2.2 := by unfold cntR; rw [if_neg h]
    omega
theorem count_down {l : List Rec} {w : List UInt8} {e : Int} (h : ∀ r, r ∈ l → 0 ≤ r.2.2.2.2.2) (he : e + 1 ≤ 10000) : countS l w (e + 1) ≤ countS l w e := by
  unfold countS
  induction l with
  | nil => exact Int.le_refl _
  | cons a r ih =>
    simp only [List.map_cons, List.sum_cons]
    have h1 := ih fun x hx => h x (List.mem_cons_of_mem _ hx)
    have h2 : valR w (e + 1) a ≤ valR w e a := by
      unfold valR
      split
      · exact cntR_down (h a (List.mem_cons_self ..)) he
      · exact Int.le_refl _
    omega
theorem count_app (a b : List Rec) (w : List UInt8) (e : Int) : countS (a ++ b) w e = countS a w e + countS b w e := by
  unfold countS
  rw [List.map_append, List.sum_append]
theorem count_ins {l : List Rec} {i : Nat} {x : Rec} {w : List UInt8} {e : Int} : countS (insAt l i x) w e = countS l w e + valR w e x := by
  unfold insAt
  conv => rhs; rw [← List.take_append_drop i l]
  rw [count_app, count_app]
  have : countS (x :: l.drop i) w e = valR w e x + countS (l.drop i) w e := by unfold countS; simp only [List.map_cons, List.sum_cons]
  omega
theorem count_none {l : List Rec} {w : List UInt8} {e : Int} (h : ∀ r, r ∈ l → r.2.2.2.1 ≠ w) : countS l w e = 0 := by
  unfold countS
  induction l with
  | nil => rfl
  | cons a r ih =>
    simp only [List.map_cons, List.sum_cons]
    rw [ih fun x hx => h x (List.mem_cons_of_mem _ hx)]
    unfold valR
    rw [if_neg (h a (List.mem_cons_self ..))]
    rfl
theorem count_learn {u : Usr} {r : Rec} (hg : goodU 12 u) (hy : young u) (hr : rightR (r.1, 1, r.2.2) = true) (he : 10 ≤ r.2.2.1) :
    countS (learnS u r).1.1 r.2.2.2.1 r.2.2.1 = countS u.1 r.2.2.2.1 r.2.2.1 + r.2.2.2.2.2 := by
  obtain ⟨hv, hf⟩ := hg
  obtain ⟨d0, d7⟩ := rightR_dev hr
  have hl := hf.2.2 _ d0 d7
  have h1 := hf.1
  rw [learnS_eq hr (by omega) (by omega)]
  have hno : u.2.1.any (fun o => meantB o (r.1, getL u.2.2 r.1 + 1, r.2.2)) = false := List.any_eq_false.2 fun o ho => by
    have := hy.2 o ho
    unfold meantB
    rw [decide_eq_false (by show ¬ r.2.2.1 ≤ o.2.2.1; omega)]
    simp
  rw [hno, if_neg (by decide)]
  dsimp only
  rw [count_ins]
  have : valR r.2.2.2.1 r.2.2.1 (r.1, getL u.2.2 r.1 + 1, r.2.2) = r.2.2.2.2.2 := by
    unfold valR cntR
    rw [if_pos rfl, if_neg (by show ¬ r.2.2.1 < r.2.2.1; omega)]
  rw [this]
theorem right_word {w : List UInt8} (hw : wordB w = true) : rightO (0, 1, 30, 1, w, 0, 0) = true := by
  unfold rightO rk rk1
  simp [hw]
theorem count_forgot {u : Usr} {w : List UInt8} (hg : goodU 12 u) (hy : young u) (hw : wordB w = true) (ep : Int) : countS (forgetS u (0, 0, 30, 1, w, 0, 0)).1.1 w ep = 0 := by
  obtain ⟨hv, hf⟩ := hg
  have hl := hf.2.2 0 (by decide) (by decide)
  have h2 := hf.2.1
  rw [forgetS_eq (o := (0, 0, 30, 1, w, 0, 0)) (right_word hw) (by omega) (by show getL u.2.2 0 < 1000000; omega)]
  refine count_none fun r hr hww => ?_
  obtain ⟨hr1, hr2⟩ := List.mem_filter.1 hr
  have := hy.1 r hr1
  have hm : meantB (0, getL u.2.2 0 + 1, 30, 1, w, 0, 0) r = true := by
    unfold meantB meansK
    simp [hww]
    omega
  rw [hm] at hr2
  cases hr2
end Go.Proofs.Ytnncphnpajkojaa
namespace Go.Proofs.Ytnncphnpajkojaa
set_option maxHeartbeats 1000000
theorem srt_ext {α : Type} {pl : α → Int × Int} : ∀ {l m : List α}, Srt pl l → Srt pl m → (∀ x, x ∈ l ↔ x ∈ m) → l = m
  | [], [], _, _, _ => rfl
  | [], b :: r, _, _, h => ((List.not_mem_nil (a := b)) ((h b).2 (List.mem_cons_self ..))).elim
  | a :: r, [], _, _, h => ((List.not_mem_nil (a := a)) ((h a).1 (List.mem_cons_self ..))).elim
  | a :: r, b :: s, h1, h2, h => by
    obtain ⟨p1, q1⟩ := List.pairwise_cons.1 h1
    obtain ⟨p2, q2⟩ := List.pairwise_cons.1 h2
    have e : a = b := by
      rcases List.mem_cons.1 ((h a).1 (List.mem_cons_self ..)) with e | ha
      · exact e
      · rcases List.mem_cons.1 ((h b).2 (List.mem_cons_self ..)) with e | hb
        · exact e.symm
        · have := befB_trans (p1 b hb) (p2 a ha)
          rw [befB_irr] at this; cases this
    subst e
    congr 1
    refine srt_ext q1 q2 fun x => ⟨fun hx => ?_, fun hx => ?_⟩
    · rcases List.mem_cons.1 ((h x).1 (List.mem_cons_of_mem _ hx)) with rfl | hx'
      · have := p1 x hx; rw [befB_irr] at this; cases this
      · exact hx'
    · rcases List.mem_cons.1 ((h x).2 (List.mem_cons_of_mem _ hx)) with rfl | hx'
      · have := p2 x hx; rw [befB_irr] at this; cases this
      · exact hx'
def devS (x : Raw6) : Int := x.2.1 % 3
/-- What a step makes of the orders, the records learnt, and the numbers. -/
def newO (u : Usr) (x : Raw6) : List Ord' := if x.1 % 3 = 0 then [((ordS x).1, getL u.2.2 (devS x) + 1, (ordS x).2.2)] else []
def newR (u : Usr) (x : Raw6) : List Rec := if x.1 % 3 = 0 then [] else [((recS x).1, getL u.2.2 (devS x) + 1, (recS x).2.2)]
theorem devS_range {x : Raw6} : 0 ≤ devS x ∧ devS x ≤ 7 := by
  have h1 := Int.emod_nonneg x.2.1 (show (3 : Int) ≠ 0 by decide)
  have h2 := Int.emod_lt_of_pos x.2.1 (show (0 : Int) < 3 by decide)
  unfold devS
  omega
theorem step_last {k : Nat} {u : Usr} {x : Raw6} (hg : goodU k u) (hk : k < 400) (hx : RawT.ok x) : (stepS u x).1.2.2 = setL u.2.2 (devS x) (getL u.2.2 (devS x) + 1) := by
  unfold stepS
  split
  · obtain ⟨d0, d7⟩ := ordS_dev hx
    exact (forget_few hg.2 hk (ordS_right hx) d0 d7).2.1
  · obtain ⟨d0, d7⟩ := recS_dev hx
    exact (learn_few hg.2 hk (recS_right hx) d0 d7).2.1
theorem step_ords {k : Nat} {u : Usr} {x : Raw6} (hg : goodU k u) (hk : k < 400) (hx : RawT.ok x) (o : Ord') : o ∈ (stepS u x).1.2.1 ↔ o ∈ newO u x ∨ o ∈ u.2.1 := by
  have hl := hg.2.2.2 _ devS_range.1 (devS_range (x := x)).2
  have h1 := hg.2.1
  have h2 := hg.2.2.1
  unfold stepS newO
  split
  · rw [forgetS_eq (ordS_right hx) (by omega) (by show getL u.2.2 (devS x) < 1000000; omega)]
    rw [mem_insAt, List.mem_singleton]
    rfl
  · rw [learnS_eq (recS_right hx) (by omega) (by show getL u.2.2 (devS x) < 1000000; omega)]
    dsimp only
    split <;> simp
theorem all_mem {u : Usr} {all : List Rec} {x : Raw6} (r : Rec) : r ∈ allS all u x ↔ r ∈ newR u x ∨ r ∈ all := by
  unfold allS newR
  split
  · simp
  · rw [mem_insAt, List.mem_singleton]
    rfl
theorem setL_comm (L : L8) {d e : Int} (y z : Int) (h : d ≠ e) : setL (setL L d y) e z = setL (setL L e z) d y := by
  have key : ∀ (i : Int) (a : Int), (if e = i then z else if d = i then y else a) = (if d = i then y else if e = i then z else a) := fun i a => by
    by_cases h1 : e = i <;> by_cases h2 : d = i <;> simp [h1, h2]
    exact absurd (h2.trans h1.symm) h
  unfold setL
  simp only [key]
/-- Two steps of different devices. -/
theorem step_comm {k : Nat} {u : Usr} {all : List Rec} {x y : Raw6} (h : AllOf k u all) (hk : k + 1 < 400) (hx : RawT.ok x) (hy : RawT.ok y) (hd : devS x ≠ devS y) :
    (stepS (stepS u x).1 y).1 = (stepS (stepS u y).1 x).1 := by
  have ax := allOf_step h (by omega) hx
  have ay := allOf_step h (by omega) hy
  have axy := allOf_step ax (by omega) hy
  have ayx := allOf_step ay (by omega) hx
  have lx := step_last h.good (by omega) hx
  have ly := step_last h.good (by omega) hy
  have gx : getL (stepS u x).1.2.2 (devS y) = getL u.2.2 (devS y) := by rw [lx]; exact get_setL_ne _ _ devS_range.1 devS_range.2 hd.symm
  have gy : getL (stepS u y).1.2.2 (devS x) = getL u.2.2 (devS x) := by rw [ly]; exact get_setL_ne _ _ devS_range.1 devS_range.2 hd
  have nOx : newO (stepS u y).1 x = newO u x := by unfold newO; rw [gy]
  have nOy : newO (stepS u x).1 y = newO u y := by unfold newO; rw [gx]
  have nRx : newR (stepS u y).1 x = newR u x := by unfold newR; rw [gy]
  have nRy : newR (stepS u x).1 y = newR u y := by unfold newR; rw [gx]
  have hL : (stepS (stepS u x).1 y).1.2.2 = (stepS (stepS u y).1 x).1.2.2 := by
    rw [step_last ax.good (by omega) hy, step_last ay.good (by omega) hx, gx, gy, lx, ly]
    exact setL_comm _ _ _ hd
  have hO : (stepS (stepS u x).1 y).1.2.1 = (stepS (stepS u y).1 x).1.2.1 := srt_ext axy.good.1.sO ayx.good.1.sO fun o => by
    rw [step_ords ax.good (by omega) hy, step_ords ay.good (by omega) hx, step_ords h.good (by omega) hx, step_ords h.good (by omega) hy, nOx, nOy]
    constructor
    · rintro (a | a | a)
      · exact .inr (.inl a)
      · exact .inl a
      · exact .inr (.inr a)
    · rintro (a | a | a)
      · exact .inr (.inl a)
      · exact .inl a
      · exact .inr (.inr a)
  have hA : allS (allS all u x) (stepS u x).1 y = allS (allS all u y) (stepS u y).1 x := srt_ext axy.srt ayx.srt fun r => by
    rw [all_mem, all_mem, all_mem, all_mem, nRx, nRy]
    constructor
    · rintro (a | a | a)
      · exact .inr (.inl a)
      · exact .inl a
      · exact .inr (.inr a)
    · rintro (a | a | a)
      · exact .inr (.inl a)
      · exact .inl a
      · exact .inr (.inr a)
  have hR : (stepS (stepS u x).1 y).1.1 = (stepS (stepS u y).1 x).1.1 := by rw [axy.kept, ayx.kept, hA, hO]
  exact Prod.ext hR (Prod.ext hO hL)
end Go.Proofs.Ytnncphnpajkojaa
namespace Go.Proofs.Ytnncphnpajkojaa
set_option maxHeartbeats 1000000
section
variable {α : Type} {lt : α → α → Bool}
def SrtL (lt : α → α → Bool) (l : List α) : Prop := l.Pairwise (fun x y => lt x y = true)
theorem srtL_get {l : List α} (h : SrtL lt l) {i j : Nat} {x y : α} (hi : l[i]? = some x) (hj : l[j]? = some y) (hij : i < j) : lt x y = true := by
  unfold SrtL at h
  rw [List.pairwise_iff_getElem] at h
  obtain ⟨h1, rfl⟩ := List.getElem?_eq_some_iff.1 hi
  obtain ⟨h2, rfl⟩ := List.getElem?_eq_some_iff.1 hj
  exact h i j h1 h2 hij
theorem srtL_ext (hi : ∀ x, lt x x = false) (ht : ∀ x y z, lt x y = true → lt y z = true → lt x z = true) : ∀ {l m : List α}, SrtL lt l → SrtL lt m → (∀ x, x ∈ l ↔ x ∈ m) → l = m
  | [], [], _, _, _ => rfl
  | [], b :: r, _, _, h => ((List.not_mem_nil (a := b)) ((h b).2 (List.mem_cons_self ..))).elim
  | a :: r, [], _, _, h => ((List.not_mem_nil (a := a)) ((h a).1 (List.mem_cons_self ..))).elim
  | a :: r, b :: s, h1, h2, h => by
    obtain ⟨p1, q1⟩ := List.pairwise_cons.1 h1
    obtain ⟨p2, q2⟩ := List.pairwise_cons.1 h2
    have e : a = b := by
      rcases List.mem_cons.1 ((h a).1 (List.mem_cons_self ..)) with e | ha
      · exact e
      · rcases List.mem_cons.1 ((h b).2 (List.mem_cons_self ..)) with e | hb
        · exact e.symm
        · have := ht _ _ _ (p1 b hb) (p2 a ha)
          rw [hi] at this; cases this
    subst e
    congr 1
    refine srtL_ext hi ht q1 q2 fun x => ⟨fun hx => ?_, fun hx => ?_⟩
    · rcases List.mem_cons.1 ((h x).1 (List.mem_cons_of_mem _ hx)) with rfl | hx'
      · have := p1 x hx; rw [hi] at this; cases this
      · exact hx'
    · rcases List.mem_cons.1 ((h x).2 (List.mem_cons_of_mem _ hx)) with rfl | hx'
      · have := p2 x hx; rw [hi] at this; cases this
      · exact hx'
theorem insR_mem (x y : α) : ∀ {r : List α}, y ∈ insR lt r x ↔ y = x ∨ y ∈ r
  | [] => by simp [insR]
  | a :: r => by
    unfold insR
    split
    · rw [List.mem_cons, insR_mem x y (r := r), List.mem_cons]
      constructor
      · rintro (h | h | h)
        · exact .inr (.inl h)
        · exact .inl h
        · exact .inr (.inr h)
      · rintro (h | h | h)
        · exact .inr (.inl h)
        · exact .inl h
        · exact .inr (.inr h)
    · rw [List.mem_cons]
theorem foldR_mem (y : α) : ∀ {xs r : List α}, y ∈ xs.foldl (insR lt) r ↔ y ∈ r ∨ y ∈ xs
  | [], r => by simp
  | x :: xs, r => by
    rw [List.foldl_cons, foldR_mem y, insR_mem, List.mem_cons]
    constructor
    · rintro ((h | h) | h)
      · exact .inr (.inl h)
      · exact .inl h
      · exact .inr (.inr h)
    · rintro (h | h | h)
      · exact .inl (.inr h)
      · exact .inl (.inl h)
      · exact .inr h
theorem isort_mem (xs : List α) (y : α) : y ∈ isort lt xs ↔ y ∈ xs := by
  unfold isort
  rw [List.mem_reverse, foldR_mem]
  simp
theorem isort_length (xs : List α) : (isort lt xs).length = xs.length := by
  unfold isort
  rw [List.length_reverse, foldl_insR_length]
  simp
/-- Descending, read from behind. -/
theorem insR_srt (ht : ∀ x y z, lt x y = true → lt y z = true → lt x z = true) (x : α) : ∀ {r : List α}, r.Pairwise (fun a b => lt b a = true) → (∀ y, y ∈ r → lt x y = true ∨ lt y x = true) → (insR lt r x).Pairwise (fun a b => lt b a = true)
  | [], _, _ => List.pairwise_singleton ..
  | a :: r, h, ha => by
    obtain ⟨h1, h2⟩ := List.pairwise_cons.1 h
    unfold insR
    split
    · rename_i hx
      refine List.Pairwise.cons (fun b hb => ?_) (insR_srt ht x h2 fun y hy => ha y (List.mem_cons_of_mem _ hy))
      rcases (insR_mem x b).1 hb with rfl | hb
      · exact hx
      · exact h1 b hb
    · rename_i hx
      have hax : lt a x = true := (ha a (List.mem_cons_self ..)).resolve_left hx
      refine List.Pairwise.cons (fun b hb => ?_) h
      rcases List.mem_cons.1 hb with rfl | hb
      · exact hax
      · exact ht _ _ _ (h1 b hb) hax
theorem foldR_srt (ht : ∀ x y z, lt x y = true → lt y z = true → lt x z = true) : ∀ {xs r : List α}, r.Pairwise (fun a b => lt b a = true) → xs.Pairwise (fun a b => lt a b = true ∨ lt b a = true) → (∀ x, x ∈ xs → ∀ y, y ∈ r → lt x y = true ∨ lt y x = true) → (xs.foldl (insR lt) r).Pairwise (fun a b => lt b a = true)
  | [], _, h, _, _ => h
  | x :: xs, r, h, hp, hx => by
    obtain ⟨p1, p2⟩ := List.pairwise_cons.1 hp
    rw [List.foldl_cons]
    refine foldR_srt ht (insR_srt ht x h (hx x (List.mem_cons_self ..))) p2 fun z hz y hy => ?_
    rcases (insR_mem x y).1 hy with rfl | hy
    · exact (p1 z hz).symm
    · exact hx z (List.mem_cons_of_mem _ hz) y hy
theorem isort_srt (ht : ∀ x y z, lt x y = true → lt y z = true → lt x z = true) {xs : List α} (hp : xs.Pairwise (fun a b => lt a b = true ∨ lt b a = true)) : SrtL lt (isort lt xs) := by
  unfold isort SrtL
  rw [List.pairwise_reverse]
  exact foldR_srt ht List.Pairwise.nil hp fun x _ y hy => (List.not_mem_nil hy).elim
/-- Insertion from the front. -/
def frontI (lt : α → α → Bool) (l : List α) (x : α) : List α := insAt l (l.takeWhile (fun y => lt y x)).length x
theorem front_srt (ht : ∀ x y z, lt x y = true → lt y z = true → lt x z = true) {l : List α} {x : α} (h : SrtL lt l) (hx : ∀ y, y ∈ l → lt x y = true ∨ lt y x = true) : SrtL lt (frontI lt l x) := by
  have hlt : ∀ y, y ∈ l.take (l.takeWhile (fun y => lt y x)).length → lt y x = true := by
    intro y hy
    obtain ⟨i, hi⟩ := List.getElem?_of_mem hy
    rw [List.getElem?_take] at hi
    split at hi
    · rename_i hlt
      exact takeW_true (q := fun y => lt y x) hlt hi
    · cases hi
  have hge : ∀ y, y ∈ l.drop (l.takeWhile (fun y => lt y x)).length → lt x y = true := by
    intro y hy
    obtain ⟨i, hi⟩ := List.getElem?_of_mem hy
    rw [List.getElem?_drop] at hi
    obtain ⟨z, hz⟩ := get_of_lt (xs := l) (i := (l.takeWhile (fun y => lt y x)).length) (by have := (List.getElem?_eq_some_iff.1 hi).1; omega)
    have hzf := takeW_false (q := fun y => lt y x) hz
    have hzx : lt x z = true := (hx z (List.mem_of_getElem? hz)).resolve_right (by rw [hzf]; decide)
    cases i with
    | zero => rw [Nat.add_zero, hz] at hi; injection hi with hi; subst hi; exact hzx
    | succ i =>
      refine ht _ _ _ hzx ?_
      unfold SrtL at h
      rw [List.pairwise_iff_getElem] at h
      obtain ⟨a1, rfl⟩ := List.getElem?_eq_some_iff.1 hz
      obtain ⟨a2, rfl⟩ := List.getElem?_eq_some_iff.1 hi
      exact h _ _ a1 a2 (by omega)
  unfold frontI insAt SrtL
  rw [List.pairwise_append]
  refine ⟨List.Pairwise.sublist (List.take_sublist ..) h, List.Pairwise.cons hge (List.Pairwise.sublist (List.drop_sublist ..) h), fun a ha b hb => ?_⟩
  rcases List.mem_cons.1 hb with rfl | hb
  · exact hlt a ha
  · exact ht _ _ _ (hlt a ha) (hge b hb)
end
/-! The order of the records that were seen. -/
theorem cmpS_neg {x y : Rec} : ltS x y = true ↔ (x.2.2.1 < y.2.2.1 ∨ x.2.2.1 = y.2.2.1 ∧ befB (plR x) (plR y) = true) := by
  unfold ltS cmpS
  rw [decide_eq_true_eq]
  have h1 := cmpI_zero (a := x.2.2.1) (b := y.2.2.1)
  have h2 := cmpI_neg (a := x.2.2.1) (b := y.2.2.1)
  have h3 := cmpP_neg (x := plR x) (y := plR y)
  split
  · constructor
    · intro h; exact .inl (h2.1 h)
    · rintro (h | h)
      · exact h2.2 h
      · omega
  · rw [h3]
    constructor
    · intro h; exact .inr ⟨by omega, h⟩
    · rintro (h | h)
      · omega
      · exact h.2
theorem ltS_irr (x : Rec) : ltS x x = false := by
  rw [Bool.eq_false_iff]
  intro h
  rcases cmpS_neg.1 h with h | h
  · omega
  · rw [befB_irr] at h; cases h.2
theorem ltS_trans (x y z : Rec) (h : ltS x y = true) (h' : ltS y z = true) : ltS x z = true := by
  rw [cmpS_neg] at *
  rcases h with h | h <;> rcases h' with h' | h'
  · exact .inl (by omega)
  · exact .inl (by omega)
  · exact .inl (by omega)
  · exact .inr ⟨by omega, befB_trans h.2 h'.2⟩
theorem ltS_total {x y : Rec} (h : plR x ≠ plR y) : ltS x y = true ∨ ltS y x = true := by
  rw [cmpS_neg, cmpS_neg]
  by_cases e : x.2.2.1 = y.2.2.1
  · cases hb : befB (plR x) (plR y)
    · exact .inr (.inr ⟨e.symm, befB_total hb h⟩)
    · exact .inl (.inr ⟨e, rfl⟩)
  · by_cases e' : x.2.2.1 < y.2.2.1
    · exact .inl (.inl e')
    · exact .inr (.inl (by omega))
theorem places_ne {l : List Rec} (h : Srt plR l) : l.Pairwise (fun a b => ltS a b = true ∨ ltS b a = true) := List.Pairwise.imp (fun hab => ltS_total fun e => by rw [e, befB_irr] at hab; cases hab) h
theorem seen_srt {l : List Rec} (h : Srt plR l) : SrtL ltS (seenS l) := isort_srt ltS_trans (places_ne h)
/-- Two neighboring steps of different devices exchanged. -/
theorem turn_made {L : List Raw6} {m : Nat} {x y : Raw6} (hL : ∀ x, x ∈ L → RawT.ok x) (h14 : L.length ≤ 14) (hx : L[m]? = some x) (hy : L[m + 1]? = some y) (hd : devS x ≠ devS y) :
    madeU ((L.set m y).set (m + 1) x) = madeU L ∧ ((L.set m y).set (m + 1) x).length = L.length ∧ ∀ z, z ∈ (L.set m y).set (m + 1) x → RawT.ok z := by
  have hl1 := (List.getElem?_eq_some_iff.1 hy).1
  have e0 : L = L.take m ++ x :: y :: L.drop (m + 2) := by
    conv => lhs; rw [← List.take_append_drop m L]
    rw [drop_cons hx, drop_cons hy]
  have e1 : (L.set m y).set (m + 1) x = L.take m ++ y :: x :: L.drop (m + 2) := by
    have hlen : (L.take m).length = m := by rw [List.length_take]; omega
    conv => lhs; rw [e0]
    rw [List.set_append_right _ _ (by omega), List.set_append_right _ _ (by omega), hlen]
    simp
  have hxo := hL x (List.mem_of_getElem? hx)
  have hyo := hL y (List.mem_of_getElem? hy)
  have hA : ∀ k, k ≤ L.length → ∃ all, AllOf k (madeU (L.take k)) all := by
    intro k
    induction k with
    | zero => intro _; exact ⟨[], allOf_start⟩
    | succ k ih =>
      intro h
      obtain ⟨all, ha⟩ := ih (by omega)
      obtain ⟨z, hz⟩ := get_of_lt (xs := L) (i := k) (by omega)
      rw [madeU_snoc hz]
      exact ⟨_, allOf_step ha (by omega) (hL z (List.mem_of_getElem? hz))⟩
  refine ⟨?_, by rw [List.length_set, List.length_set], fun z hz => ?_⟩
  · rw [e1]
    conv => rhs; rw [e0]
    obtain ⟨all, ha⟩ := hA m (by omega)
    unfold madeU at ha ⊢
    rw [List.foldl_append, List.foldl_append]
    simp only [List.foldl_cons]
    rw [step_comm ha (by omega) hxo hyo hd]
  · rw [e1] at hz
    rcases List.mem_append.1 hz with hz | hz
    · exact hL z (List.mem_of_mem_take hz)
    · rcases List.mem_cons.1 hz with rfl | hz
      · exact hyo
      · rcases List.mem_cons.1 hz with rfl | hz
        · exact hxo
        · exact hL z (List.mem_of_mem_drop hz)
/-- Whatever is sorted and has the same members is what Seen returns. -/
theorem seen_one {l m : List Rec} (h : Srt plR l) (hm : SrtL ltS m) (he : ∀ x, x ∈ m ↔ x ∈ l) : m = seenS l := srtL_ext ltS_irr ltS_trans hm (seen_srt h) fun x => by
  rw [he]
  exact (isort_mem l x).symm
end Go.Proofs.Ytnncphnpajkojaa
namespace Go.Proofs.Ytnncphnpajkojaa
set_option maxHeartbeats 4000000
set_option maxRecDepth 100000
open Go.Shelf
/-- What several branches lead to is walked once. -/
theorem Walks.shareX {E : Env} {G : Goal} {todo : List WI} {X : Type} (t : X → St) (inv : X → Prop) {A : Prop} (h : (∀ s x, inv x → Le s (t x) → Walks E G todo s) → A) (hw : ∀ x, inv x → Walks E G todo (t x)) : A :=
  h fun s x hx hl => Walks.weaken hl (hw x hx)
/-! The kit's contract of slices.SortFunc at this program. -/
def sortR_ren : Go.Shelf.Ren := ⟨fun | 6 => 48 | 15 => 81 | 14 => 80 | 28 => 100 | 29 => 101 | 20 => 92 | 21 => 93 | 22 => 94 | 23 => 95 | 24 => 96 | 25 => 97 | 26 => 98 | 27 => 99 | 46 => 106 | 47 => 107 | 48 => 108 | 49 => 109 | 50 => 110 | 57 => 111 | n => n, fun | 22 => 25 | 24 => 43 | 25 => 90 | 3 => 3 | 39 => 110 | 0 => 0 | 53 => 128 | 55 => 130 | 4 => 4 | 46 => 122 | 45 => 121 | 50 => 96 | 5 => 5 | 9 => 9 | 66 => 136 | 70 => 140 | 76 => 142 | 77 => 143 | n => n, fun | n => n⟩
theorem sortR : Go.Proofs.SlLaysF0.n6 Try.prog sortR_ren := {
  mixed := by kernel_rfl
  f6 := ⟨Try.f48.name, by decide, Try.func48.trans (congrArg some (by kernel_rfl))⟩
  f14 := ⟨Try.f80.name, by decide, Try.func80.trans (congrArg some (by kernel_rfl))⟩
  f15 := Try.func81.trans (congrArg some (by kernel_rfl))
  f20 := ⟨Try.f92.name, by decide, Try.func92.trans (congrArg some (by kernel_rfl))⟩
  f21 := ⟨Try.f93.name, by decide, Try.func93.trans (congrArg some (by kernel_rfl))⟩
  f22 := ⟨Try.f94.name, by decide, Try.func94.trans (congrArg some (by kernel_rfl))⟩
  f23 := ⟨Try.f95.name, by decide, Try.func95.trans (congrArg some (by kernel_rfl))⟩
  f24 := ⟨Try.f96.name, by decide, Try.func96.trans (congrArg some (by kernel_rfl))⟩
  f25 := ⟨Try.f97.name, by decide, Try.func97.trans (congrArg some (by kernel_rfl))⟩
  f26 := ⟨Try.f98.name, by decide, Try.func98.trans (congrArg some (by kernel_rfl))⟩
  f27 := ⟨Try.f99.name, by decide, Try.func99.trans (congrArg some (by kernel_rfl))⟩
  f28 := Try.func100.trans (congrArg some (by kernel_rfl))
  f29 := Try.func101.trans (congrArg some (by kernel_rfl))
  f46 := ⟨Try.f106.name, by decide, Try.func106.trans (congrArg some (by kernel_rfl))⟩
  f47 := Try.func107.trans (congrArg some (by kernel_rfl))
  f48 := Try.func108.trans (congrArg some (by kernel_rfl))
  f49 := ⟨Try.f109.name, by decide, Try.func109.trans (congrArg some (by kernel_rfl))⟩
  f50 := ⟨Try.f110.name, by decide, Try.func110.trans (congrArg some (by kernel_rfl))⟩
  f57 := ⟨Try.f111.name, by decide, Try.func111.trans (congrArg some (by kernel_rfl))⟩
  t0 := Try.underlying0
  a0 := Try.isAgg0
  z0 := Try.sizeOf0
  v0 := Try.zeroValue0
  t3 := Try.underlying3
  a3 := Try.isAgg3
  z3 := Try.sizeOf3
  v3 := Try.zeroValue3
  t4 := Try.underlying4
  a4 := Try.isAgg4
  z4 := Try.sizeOf4
  v4 := Try.zeroValue4
  t5 := Try.underlying5
  a5 := Try.isAgg5
  z5 := Try.sizeOf5
  v5 := Try.zeroValue5
  t9 := Try.underlying9
  a9 := Try.isAgg9
  z9 := Try.sizeOf9
  v9 := Try.zeroValue9
  t22 := Try.underlying25
  a22 := Try.isAgg25
  z22 := Try.sizeOf25
  v22 := Try.zeroValue25
  t25 := Try.underlying90
  a25 := Try.isAgg90
  z25 := Try.sizeOf90
  v25 := Try.zeroValue90
  t39 := Try.underlying110
  a39 := Try.isAgg110
  z39 := Try.sizeOf110
  v39 := Try.zeroValue110
  t45 := Try.underlying121
  a45 := Try.isAgg121
  z45 := Try.sizeOf121
  v45 := Try.zeroValue121
  t46 := Try.underlying122
  a46 := Try.isAgg122
  z46 := Try.sizeOf122
  v46 := Try.zeroValue122
  t50 := Try.underlying96
  a50 := Try.isAgg96
  z50 := Try.sizeOf96
  v50 := Try.zeroValue96
  t53 := Try.underlying128
  a53 := Try.isAgg128
  z53 := Try.sizeOf128
  v53 := Try.zeroValue128
  t55 := Try.underlying130
  a55 := Try.isAgg130
  z55 := Try.sizeOf130
  v55 := Try.zeroValue130
  t66 := Try.underlying136
  a66 := Try.isAgg136
  z66 := Try.sizeOf136
  v66 := Try.zeroValue136
  t70 := Try.underlying140
  a70 := Try.isAgg140
  z70 := Try.sizeOf140
  v70 := Try.zeroValue140
  t76 := Try.underlying142
  a76 := Try.isAgg142
  z76 := Try.sizeOf142
  v76 := Try.zeroValue142
  t77 := Try.underlying143
  a77 := Try.isAgg143
  z77 := Try.sizeOf143
  v77 := Try.zeroValue143 }
abbrev OkR : Type := { r : Rec // RecordT.ok r }
theorem zero_okR : RecordT.ok ((0, 0, 0, [], 0, 0) : Rec) := ⟨i64_ok (by decide) (by decide), i64_ok (by decide) (by decide), i64_ok (by decide) (by decide), Nat.zero_le _, i64_ok (by decide) (by decide), i64_ok (by decide) (by decide)⟩
instance : Inhabited OkR := ⟨⟨(0, 0, 0, [], 0, 0), zero_okR⟩⟩
def encR (r : Rec) : List Value := [.int .i64 r.1, .int .i64 r.2.1, .int .i64 r.2.2.1, .string ⟨r.2.2.2.1.toArray⟩, .int .i64 r.2.2.2.2.1, .int .i64 r.2.2.2.2.2]
theorem rep_encR {r : Rec} (h : RecordT.ok r) (w : World) (M : Mem) : RepC RecordT r w M (encR r) := by
  obtain ⟨h1, h2, h3, h4, h5, h6⟩ := h
  exact ⟨[_], _, rfl, ⟨rfl, h1⟩, [_], _, rfl, ⟨rfl, h2⟩, [_], _, rfl, ⟨rfl, h3⟩, [_], _, rfl, ⟨rfl, h4⟩, [_], _, rfl, ⟨rfl, h5⟩, ⟨rfl, h6⟩⟩
theorem encR_rep {r : Rec} {w : World} {M : Mem} {cs : List Value} (h : RepC RecordT r w M cs) : cs = encR r := by
  obtain ⟨a1, b1, rfl, ⟨rfl, _⟩, a2, b2, rfl, ⟨rfl, _⟩, a3, b3, rfl, ⟨rfl, _⟩, a4, b4, rfl, ⟨rfl, _⟩, a5, b5, rfl, ⟨rfl, _⟩, ⟨rfl, _⟩⟩ := h
  rfl
theorem world_grown {w w' : World} (h : RowKit.Below w.heap.size w w') (hd : w.drawn ≤ w'.drawn) : ∃ q os, w' = Go.Sort.grow (w.drewN q) os := by
  refine ⟨w'.drawn - w.drawn, w'.heap.extract w.heap.size w'.heap.size, ?_⟩
  have hh : w'.heap = w.heap ++ w'.heap.extract w.heap.size w'.heap.size := by
    apply Array.ext_getElem?
    intro i
    by_cases hi : i < w.heap.size
    · rw [Array.getElem?_append_left hi, h.block i hi]
    · rw [Array.getElem?_append_right (by omega), Array.getElem?_extract]
      have := h.size
      by_cases hi2 : i < w'.heap.size
      · rw [if_pos (by omega)]
        congr 1
        omega
      · rw [if_neg (by omega), Array.getElem?_eq_none (by omega)]
  have hd' : w'.drawn = w.drawn + (w'.drawn - w.drawn) := by omega
  cases w'
  cases w
  obtain ⟨h1, h2, h3, _, _⟩ := h
  dsimp only at h1 h2 h3 hh hd'
  subst h1 h2 h3
  unfold Go.Sort.grow World.drewN
  dsimp only
  congr 1
theorem cmp_lays (x y : Rec) (hx : RecordT.ok x) (hy : RecordT.ok y) (W : World) : Calls env.P 49 #[.agg (encR x).toArray, .agg (encR y).toArray] W fun e w' => e = .returned (.int .i64 (cmpS x y)) ∧ ∃ q os, w' = Go.Sort.grow (W.drewN q) os := by
  have hc := c_Seen1 x y W (fun _ => False) [.agg (encR x).toArray, .agg (encR y).toArray] (fun b h => h.elim)
    ⟨_, _, rfl, rfl, ⟨_, rfl, rep_encR hx _ _⟩, _, _, rfl, rfl, ⟨_, rfl, rep_encR hy _ _⟩, rfl⟩
  refine hc.mono fun e w' ⟨v, he, ⟨hb, hd⟩, S', _, _, _, hr⟩ => ?_
  have hv : v = .int .i64 (cmpS x y) := by
    have h1 := hr.1
    simp only [List.cons.injEq, and_true] at h1
    exact h1
  subst hv
  exact ⟨he, world_grown hb (hd trivial)⟩
/-- The world behind the sort: one block is turned. -/
theorem sw_other {w : World} {g o n : Nat} {d : Array OkR} {os : Array Obj} {k : Nat} (hk : k < w.heap.size) (hne : k ≠ g) : (sortWorldK (fun x : OkR => encR x.1) 6 w g o n d os).heap[k]? = w.heap[k]? := by
  show (w.heap.modify g (Go.Sort.onCells _) ++ os)[k]? = _
  rw [Array.getElem?_append_left (by simpa using hk), Array.getElem?_modify, if_neg (fun e => hne e.symm)]
theorem sw_at {w : World} {g o n : Nat} {d : Array OkR} {os : Array Obj} {cur : Array Value} {e : TypeId} (h : w.heap[g]? = some (.cells cur e (0, 0))) : ∃ cur', cur'.size = cur.size ∧ (sortWorldK (fun x : OkR => encR x.1) 6 w g o n d os).heap[g]? = some (.cells cur' e (0, 0)) := by
  have hg := (Array.getElem?_eq_some_iff.1 h).1
  refine ⟨Go.Sort.putCells id o (Go.Sort.flatK (fun x : OkR => encR x.1) 6 d) cur, by simp [Go.Sort.putCells], ?_⟩
  show (w.heap.modify g (Go.Sort.onCells _) ++ os)[g]? = _
  rw [Array.getElem?_append_left (by simpa using hg), Array.getElem?_modify, if_pos rfl, h]
  rfl
theorem swo_cmp : Go.Sort.SWO (ltOf fun x y : OkR => cmpS x.1 y.1) where
  irrefl x := ltS_irr x.1
  trans x y z h h' := ltS_trans x.1 y.1 z.1 h h'
  ntrans x y z h h' := by
    have e : ∀ a b : OkR, ltOf (fun x y : OkR => cmpS x.1 y.1) a b = ltS a.1 b.1 := fun _ _ => rfl
    rw [e] at h h' ⊢
    rw [Bool.eq_false_iff] at *
    intro hh
    rw [ne_eq, cmpS_neg] at h h'
    rw [cmpS_neg] at hh
    simp only [befB_iff] at h h' hh
    omega
theorem h_SortAll (xs : List Rec) (hn : xs ≠ []) (hs : Srt plR xs) (hl : xs.length ≤ 100000) : HC env 48 [.lfull 1000000000, .iv (.clo 49 .unit) ()] [(1000000000, .arr RecordT xs)] (.tup []) [(1000000000, .arr RecordT (seenS xs))] := by
  intro w S ν vs hS hft hP hrel hps
  simp only [PRels] at hps
  obtain ⟨v1, r1, rfl, h1, v2, r2, rfl, h2, rfl⟩ := hps
  simp only [PRel] at h1 h2
  obtain ⟨_, rfl, _⟩ := h1
  have h2' : v2 = .func (.func 49) #[] #[] := by
    obtain ⟨caps, e, hc⟩ := h2.2
    simp only [RepC] at hc
    subst hc
    simpa using e
  subst h2'
  obtain ⟨_, vv, e, hlen, hcase⟩ := hrel.blk 1000000000 (.arr RecordT xs) rfl
  rcases hcase with ⟨_, hnil⟩ | ⟨g, o, cap, cur, e', hv, h3, h4, h5, h6, h7, h8, h9⟩
  · exact absurd hnil hn
  obtain ⟨rfl⟩ : vv = ν 1000000000 := by simpa using e.symm
  have hg := (Array.getElem?_eq_some_iff.1 h7).1
  have hall : ∀ x, x ∈ xs → RecordT.ok x := fun x hx => by
    obtain ⟨i, hi⟩ := List.getElem?_of_mem hx
    obtain ⟨cs, _, _, hr⟩ := h9 i x hi
    exact RepC_ok _ _ _ _ _ hr
  let ys : List OkR := xs.attach.map fun x => ⟨x.1, hall x.1 x.2⟩
  have hys : ys.map (·.1) = xs := by
    show (xs.attach.map _).map _ = xs
    rw [List.map_map]
    exact List.attach_map_subtype_val xs
  have hylen : ys.length = xs.length := by simp [ys]
  have hH : Go.Sort.HoldsK (fun x : OkR => encR x.1) 6 w g o ys.toArray := by
    intro j hj
    have hj' : j < xs.length * 6 := by
      have := hj
      rw [Go.Sort.size_flatK] at this
      simpa [hylen] using this
    have hji : j / 6 < xs.length := by omega
    refine ⟨?_, by simp [World.frozen?, h7]⟩
    rw [Go.Sort.get_flatK _ _ _ _ (by simpa [hylen] using hj')]
    obtain ⟨x, hx⟩ := get_of_lt (xs := xs) (i := j / 6) hji
    obtain ⟨cs, hcl, hca, hr⟩ := h9 (j / 6) x hx
    have hcs := encR_rep hr
    subst hcs
    have hyx : (ys.toArray[j / 6]!).1 = x := by
      have h10 : ys[j / 6]? = some (ys[j / 6]'(by omega)) := List.getElem?_eq_getElem (by omega)
      have h11 : (ys.map (·.1))[j / 6]? = some x := by rw [hys]; exact hx
      rw [List.getElem?_map, h10] at h11
      injection h11 with h11
      rw [getElem!_pos ys.toArray (j / 6) (by simpa using (by omega : j / 6 < ys.length))]
      simpa using h11
    rw [hyx]
    have hc := hca (j % 6) ((encR x)[j % 6]!) (by
      rw [List.getElem?_eq_getElem (by show j % 6 < 6; omega), getElem!_pos (encR x) (j % 6) (by show j % 6 < 6; omega)])
    have ea : o + j / 6 * RecordT.cells + j % 6 = o + j := by
      show o + j / 6 * 6 + j % 6 = o + j
      omega
    rw [ea] at hc
    exact hc
  have hcall := AnyQ.slices_SortFunc sortR 6 (fun w => (env_ok.facts (e_ty43)).isAgg w) (fun w => (env_ok.facts (e_ty43)).sizeOf w) (fun x : OkR => encR x.1) (fun _ => rfl)
    (fun x v hv => by simp [encR] at hv; rcases hv with rfl | rfl | rfl | rfl | rfl | rfl <;> rfl) (fun x y : OkR => cmpS x.1 y.1) swo_cmp 49 #[] g o cap ys.toArray w
    (enters_of Try.func49 (by kernel_rfl) rfl) (fun m os dk _ x y => by
      have h := cmp_lays x.1 y.1 x.2 y.2 (sortWorldK (fun x : OkR => encR x.1) 6 w g o m dk os)
      rw [Array.append_empty]
      exact h) hH hg (by simp [hylen]; omega)
  rw [show (ys.toArray).size = xs.length by simp [hylen]] at hcall
  rw [hv]
  refine Calls.mono hcall ?_
  rintro e2 w' ⟨rfl, d', n, os, hp, hso, rfl⟩
  have hds : d'.size = xs.length := by rw [hp.1]; simp [hylen]
  have hpl : d'.toList.Perm ys := by
    have := hp.2.2
    rw [show xs.length = ys.toArray.size by simp [hylen], Array.extract_size] at this
    rw [show ys.toArray.size = d'.size from hp.1.symm, Array.extract_size] at this
    simpa using this
  have hpz : (d'.toList.map (·.1)).Perm xs := by
    have := hpl.map (·.1)
    rwa [hys] at this
  have hne : (d'.toList.map (·.1)).Pairwise (fun a b => plR a ≠ plR b) := by
    have h0 : xs.Pairwise (fun a b => plR a ≠ plR b) := List.Pairwise.imp (fun hab e => by rw [e, befB_irr] at hab; cases hab) hs
    exact (List.Perm.pairwise_iff (fun h e => h e.symm) hpz).2 h0
  have hsz : SrtL ltS (d'.toList.map (·.1)) := by
    unfold SrtL
    rw [List.pairwise_iff_getElem] at hne ⊢
    intro a b ha hb hab
    have hb' : b < d'.size := by simpa using hb
    have h1 := hso a b (Nat.zero_le _) hab (by omega)
    have h2 := hne a b ha hb hab
    rw [getElem!_pos d' b hb', getElem!_pos d' a (by omega)] at h1
    refine (ltS_total h2).resolve_right fun h3 => ?_
    have h4 : ltS (d'[b]).1 (d'[a]).1 = false := h1
    simp only [List.getElem_map, Array.getElem_toList] at h3
    rw [h3] at h4; cases h4
  have hz : d'.toList.map (·.1) = seenS xs := seen_one hs hsz fun x => hpz.mem_iff
  have hH2 := holdsK_sortWorldK_c (fun x : OkR => encR x.1) 6 w g o ys.toArray d' n os hH hg (by rw [hds]; simp [hylen])
  have hws := size_sortWorldK_c (fun x : OkR => encR x.1) 6 w g o n d' os
  obtain ⟨cur', hcs, hat⟩ := sw_at (o := o) (n := n) (d := d') (os := os) h7
  have hfoot : foot ν [(1000000000, .arr RecordT xs)] g := ⟨1000000000, _, rfl, by rw [hv]; rfl⟩
  refine ⟨_, rfl, ⟨rfl, rfl, rfl, hws, fun k hk hx => sw_other hk fun e => hx (e ▸ hfoot), fun _ => Nat.le_add_right _ _⟩, ν, S, fun _ h => h, fun _ h => .inl h, fun _ _ _ => rfl, ⟨fun b hb => Nat.lt_of_lt_of_le (hS b hb) hws, fun b hb => .inl (Nat.le_trans hws hb), fun id b hb => ?_, fun a b x y hab ha hb => ?_⟩, ⟨[], rfl, rfl⟩⟩
  · simp only [look] at hb
    cases hid : Nat.beq id 1000000000 with
    | false => rw [hid] at hb; cases hb
    | true =>
      rw [hid] at hb
      have hid' := Nat.eq_of_beq_eq_true hid
      subst hid'
      simp only [cond_true, Option.some.injEq] at hb
      subst hb
      have hlz : (seenS xs).length = xs.length := isort_length xs
      refine ⟨by decide, ν 1000000000, rfl, by rw [hlz]; exact hlen, .inr ⟨g, o, cap, cur', e', by rw [hlz]; exact hv, by rw [hlz]; exact h3, h4, h5, ?_, hat, by rw [hcs]; exact h8, fun i y hi => ?_⟩⟩
      · exact .inr hfoot
      · rw [← hz, List.getElem?_map] at hi
        obtain ⟨yy, hyy, rfl⟩ := Option.map_eq_some_iff.1 hi
        have hil : i < d'.size := by
          have := (List.getElem?_eq_some_iff.1 hyy).1
          simpa using this
        refine ⟨encR yy.1, rfl, fun j v hjv => ?_, rep_encR yy.2 _ _⟩
        have hj6 : j < 6 := (List.getElem?_eq_some_iff.1 hjv).1
        have hc := (hH2 (i * 6 + j) (by rw [Go.Sort.size_flatK]; omega)).1
        rw [Go.Sort.get_flatK _ _ _ _ (by omega)] at hc
        have e6 : (i * 6 + j) / 6 = i := by omega
        have e7 : (i * 6 + j) % 6 = j := by omega
        rw [e6, e7] at hc
        have hdi : d'[i]! = yy := by
          rw [getElem!_pos d' i hil]
          have := (List.getElem?_eq_some_iff.1 hyy).2
          simpa using this
        rw [hdi] at hc
        have hv2 : (encR yy.1)[j]! = v := by
          obtain ⟨hj, rfl⟩ := List.getElem?_eq_some_iff.1 hjv
          exact getElem!_pos (encR yy.1) j hj
        rw [hv2] at hc
        show World.cell? _ ⟨g, o + i * 6 + j, none⟩ = some v
        rw [Nat.add_assoc]
        exact hc
  · have one : ∀ c z, look c [((1000000000 : Nat), Blk.arr RecordT (seenS xs))] = some z → c = 1000000000 := fun c z h => by
      simp only [look] at h
      cases h10 : Nat.beq c 1000000000 with
      | true => exact Nat.eq_of_beq_eq_true h10
      | false => rw [h10] at h; cases h
    exact absurd ((one a x ha).trans (one b y hb).symm) hab
theorem h_CloneA (xs : List Rec) (h : xs ≠ []) (hl : xs.length ≤ 100000) : HC env 47 [.iv (.sl RecordT) xs] [] (.lfull 5) [(5, .arr RecordT xs)] := h_Clone xs h hl
theorem h_Clone0 : HC env 47 [.iv (.sl RecordT) []] [] (.iv (.sl RecordT) []) [] := by
  refine HC.of_PW (m := 2000) env_ok fn_47 rfl rfl rfl rfl (by kernel_rfl) ?_; intro hx hbl; simp only [Try.f47]; simp only [go_sem, Nat.reduceBEq, ↓reduceIte, ↓reduceDIte, Nat.reduceAdd, Nat.reduceSub, Nat.reduceMul, Nat.reduceLeDiff, ← Bool.decide_and, ← Bool.decide_or, ← decide_not, Int.reduceLT, Int.reduceLE, Int.reduceToNat, Int.reduceNeg]
  intro b _
  cases b
  · simp only [go_sem, Nat.reduceBEq, ↓reduceIte, ↓reduceDIte, Nat.reduceAdd, Nat.reduceSub, Nat.reduceMul, Nat.reduceLeDiff, ← Bool.decide_and, ← Bool.decide_or, ← decide_not, Int.reduceLT, Int.reduceLE, Int.reduceToNat, Int.reduceNeg]
  · simp only [go_sem, Nat.reduceBEq, ↓reduceIte, ↓reduceDIte, Nat.reduceAdd, Nat.reduceSub, Nat.reduceMul, Nat.reduceLeDiff, ← Bool.decide_and, ← Bool.decide_or, ← decide_not, Int.reduceLT, Int.reduceLE, Int.reduceToNat, Int.reduceNeg]
theorem h_insN : HC env 92 [.iv (.sl RecordT) [], .iv (.int .i64) (0 : Int), .iv (.int .i64) (0 : Int), .iv (.clo 49 .unit) ()] [] (.tup []) [] := by
  refine HC.of_PW (m := 2000) env_ok fn_92 rfl rfl rfl rfl (by kernel_rfl) ?_; intro hx hbl; simp only [Try.f92]; simp only [go_sem, Nat.reduceBEq, ↓reduceIte, ↓reduceDIte, Nat.reduceAdd, Nat.reduceSub, Nat.reduceMul, Nat.reduceLeDiff, ← Bool.decide_and, ← Bool.decide_or, ← decide_not, Int.reduceLT, Int.reduceLE, Int.reduceToNat, Int.reduceNeg]
  refine ⟨by omega, ?_⟩
  refine Walks.loopW (X := Unit) (fun _ => ⟨[(8, .iv (.int .i64) (1 : Int)), (2, .iv (.int .i64) (0 : Int))], []⟩) (fun _ => True) (fun _ => 0) () ⟨⟨Or.inl rfl, Or.inl rfl, trivial⟩, trivial, rfl, rfl⟩ trivial ?_
  intro _ _ back
  refine PW_sound env_ok ⟨_, fn_92, rfl⟩ 2000 _ _ (by kernel_rfl) ?_; simp only [go_sem, Nat.reduceBEq, ↓reduceIte, ↓reduceDIte, Nat.reduceAdd, Nat.reduceSub, Nat.reduceMul, Nat.reduceLeDiff, ← Bool.decide_and, ← Bool.decide_or, ← decide_not, Int.reduceLT, Int.reduceLE, Int.reduceToNat, Int.reduceNeg]
theorem h_pdqN (b : Int) : HC env 80 [.iv (.sl RecordT) [], .iv (.int .i64) (0 : Int), .iv (.int .i64) (0 : Int), .iv (.int .i64) b, .iv (.clo 49 .unit) ()] [] (.tup []) [] := by
  refine HC.of_PW (m := 2000) env_ok fn_80 rfl rfl rfl rfl (by kernel_rfl) ?_; intro hx hbl; simp only [Try.f80]; simp only [go_sem, Nat.reduceBEq, ↓reduceIte, ↓reduceDIte, Nat.reduceAdd, Nat.reduceSub, Nat.reduceMul, Nat.reduceLeDiff, ← Bool.decide_and, ← Bool.decide_or, ← decide_not, Int.reduceLT, Int.reduceLE, Int.reduceToNat, Int.reduceNeg]
  refine Walks.loopW (X := Unit) (fun _ => ⟨[(0, .iv (.sl RecordT) []), (1, .iv (.int .i64) (0 : Int)), (2, .iv (.int .i64) (0 : Int)), (4, .fn 49 [])], []⟩) (fun _ => True) (fun _ => 0) () ⟨⟨Or.inl rfl, Or.inl rfl, Or.inl rfl, Or.inl rfl, trivial⟩, trivial, rfl, rfl⟩ trivial ?_
  intro _ _ back
  refine PW_sound env_ok ⟨_, fn_80, rfl⟩ 2000 _ _ (by kernel_rfl) ?_; simp only [go_sem, Nat.reduceBEq, ↓reduceIte, ↓reduceDIte, Nat.reduceAdd, Nat.reduceSub, Nat.reduceMul, Nat.reduceLeDiff, ← Bool.decide_and, ← Bool.decide_or, ← decide_not, Int.reduceLT, Int.reduceLE, Int.reduceToNat, Int.reduceNeg]
  refine ⟨i64_ok (by decide) (by decide), fun _ => ⟨_, _, h_insN, ?_⟩, fun g => absurd (by decide) g⟩
  simp only [go_sem, Nat.reduceBEq, ↓reduceIte, ↓reduceDIte, Nat.reduceAdd, Nat.reduceSub, Nat.reduceMul, Nat.reduceLeDiff, ← Bool.decide_and, ← Bool.decide_or, ← decide_not, Int.reduceLT, Int.reduceLE, Int.reduceToNat, Int.reduceNeg]
  exact fun _ => trivial
theorem h_SortN : HC env 48 [.iv (.sl RecordT) [], .iv (.clo 49 .unit) ()] [] (.tup []) [] := by
  refine HC.of_PW (m := 2000) env_ok fn_48 rfl rfl rfl rfl (by kernel_rfl) ?_; intro hx hbl; simp only [Try.f48]; simp only [go_sem, Nat.reduceBEq, ↓reduceIte, ↓reduceDIte, Nat.reduceAdd, Nat.reduceSub, Nat.reduceMul, Nat.reduceLeDiff, ← Bool.decide_and, ← Bool.decide_or, ← decide_not, Int.reduceLT, Int.reduceLE, Int.reduceToNat, Int.reduceNeg]
  rw [show IntKind.u64.wrap (0 : Int) = 0 from rfl]
  refine ⟨_, c_Len 0 (by omega) (by omega), fun _ => ⟨_, _, h_pdqN _, ?_⟩⟩
  simp only [go_sem, Nat.reduceBEq, ↓reduceIte, ↓reduceDIte, Nat.reduceAdd, Nat.reduceSub, Nat.reduceMul, Nat.reduceLeDiff, ← Bool.decide_and, ← Bool.decide_or, ← decide_not, Int.reduceLT, Int.reduceLE, Int.reduceToNat, Int.reduceNeg]
  exact fun _ => trivial
theorem c_SeenV (u : Usr) (hv : VU u) : PC env 24 [⟨UserT, u⟩] (.sl RecordT) (seenS u.1) := by
  have hl := hv.l1
  by_cases hn : u.1 = []
  · obtain ⟨u1, u2⟩ := u
    dsimp only at hn
    subst hn
    refine PC.of_PW (m := 2000) env_ok fn_24 rfl rfl rfl rfl (by kernel_rfl) ?_; intro hx; simp only [Try.f24]; simp only [go_sem, Nat.reduceBEq, ↓reduceIte, ↓reduceDIte, Nat.reduceAdd, Nat.reduceSub, Nat.reduceMul, Nat.reduceLeDiff, ← Bool.decide_and, ← Bool.decide_or, ← decide_not, Int.reduceLT, Int.reduceLE, Int.reduceToNat, Int.reduceNeg]
    refine ⟨_, _, h_Clone0, ?_⟩
    simp only [go_sem, Nat.reduceBEq, ↓reduceIte, ↓reduceDIte, Nat.reduceAdd, Nat.reduceSub, Nat.reduceMul, Nat.reduceLeDiff, ← Bool.decide_and, ← Bool.decide_or, ← decide_not, Int.reduceLT, Int.reduceLE, Int.reduceToNat, Int.reduceNeg]
    intro _ _
    refine ⟨_, _, h_SortN, ?_⟩
    simp only [go_sem, Nat.reduceBEq, ↓reduceIte, ↓reduceDIte, Nat.reduceAdd, Nat.reduceSub, Nat.reduceMul, Nat.reduceLeDiff, ← Bool.decide_and, ← Bool.decide_or, ← decide_not, Int.reduceLT, Int.reduceLE, Int.reduceToNat, Int.reduceNeg]
    try exact fun _ => rfl
  · refine PC.of_PW (m := 2000) env_ok fn_24 rfl rfl rfl rfl (by kernel_rfl) ?_; intro hx; simp only [Try.f24]; simp only [go_sem, Nat.reduceBEq, ↓reduceIte, ↓reduceDIte, Nat.reduceAdd, Nat.reduceSub, Nat.reduceMul, Nat.reduceLeDiff, ← Bool.decide_and, ← Bool.decide_or, ← decide_not, Int.reduceLT, Int.reduceLE, Int.reduceToNat, Int.reduceNeg]
    refine ⟨_, _, h_Clone u.1 hn (by omega), ?_⟩
    simp only [go_sem, Nat.reduceBEq, ↓reduceIte, ↓reduceDIte, Nat.reduceAdd, Nat.reduceSub, Nat.reduceMul, Nat.reduceLeDiff, ← Bool.decide_and, ← Bool.decide_or, ← decide_not, Int.reduceLT, Int.reduceLE, Int.reduceToNat, Int.reduceNeg]
    intro _
    refine ⟨_, _, h_SortAll u.1 hn hv.sR (by omega), ?_⟩
    simp only [go_sem, Nat.reduceBEq, ↓reduceIte, ↓reduceDIte, Nat.reduceAdd, Nat.reduceSub, Nat.reduceMul, Nat.reduceLeDiff, ← Bool.decide_and, ← Bool.decide_or, ← decide_not, Int.reduceLT, Int.reduceLE, Int.reduceToNat, Int.reduceNeg]
    exact fun _ => trivial
end Go.Proofs.Ytnncphnpajkojaa
