/- The law SlipWords holds for every input. No condition. -/
import Derived.Test.YtahajkiadfgpbaaB2
import Derived.Test.YtahajkiadfgpbaaB2
import Derived.Test.YtahajkiadfgpbaaRows
set_option linter.unusedSimpArgs false
set_option linter.unusedVariables false
namespace Go.Proofs.Ytahajkiadfgpbaa
set_option maxHeartbeats 4000000

theorem distT_parts (l : Sl) (a b c d : List UInt8) : distT l (a ++ c) (b ++ d) ≤ distT l a b + distT l c d := by
  rw [distT_dist, distT_dist, distT_dist]
  exact dist_le ((script l b a).append (script l d c))
theorem distT_zero' (l : Sl) (a : List UInt8) : distT l a a ≤ 0 := by rw [distT_dist]; exact dist_le (Script.same l a)
theorem distT_before (l : Sl) (a b c : List UInt8) : distT l (c ++ a) (c ++ b) ≤ distT l a b := by
  have h := distT_parts l c c a b
  have := distT_zero' l c
  omega
theorem distT_behind (l : Sl) (a b c : List UInt8) : distT l (a ++ c) (b ++ c) ≤ distT l a b := by
  have h := distT_parts l a b c c
  have := distT_zero' l c
  omega
theorem distT_back (l : Sl) (a b : List UInt8) : distT l a.reverse b.reverse = distT l a b := by
  rw [distT_dist, distT_dist, dist_rev]
def turned (l : Sl) : Sl := (l.1, l.2.2.1, l.2.1, l.2.2.2.1, l.2.2.2.2)
theorem putB_sym (l : Sl) (x y : UInt8) : putB l x y = putB l y x := by
  unfold putB putD
  rw [Int.min_comm (x.toNat : Int), Int.max_comm (x.toNat : Int)]
  by_cases h : (x.toNat : Int) = y.toNat
  · rw [if_pos h, if_pos h.symm]
  · rw [if_neg h, if_neg fun e => h e.symm]
theorem putB_turned (l : Sl) (x y : UInt8) : putB (turned l) x y = putB l x y := rfl
theorem Script.turn {l : Sl} {a b : List UInt8} {c : Int} (h : Script l a b c) : Script (turned l) b a c := by
  induction h with
  | nil => exact .nil
  | drop x _ ih => exact .add x ih
  | add y _ ih => exact .drop y ih
  | put x y _ ih => exact (Script.put y x ih).cast (by rw [putB_turned, putB_sym])
  | swap x y h _ ih => exact .swap y x (fun e => h e.symm) ih
theorem distT_turned (l : Sl) (a b : List UInt8) : distT (turned l) b a = distT l a b := by
  rw [distT_dist, distT_dist]
  exact Int.le_antisymm (dist_le (script l b a).turn) (dist_le (Script.turn (l := turned l) (script (turned l) a b)))

/-- Greater costs, by at most 3. -/
structure More (l e : Sl) : Prop where
  swap : l.1 ≤ e.1 ∧ e.1 ≤ l.1 + 3
  drop : l.2.1 ≤ e.2.1 ∧ e.2.1 ≤ l.2.1 + 3
  add : l.2.2.1 ≤ e.2.2.1 ∧ e.2.2.1 ≤ l.2.2.1 + 3
  put : ∀ x y, putB l x y ≤ putB e x y ∧ putB e x y ≤ putB l x y + 3
theorem Script.less {l e : Sl} (hm : More l e) {a b : List UInt8} {c : Int} (h : Script e a b c) : dist l a b ≤ c := by
  suffices ∃ d, d ≤ c ∧ Script l a b d from by
    obtain ⟨d, h1, h2⟩ := this
    exact Int.le_trans (dist_le h2) h1
  obtain ⟨h1, h2, h3, h4⟩ := hm
  induction h with
  | nil => exact ⟨0, Int.le_refl _, .nil⟩
  | drop x _ ih => obtain ⟨d, e1, e2⟩ := ih; exact ⟨_, by omega, .drop x e2⟩
  | add y _ ih => obtain ⟨d, e1, e2⟩ := ih; exact ⟨_, by omega, .add y e2⟩
  | put x y _ ih => obtain ⟨d, e1, e2⟩ := ih; have := h4 x y; exact ⟨_, by omega, .put x y e2⟩
  | swap x y h _ ih => obtain ⟨d, e1, e2⟩ := ih; exact ⟨_, by omega, .swap x y h e2⟩
theorem Script.greater {l e : Sl} (hm : More l e) {a b : List UInt8} {c : Int} (h : Script l a b c) : dist e a b ≤ c + 3 * (a.length + b.length) := by
  suffices ∃ d, d ≤ c + 3 * (a.length + b.length : Nat) ∧ Script e a b d from by
    obtain ⟨d, h1, h2⟩ := this
    have := dist_le h2
    omega
  obtain ⟨h1, h2, h3, h4⟩ := hm
  induction h with
  | nil => exact ⟨0, by simp, .nil⟩
  | drop x _ ih => obtain ⟨d, e1, e2⟩ := ih; exact ⟨_, by simp only [List.length_cons]; omega, .drop x e2⟩
  | add y _ ih => obtain ⟨d, e1, e2⟩ := ih; exact ⟨_, by simp only [List.length_cons]; omega, .add y e2⟩
  | put x y _ ih => obtain ⟨d, e1, e2⟩ := ih; have := h4 x y; exact ⟨_, by simp only [List.length_cons]; omega, .put x y e2⟩
  | swap x y h _ ih => obtain ⟨d, e1, e2⟩ := ih; exact ⟨_, by simp only [List.length_cons]; omega, .swap x y h e2⟩
theorem distT_more {l e : Sl} (hm : More l e) (a b : List UInt8) : distT l a b ≤ distT e a b ∧ distT e a b ≤ distT l a b + 3 * (a.length + b.length) := by
  rw [distT_dist, distT_dist]
  have h1 := Script.less hm (script e b a)
  have h2 := Script.greater hm (script l b a)
  exact ⟨h1, by omega⟩
theorem putFold_more (al : List Al) (q : Al → Bool) : ∀ (c d : Int), c ≤ d → d ≤ c + 3 →
    al.foldl (fun c x => if q x then min c x.2.2 else c) c ≤ al.foldl (fun c x => if q x then min c x.2.2 else c) d ∧
    al.foldl (fun c x => if q x then min c x.2.2 else c) d ≤ al.foldl (fun c x => if q x then min c x.2.2 else c) c + 3 := by
  induction al with
  | nil => intro c d h1 h2; exact ⟨h1, h2⟩
  | cons e al ih =>
    intro c d h1 h2
    rw [List.foldl_cons, List.foldl_cons]
    refine ih _ _ ?_ ?_ <;> split <;> omega
theorem more_of (l : Sl) (m : Int × Int × Int × Int) (h1 : 0 ≤ m.1 ∧ m.1 ≤ 3) (h2 : 0 ≤ m.2.1 ∧ m.2.1 ≤ 3) (h3 : 0 ≤ m.2.2.1 ∧ m.2.2.1 ≤ 3) (h4 : 0 ≤ m.2.2.2 ∧ m.2.2.2 ≤ 3) :
    More l (l.1 + m.1, l.2.1 + m.2.1, l.2.2.1 + m.2.2.1, l.2.2.2.1 + m.2.2.2, l.2.2.2.2) := by
  refine ⟨⟨?_, ?_⟩, ⟨?_, ?_⟩, ⟨?_, ?_⟩, fun x y => ?_⟩ <;> try (dsimp only; omega)
  unfold putB
  rw [putD_eq, putD_eq]
  split
  · omega
  · exact putFold_more _ _ _ _ (by dsimp only; omega) (by dsimp only; omega)

def dbl (y : Al) : Al := (y.1, y.2.1, 2 * y.2.2)
def twice (l : Sl) : Sl := (2 * l.1, 2 * l.2.1, 2 * l.2.2.1, 2 * l.2.2.2.1, l.2.2.2.2.map dbl)
theorem putFold_twice (al : List Al) (q : Int → Int → Bool) : ∀ (c : Int),
    (al.map dbl).foldl (fun c x => if q x.1 x.2.1 then min c x.2.2 else c) (2 * c) = 2 * al.foldl (fun c x => if q x.1 x.2.1 then min c x.2.2 else c) c := by
  induction al with
  | nil => intro c; rfl
  | cons e al ih =>
    intro c
    rw [List.map_cons, List.foldl_cons, List.foldl_cons, ← ih]
    congr 1
    show (if q e.1 e.2.1 then min (2 * c) (2 * e.2.2) else 2 * c) = 2 * (if q e.1 e.2.1 then min c e.2.2 else c)
    split <;> omega
theorem putB_twice (l : Sl) (x y : UInt8) : putB (twice l) x y = 2 * putB l x y := by
  unfold putB
  rw [putD_eq, putD_eq]
  split
  · rfl
  · exact putFold_twice l.2.2.2.2 (fun a b => decide ((min a b, max a b) = (min (x.toNat : Int) y.toNat, max (x.toNat : Int) y.toNat))) l.2.2.2.1
theorem Script.dbl {l : Sl} {a b : List UInt8} {c : Int} (h : Script l a b c) : Script (twice l) a b (2 * c) := by
  induction h with
  | nil => exact .nil
  | drop x _ ih => exact (Script.drop x ih).cast (by show _ + 2 * l.2.1 = _; omega)
  | add y _ ih => exact (Script.add y ih).cast (by show _ + 2 * l.2.2.1 = _; omega)
  | put x y _ ih => exact (Script.put x y ih).cast (by rw [putB_twice]; omega)
  | swap x y h _ ih => exact (Script.swap x y h ih).cast (by show _ + 2 * l.1 = _; omega)
theorem Script.half {l : Sl} {a b : List UInt8} {c : Int} (h : Script (twice l) a b c) : 2 * dist l a b ≤ c := by
  suffices ∃ d, c = 2 * d ∧ Script l a b d from by
    obtain ⟨d, h1, h2⟩ := this
    have := dist_le h2
    omega
  induction h with
  | nil => exact ⟨0, rfl, .nil⟩
  | drop x _ ih => obtain ⟨d, e1, e2⟩ := ih; exact ⟨_, by show _ + 2 * l.2.1 = _; omega, .drop x e2⟩
  | add y _ ih => obtain ⟨d, e1, e2⟩ := ih; exact ⟨_, by show _ + 2 * l.2.2.1 = _; omega, .add y e2⟩
  | put x y _ ih => obtain ⟨d, e1, e2⟩ := ih; exact ⟨_, by rw [putB_twice]; omega, .put x y e2⟩
  | swap x y h _ ih => obtain ⟨d, e1, e2⟩ := ih; exact ⟨_, by show _ + 2 * l.1 = _; omega, .swap x y h e2⟩
theorem distT_twice (l : Sl) (a b : List UInt8) : distT (twice l) a b = 2 * distT l a b := by
  rw [distT_dist, distT_dist]
  have h1 := dist_le (script l b a).dbl
  have h2 := Script.half (script (twice l) b a)
  omega
theorem distT_bound {l : Sl} (h : mild l) (t m : List UInt8) (ht : t.length ≤ 12) (hm : m.length ≤ 12) : 0 ≤ distT l t m ∧ distT l t m ≤ 1000000 := by
  have := dist_fine h.fine _ m.reverse t.reverse (Nat.le_refl _)
  rw [List.length_reverse, List.length_reverse] at this
  unfold distT
  omega
end Go.Proofs.Ytahajkiadfgpbaa
namespace Go.Proofs.Ytahajkiadfgpbaa
set_option maxHeartbeats 4000000

section
variable {α : Type} {lt : α → α → Bool}
theorem insR_mem (x : α) : ∀ (r : List α) (y : α), y ∈ insR lt r x ↔ y = x ∨ y ∈ r := by
  intro r
  induction r with
  | nil => intro y; simp [insR]
  | cons z r ih =>
    intro y
    unfold insR
    split
    · rw [List.mem_cons, ih, List.mem_cons]
      constructor
      · rintro (h | h | h)
        · exact Or.inr (Or.inl h)
        · exact Or.inl h
        · exact Or.inr (Or.inr h)
      · rintro (h | h | h)
        · exact Or.inr (Or.inl h)
        · exact Or.inl h
        · exact Or.inr (Or.inr h)
    · rw [List.mem_cons]
theorem insR_sorted (tr : ∀ a b c : α, lt a b = true → lt b c = true → lt a c = true) (x : α) : ∀ r : List α, r.Pairwise (fun a b => lt b a = true) → (∀ y, y ∈ r → lt x y = true ∨ lt y x = true) → (insR lt r x).Pairwise (fun a b => lt b a = true) := by
  intro r
  induction r with
  | nil => intro _ _; simp [insR]
  | cons z r ih =>
    intro hp hx
    rw [List.pairwise_cons] at hp
    unfold insR
    split
    · rename_i h
      rw [List.pairwise_cons]
      refine ⟨fun b hb => ?_, ih hp.2 fun y hy => hx y (List.mem_cons_of_mem _ hy)⟩
      rcases (insR_mem x r b).mp hb with rfl | hb
      · exact h
      · exact hp.1 b hb
    · rename_i h
      have hz : lt z x = true := (hx z (List.mem_cons_self ..)).resolve_left h
      rw [List.pairwise_cons]
      refine ⟨fun b hb => ?_, List.pairwise_cons.mpr hp⟩
      rcases List.mem_cons.mp hb with rfl | hb
      · exact hz
      · exact tr _ _ _ (hp.1 b hb) hz
theorem foldl_insR_mem : ∀ (xs r : List α) (y : α), y ∈ xs.foldl (insR lt) r ↔ y ∈ r ∨ y ∈ xs := by
  intro xs
  induction xs with
  | nil => intro r y; simp
  | cons x xs ih =>
    intro r y
    rw [List.foldl_cons, ih, insR_mem, List.mem_cons]
    constructor
    · rintro ((h | h) | h)
      · exact Or.inr (Or.inl h)
      · exact Or.inl h
      · exact Or.inr (Or.inr h)
    · rintro (h | h | h)
      · exact Or.inl (Or.inr h)
      · exact Or.inl (Or.inl h)
      · exact Or.inr h
theorem foldl_insR_sorted (tr : ∀ a b c : α, lt a b = true → lt b c = true → lt a c = true) : ∀ (xs r : List α), r.Pairwise (fun a b => lt b a = true) → (∀ x, x ∈ xs → ∀ y, y ∈ r → lt x y = true ∨ lt y x = true) →
    xs.Pairwise (fun a b => lt a b = true ∨ lt b a = true) → (xs.foldl (insR lt) r).Pairwise (fun a b => lt b a = true) := by
  intro xs
  induction xs with
  | nil => intro r h _ _; exact h
  | cons x xs ih =>
    intro r h h1 h2
    rw [List.pairwise_cons] at h2
    rw [List.foldl_cons]
    refine ih _ (insR_sorted tr x r h fun y hy => h1 x (List.mem_cons_self ..) y hy) (fun z hz y hy => ?_) h2.2
    rcases (insR_mem x r y).mp hy with rfl | hy
    · exact (h2.1 z hz).symm
    · exact h1 z (List.mem_cons_of_mem _ hz) y hy
theorem isort_mem (xs : List α) (y : α) : y ∈ isort lt xs ↔ y ∈ xs := by
  unfold isort
  rw [List.mem_reverse, foldl_insR_mem]
  simp
theorem isort_length (xs : List α) : (isort lt xs).length = xs.length := by
  unfold isort
  rw [List.length_reverse, foldl_insR_length]
  simp
theorem isort_sorted (tr : ∀ a b c : α, lt a b = true → lt b c = true → lt a c = true) (xs : List α) (h : xs.Pairwise (fun a b => lt a b = true ∨ lt b a = true)) : (isort lt xs).Pairwise (fun a b => lt a b = true) := by
  unfold isort
  rw [List.pairwise_reverse]
  exact foldl_insR_sorted tr xs [] List.Pairwise.nil (fun _ _ _ h => by cases h) h
end

theorem ltF_iff (x y : Fd) : ltF x y = true ↔ x.2 < y.2 ∨ (x.2 = y.2 ∧ x.1 < y.1) := by
  unfold ltF cmpF cmpI
  rw [decide_eq_true_eq]
  constructor
  · intro h
    by_cases h1 : x.2 < y.2
    · exact Or.inl h1
    · by_cases h2 : y.2 < x.2
      · simp [h1, h2] at h
      · simp only [h1, h2, if_false, ne_eq, not_true_eq_false] at h
        refine Or.inr ⟨by omega, ?_⟩
        by_cases h3 : x.1 < y.1
        · exact h3
        · by_cases h4 : y.1 < x.1 <;> simp [h3, h4] at h
  · rintro (h | ⟨h, h'⟩)
    · simp [h]
    · simp [h, h']
theorem ltF_trans (a b c : Fd) (h : ltF a b = true) (h' : ltF b c = true) : ltF a c = true := by
  rw [ltF_iff] at *
  omega
theorem wordsB_len (l : List (List Int)) (n : Nat) : (wordsB l n).length ≤ n := by
  unfold wordsB
  simp
  omega
theorem wordsB_each (l : List (List Int)) (n : Nat) (y : List UInt8) (h : y ∈ wordsB l n) : y.length ≤ 5 := by
  unfold wordsB at h
  obtain ⟨z, _, rfl⟩ := List.mem_map.mp h
  exact textB_len z 5
theorem nearL_mem {l : Sl} {t : List UInt8} {ws : List (List UInt8)} {most : Int} {i : Nat} {f : Fd} (h : f ∈ nearL l t ws most i) : ∃ (k : Nat) (w : List UInt8), k < i ∧ ws[k]? = some w ∧ f = ((k : Int), distT l t w) ∧ distT l t w ≤ most := by
  unfold nearL at h
  rw [List.mem_filterMap] at h
  obtain ⟨k, hk, h⟩ := h
  unfold nearAt at h
  split at h
  · rename_i w hw
    split at h
    · rename_i hd
      injection h with h
      exact ⟨k, w, List.mem_range.mp hk, hw, h.symm, hd⟩
    · cases h
  · cases h
theorem nearL_pair (l : Sl) (t : List UInt8) (ws : List (List UInt8)) (most : Int) (i : Nat) : (nearL l t ws most i).Pairwise (fun a b => ltF a b = true ∨ ltF b a = true) := by
  induction i with
  | zero => exact List.Pairwise.nil
  | succ i ih =>
    rw [nearL_succ, List.pairwise_append]
    refine ⟨ih, ?_, fun a ha b hb => ?_⟩
    · cases nearAt l t ws most i <;> simp
    · obtain ⟨k, w, h1, _, rfl, _⟩ := nearL_mem ha
      have : b.1 = (i : Int) := by
        unfold nearAt at hb
        split at hb
        · split at hb
          · simp at hb
            rw [hb]
          · simp at hb
        · simp at hb
      rw [ltF_iff, ltF_iff]
      dsimp only
      omega
theorem nearS_sorted (l : Sl) (t : List UInt8) (ws : List (List UInt8)) (most : Int) : (nearS l t ws most).Pairwise (fun a b => ltF a b = true) := isort_sorted ltF_trans _ (nearL_pair l t ws most _)
theorem nearS_mem {l : Sl} {t : List UInt8} {ws : List (List UInt8)} {most : Int} {f : Fd} (h : f ∈ nearS l t ws most) : ∃ (k : Nat) (w : List UInt8), ws[k]? = some w ∧ f = ((k : Int), distT l t w) ∧ distT l t w ≤ most := by
  obtain ⟨k, w, _, h1, h2, h3⟩ := nearL_mem ((isort_mem _ _).mp h)
  exact ⟨k, w, h1, h2, h3⟩
end Go.Proofs.Ytahajkiadfgpbaa
namespace Go.Proofs.Ytahajkiadfgpbaa
set_option maxHeartbeats 4000000
set_option maxRecDepth 100000

theorem c_WordsLaw (x : RawD) (w : List Int) (l : List (List Int)) : PC env 10 [⟨RawT, x⟩, ⟨.sl (.int .u8), w⟩, ⟨.sl (.sl (.int .u8)), l⟩] .bool true := by
  refine PC.of_PW (m := 2000) env_ok fn_10 rfl rfl rfl rfl (by kernel_rfl) ?_; intro hx; simp only [Try.f10]; simp only [PQ_need, PQ_exi, PQ_call, PQ_val, PQ_new, PQ_store, PQ_append, PQ_sealed, PQ_hcall, PO_nil, PO_none, PO_some, PH_some, PK_tt, PK_ff, PK_tf, PK_ft, PK_undef, PK_dec_t, PK_dec_f, PB_t, PB_f, PB_dec, PB_ndec, PK_ndec_t, PK_ndec_f, PX_some, PW_nil, PW_blk, PW_inLoop, PW_skip, PW_seq, PW_reg, PW_draw, PW_cond, PW_block, PW_loop, PW_exit, PW_ret, entrySl, entryPV, ivs, argPV, capsOf, List.toList_toArray, forb, madeD, made, madeAt, step1, before, nthL, without, bindsAny, guardDst, nthO, stepF, St.ev, St.get, St.set, St.put, look, mem1, lk, nbeq, nble, nblt, Nat.reduceBEq, cval, kindEq, binO, isShift, binInt, shiftInt, binStr, binEq, negIf, canEq, dep, beqD, boolV, arith, pickO, exitW, HQ, hOK, keepB, newB, flatP, nilB, beq_self_eq_true, St.hret, deadIds, renBl, back_0, back_1, back_2, back_small, retP, retV, rvals, onePV, leBl, leB, leCells, innBl, blkIn, expR, expT, expAll, exp, pk, withR, fstOf, asLit, asSl, asMp, asFnv, asOwn, boxAt, Ty.eq, Ty.cast, evAll, evParts, lenO, intV, appendO, cut, inCut, cutLo, cutHi, sliceO, bound, indexO, loadO, lenEq, storeO, fillO, buildO, elemsO, nthPV, extractD, extractO, callO, hcallO, hcall1, hArgs, hArg, cloO, lastN, chainT, nodupB, innIds, reach, blkIds, passed, fwd, idxOf, PV.ids, PV.idsL, PV.inn, PV.innL, PV.ren, PV.renL, convO, minMax, fieldOff, fieldTy, offOf, fldTy, elemTy, chainLen, arrLen, join, part, widens, cellsOf, Ty.val, PV.cells, aggCells, zeroCells, zeroDen, Ty.cells, Ty.flat, Ty.ok, owns, PV.arrs, PV.arrsL, PV.refs, PV.refsL, PV.kill, PV.killL, PV.sealw, PV.sealL, mapSl, Blk.map, mapBl, dropBl, St.kill, St.sealw, keys, oks, okPs, okP, P0, List.map, List.take, List.drop, List.headD, List.append, List.length, List.cons_append, List.nil_append, Option.bind, cond_true, cond_false, ↓reduceIte, ↓reduceDIte, Bool.not_true, Bool.not_false, Bool.and_true, Bool.true_and, Bool.and_false, Bool.false_and, Bool.false_or, Bool.or_false, Bool.true_or, Bool.or_true, true_implies, Option.some.injEq, decide_true, decide_false, decide_eq_true_eq, decide_eq_false_iff_not, Nat.add_zero, Nat.zero_add, Nat.reduceAdd, Nat.reduceSub, Nat.reduceMul, Nat.reduceLeDiff, Int.toNat_natCast, Nat.lt_irrefl, and_true, true_and, or_false, or_true, true_or, false_or, ← Bool.decide_and, ← Bool.decide_or, ← decide_not, Decidable.not_not, min_i8, max_i8, min_i16, max_i16, min_i32, max_i32, min_i64, max_i64, min_u8, max_u8, min_u16, max_u16, min_u32, max_u32, min_u64, max_u64, Int.reduceLT, Int.reduceLE, Int.cast_ofNat_Int, Int.reduceToNat, Int.toNat_zero, Int.toNat_one, Int.le_refl, and_self, Int.reduceNeg, e_ty1, e_ty2, e_ty3, e_ty4, e_ty5, e_ty6, e_ty7, e_ty8, e_ty9, e_ty10, e_ty11, e_ty12, e_ty13, e_ty14, e_ty21, e_ty22, e_ty23, e_ty24, e_ty25, e_ty26, e_ty27, e_ty28, e_ty29, e_ty30, e_ty31, e_ty32, e_ty33, e_ty34, e_ty35, e_ty36, e_ty37, e_ty38, e_ty39, e_ty40, e_ty41, e_ty42, e_ty43, e_ty44, e_ty45, e_ty46, e_ty47, e_ty48, e_ty49, e_ty50, e_ty51, e_ty52, e_ty53, e_ty54, e_ty55, e_ty56, e_ty57, e_ty58, e_ty59, e_ty60, e_ty61, e_ty62, e_ty63, e_ty64, e_ty65, e_ty66, e_ty67, e_ty68, e_ty69, e_ty70, e_ty71, e_ty72, e_ty73, e_ty74, e_ty75, e_ty76, e_ty77, e_ty79, e_ty80, e_ty81, e_ty83, e_ty84, e_ty85, e_ty86, e_ty87, e_ty88, e_ty89, e_ty90, e_ty91, e_ty93, e_ty96, e_ty97, e_ty103, e_ty104, e_ty105, e_ty106, e_ty108, e_ty109, e_str7, e_str8, e_str13, e_str14, e_str24, e_str25, e_str31, e_str32, e_str45, e_str46, e_str56, e_str57, e_str22, e_str27, e_str43, e_str50, e_str52, e_str59, e_str63, e_cmp7, e_cmp8, e_cmp22, e_cmp43, e_cmp45, e_cmp46, e_cmp50, e_cmp56, e_cmp57, e_cmp59, e_fn2, e_fn3, e_fn4, e_fn5, e_fn6, e_fn7, e_fn8, e_fn9, e_fn10, e_fn11, e_fn12, e_fn13, e_fn14, e_fn15, e_fn16, e_fn17, e_fn18, e_fn19, e_fn20, e_fn21, e_fn22, e_fn24, e_fn27, e_fn28, e_fn29, e_fn30, e_fn31, e_fn32, e_fn33, e_fn36, e_fn37, e_fn46, e_fn47, e_fn49, e_fn23, e_fn26, e_fn34, e_fn25, e_hfn25, e_fn35, e_hfn35, e_fn38, e_hfn38]
  have hm := mild_made x
  have ha := textB_len w 8
  have hw := wordsB_len l 12
  have hw5 := wordsB_each l 12
  have hx0 := u8_of hx.1.1.2.1
  refine ⟨_, c_sanity, _, c_Made x, fun _ => ⟨_, c_Text w 8 (by omega), fun _ => ⟨_, c_Words l 12 (by omega), fun _ => ⟨hx0.1, ?_⟩⟩⟩⟩
  generalize textB w 8 = a at *
  generalize wordsB l 12 = ws at *
  generalize x.1.2.1 / 8 = most at *
  have dd := fun (v : List UInt8) (hv : v ∈ ws) => c_Dist (madeS x) a v hm.fine (by omega) (by have := hw5 v hv; omega)
  have hnl : (nearS (madeS x) a ws most).length = (nearL (madeS x) a ws most ws.length).length := isort_length _
  have hnl2 := nearL_length (madeS x) a ws most ws.length
  refine ⟨_, c_Nearest (madeS x) a ws most hm.fine (by omega) (fun v hv => by have := hw5 v hv; omega) hw, fun _ => ⟨fun h => absurd h (by dsimp only [Ty.den] at *; omega), fun _ => ?_⟩⟩
  generalize hnear : nearS (madeS x) a ws most = near at *
  refine Walks.loopW (X := Nat) (fun k => ⟨[(14, .iv (.int .i64) (k : Int)), (13, .iv (.int .i64) ((nearL (madeS x) a ws most k).length : Int)), (7, .iv .bool true), (8, .ref 8 0), (9, .iv .str a), (10, .iv (.sl .str) ws), (11, .iv (.int .i64) most), (12, .iv (.sl FoundT) near)], [(8, .box (slCells (madeS x)))]⟩)
    (fun k => k ≤ ws.length) (fun k => ws.length - k) 0 ?_ (Nat.zero_le _) ?_
  · exact ⟨⟨Or.inl rfl, Or.inl rfl, Or.inl rfl, Or.inl rfl, Or.inl rfl, Or.inl rfl, Or.inl rfl, Or.inl rfl, trivial⟩, ⟨⟨Or.inl rfl, Or.inl rfl, Or.inl rfl, Or.inl rfl, Or.inl rfl, trivial⟩, trivial⟩, rfl, rfl⟩
  intro k hk back
  refine PW_sound env_ok ⟨_, fn_10, rfl⟩ 2000 _ _ (by kernel_rfl) ?_; simp only [PQ_need, PQ_exi, PQ_call, PQ_val, PQ_new, PQ_store, PQ_append, PQ_sealed, PQ_hcall, PO_nil, PO_none, PO_some, PH_some, PK_tt, PK_ff, PK_tf, PK_ft, PK_undef, PK_dec_t, PK_dec_f, PB_t, PB_f, PB_dec, PB_ndec, PK_ndec_t, PK_ndec_f, PX_some, PW_nil, PW_blk, PW_inLoop, PW_skip, PW_seq, PW_reg, PW_draw, PW_cond, PW_block, PW_loop, PW_exit, PW_ret, entrySl, entryPV, ivs, argPV, capsOf, List.toList_toArray, forb, madeD, made, madeAt, step1, before, nthL, without, bindsAny, guardDst, nthO, stepF, St.ev, St.get, St.set, St.put, look, mem1, lk, nbeq, nble, nblt, Nat.reduceBEq, cval, kindEq, binO, isShift, binInt, shiftInt, binStr, binEq, negIf, canEq, dep, beqD, boolV, arith, pickO, exitW, HQ, hOK, keepB, newB, flatP, nilB, beq_self_eq_true, St.hret, deadIds, renBl, back_0, back_1, back_2, back_small, retP, retV, rvals, onePV, leBl, leB, leCells, innBl, blkIn, expR, expT, expAll, exp, pk, withR, fstOf, asLit, asSl, asMp, asFnv, asOwn, boxAt, Ty.eq, Ty.cast, evAll, evParts, lenO, intV, appendO, cut, inCut, cutLo, cutHi, sliceO, bound, indexO, loadO, lenEq, storeO, fillO, buildO, elemsO, nthPV, extractD, extractO, callO, hcallO, hcall1, hArgs, hArg, cloO, lastN, chainT, nodupB, innIds, reach, blkIds, passed, fwd, idxOf, PV.ids, PV.idsL, PV.inn, PV.innL, PV.ren, PV.renL, convO, minMax, fieldOff, fieldTy, offOf, fldTy, elemTy, chainLen, arrLen, join, part, widens, cellsOf, Ty.val, PV.cells, aggCells, zeroCells, zeroDen, Ty.cells, Ty.flat, Ty.ok, owns, PV.arrs, PV.arrsL, PV.refs, PV.refsL, PV.kill, PV.killL, PV.sealw, PV.sealL, mapSl, Blk.map, mapBl, dropBl, St.kill, St.sealw, keys, oks, okPs, okP, P0, List.map, List.take, List.drop, List.headD, List.append, List.length, List.cons_append, List.nil_append, Option.bind, cond_true, cond_false, ↓reduceIte, ↓reduceDIte, Bool.not_true, Bool.not_false, Bool.and_true, Bool.true_and, Bool.and_false, Bool.false_and, Bool.false_or, Bool.or_false, Bool.true_or, Bool.or_true, true_implies, Option.some.injEq, decide_true, decide_false, decide_eq_true_eq, decide_eq_false_iff_not, Nat.add_zero, Nat.zero_add, Nat.reduceAdd, Nat.reduceSub, Nat.reduceMul, Nat.reduceLeDiff, Int.toNat_natCast, Nat.lt_irrefl, and_true, true_and, or_false, or_true, true_or, false_or, ← Bool.decide_and, ← Bool.decide_or, ← decide_not, Decidable.not_not, min_i8, max_i8, min_i16, max_i16, min_i32, max_i32, min_i64, max_i64, min_u8, max_u8, min_u16, max_u16, min_u32, max_u32, min_u64, max_u64, Int.reduceLT, Int.reduceLE, Int.cast_ofNat_Int, Int.reduceToNat, Int.toNat_zero, Int.toNat_one, Int.le_refl, and_self, Int.reduceNeg, e_ty1, e_ty2, e_ty3, e_ty4, e_ty5, e_ty6, e_ty7, e_ty8, e_ty9, e_ty10, e_ty11, e_ty12, e_ty13, e_ty14, e_ty21, e_ty22, e_ty23, e_ty24, e_ty25, e_ty26, e_ty27, e_ty28, e_ty29, e_ty30, e_ty31, e_ty32, e_ty33, e_ty34, e_ty35, e_ty36, e_ty37, e_ty38, e_ty39, e_ty40, e_ty41, e_ty42, e_ty43, e_ty44, e_ty45, e_ty46, e_ty47, e_ty48, e_ty49, e_ty50, e_ty51, e_ty52, e_ty53, e_ty54, e_ty55, e_ty56, e_ty57, e_ty58, e_ty59, e_ty60, e_ty61, e_ty62, e_ty63, e_ty64, e_ty65, e_ty66, e_ty67, e_ty68, e_ty69, e_ty70, e_ty71, e_ty72, e_ty73, e_ty74, e_ty75, e_ty76, e_ty77, e_ty79, e_ty80, e_ty81, e_ty83, e_ty84, e_ty85, e_ty86, e_ty87, e_ty88, e_ty89, e_ty90, e_ty91, e_ty93, e_ty96, e_ty97, e_ty103, e_ty104, e_ty105, e_ty106, e_ty108, e_ty109, e_str7, e_str8, e_str13, e_str14, e_str24, e_str25, e_str31, e_str32, e_str45, e_str46, e_str56, e_str57, e_str22, e_str27, e_str43, e_str50, e_str52, e_str59, e_str63, e_cmp7, e_cmp8, e_cmp22, e_cmp43, e_cmp45, e_cmp46, e_cmp50, e_cmp56, e_cmp57, e_cmp59, e_fn2, e_fn3, e_fn4, e_fn5, e_fn6, e_fn7, e_fn8, e_fn9, e_fn10, e_fn11, e_fn12, e_fn13, e_fn14, e_fn15, e_fn16, e_fn17, e_fn18, e_fn19, e_fn20, e_fn21, e_fn22, e_fn24, e_fn27, e_fn28, e_fn29, e_fn30, e_fn31, e_fn32, e_fn33, e_fn36, e_fn37, e_fn46, e_fn47, e_fn49, e_fn23, e_fn26, e_fn34, e_fn25, e_hfn25, e_fn35, e_hfn35, e_fn38, e_hfn38]
  have hnk := nearL_length (madeS x) a ws most k
  refine ⟨fun g => ?_, fun g => ?_⟩
  · obtain ⟨v, hv⟩ := get_of_lt (xs := ws) (i := k) (by omega)
    refine ⟨by omega, v, hv, _, dd v (List.mem_of_getElem? hv), fun _ => ⟨fun c => ?_, fun c => ?_⟩⟩
    · have e : nearAt (madeS x) a ws most k = some ((k : Int), distT (madeS x) a v) := by
        unfold nearAt
        rw [hv]
        exact if_pos c
      refine ⟨by omega, by omega, ?_⟩
      refine back _ (k + 1) ?_ (by omega) (by omega)
      refine ⟨⟨Or.inl rfl, Or.inl ?_, Or.inl rfl, Or.inl rfl, Or.inl rfl, Or.inl rfl, Or.inl rfl, Or.inl rfl, trivial⟩, ⟨⟨Or.inl rfl, Or.inl rfl, Or.inl rfl, Or.inl rfl, Or.inl rfl, trivial⟩, trivial⟩, rfl, rfl⟩
      refine congrArg (PV.iv (.int .i64)) ?_
      rw [nearL_succ, e, List.length_append]
      rfl
    · have e : nearAt (madeS x) a ws most k = none := by
        unfold nearAt
        rw [hv]
        exact if_neg c
      refine ⟨by omega, ?_⟩
      refine back _ (k + 1) ?_ (by omega) (by omega)
      refine ⟨⟨Or.inl rfl, Or.inl ?_, Or.inl rfl, Or.inl rfl, Or.inl rfl, Or.inl rfl, Or.inl rfl, Or.inl rfl, trivial⟩, ⟨⟨Or.inl rfl, Or.inl rfl, Or.inl rfl, Or.inl rfl, Or.inl rfl, trivial⟩, trivial⟩, rfl, rfl⟩
      refine congrArg (PV.iv (.int .i64)) ?_
      rw [nearL_succ, e, List.length_append]
      rfl
  have hkw : k = ws.length := by omega
  subst hkw
  rw [← hnl]
  clear back
  have hs : near.Pairwise (fun u v => ltF u v = true) := by rw [← hnear]; exact nearS_sorted _ _ _ _
  have hmem : ∀ f, f ∈ near → ∃ (k : Nat) (v : List UInt8), ws[k]? = some v ∧ f = ((k : Int), distT (madeS x) a v) ∧ distT (madeS x) a v ≤ most := by
    intro f hf
    rw [← hnear] at hf
    exact nearS_mem hf
  refine Walks.loopW (X := Nat) (fun k => ⟨[(15, .iv (.int .i64) (k : Int)), (13, .iv (.int .i64) (near.length : Int)), (7, .iv .bool true), (8, .ref 8 0), (9, .iv .str a), (10, .iv (.sl .str) ws), (11, .iv (.int .i64) most), (12, .iv (.sl FoundT) near)], [(8, .box (slCells (madeS x)))]⟩)
    (fun k => k ≤ near.length) (fun k => near.length - k) 0 ?_ (Nat.zero_le _) ?_
  · exact ⟨⟨Or.inl rfl, Or.inl rfl, Or.inl rfl, Or.inl rfl, Or.inl rfl, Or.inl rfl, Or.inl rfl, Or.inl rfl, trivial⟩, ⟨⟨Or.inl rfl, Or.inl rfl, Or.inl rfl, Or.inl rfl, Or.inl rfl, trivial⟩, trivial⟩, rfl, rfl⟩
  intro k hk back
  refine PW_sound env_ok ⟨_, fn_10, rfl⟩ 2000 _ _ (by kernel_rfl) ?_; simp only [PQ_need, PQ_exi, PQ_call, PQ_val, PQ_new, PQ_store, PQ_append, PQ_sealed, PQ_hcall, PO_nil, PO_none, PO_some, PH_some, PK_tt, PK_ff, PK_tf, PK_ft, PK_undef, PK_dec_t, PK_dec_f, PB_t, PB_f, PB_dec, PB_ndec, PK_ndec_t, PK_ndec_f, PX_some, PW_nil, PW_blk, PW_inLoop, PW_skip, PW_seq, PW_reg, PW_draw, PW_cond, PW_block, PW_loop, PW_exit, PW_ret, entrySl, entryPV, ivs, argPV, capsOf, List.toList_toArray, forb, madeD, made, madeAt, step1, before, nthL, without, bindsAny, guardDst, nthO, stepF, St.ev, St.get, St.set, St.put, look, mem1, lk, nbeq, nble, nblt, Nat.reduceBEq, cval, kindEq, binO, isShift, binInt, shiftInt, binStr, binEq, negIf, canEq, dep, beqD, boolV, arith, pickO, exitW, HQ, hOK, keepB, newB, flatP, nilB, beq_self_eq_true, St.hret, deadIds, renBl, back_0, back_1, back_2, back_small, retP, retV, rvals, onePV, leBl, leB, leCells, innBl, blkIn, expR, expT, expAll, exp, pk, withR, fstOf, asLit, asSl, asMp, asFnv, asOwn, boxAt, Ty.eq, Ty.cast, evAll, evParts, lenO, intV, appendO, cut, inCut, cutLo, cutHi, sliceO, bound, indexO, loadO, lenEq, storeO, fillO, buildO, elemsO, nthPV, extractD, extractO, callO, hcallO, hcall1, hArgs, hArg, cloO, lastN, chainT, nodupB, innIds, reach, blkIds, passed, fwd, idxOf, PV.ids, PV.idsL, PV.inn, PV.innL, PV.ren, PV.renL, convO, minMax, fieldOff, fieldTy, offOf, fldTy, elemTy, chainLen, arrLen, join, part, widens, cellsOf, Ty.val, PV.cells, aggCells, zeroCells, zeroDen, Ty.cells, Ty.flat, Ty.ok, owns, PV.arrs, PV.arrsL, PV.refs, PV.refsL, PV.kill, PV.killL, PV.sealw, PV.sealL, mapSl, Blk.map, mapBl, dropBl, St.kill, St.sealw, keys, oks, okPs, okP, P0, List.map, List.take, List.drop, List.headD, List.append, List.length, List.cons_append, List.nil_append, Option.bind, cond_true, cond_false, ↓reduceIte, ↓reduceDIte, Bool.not_true, Bool.not_false, Bool.and_true, Bool.true_and, Bool.and_false, Bool.false_and, Bool.false_or, Bool.or_false, Bool.true_or, Bool.or_true, true_implies, Option.some.injEq, decide_true, decide_false, decide_eq_true_eq, decide_eq_false_iff_not, Nat.add_zero, Nat.zero_add, Nat.reduceAdd, Nat.reduceSub, Nat.reduceMul, Nat.reduceLeDiff, Int.toNat_natCast, Nat.lt_irrefl, and_true, true_and, or_false, or_true, true_or, false_or, ← Bool.decide_and, ← Bool.decide_or, ← decide_not, Decidable.not_not, min_i8, max_i8, min_i16, max_i16, min_i32, max_i32, min_i64, max_i64, min_u8, max_u8, min_u16, max_u16, min_u32, max_u32, min_u64, max_u64, Int.reduceLT, Int.reduceLE, Int.cast_ofNat_Int, Int.reduceToNat, Int.toNat_zero, Int.toNat_one, Int.le_refl, and_self, Int.reduceNeg, e_ty1, e_ty2, e_ty3, e_ty4, e_ty5, e_ty6, e_ty7, e_ty8, e_ty9, e_ty10, e_ty11, e_ty12, e_ty13, e_ty14, e_ty21, e_ty22, e_ty23, e_ty24, e_ty25, e_ty26, e_ty27, e_ty28, e_ty29, e_ty30, e_ty31, e_ty32, e_ty33, e_ty34, e_ty35, e_ty36, e_ty37, e_ty38, e_ty39, e_ty40, e_ty41, e_ty42, e_ty43, e_ty44, e_ty45, e_ty46, e_ty47, e_ty48, e_ty49, e_ty50, e_ty51, e_ty52, e_ty53, e_ty54, e_ty55, e_ty56, e_ty57, e_ty58, e_ty59, e_ty60, e_ty61, e_ty62, e_ty63, e_ty64, e_ty65, e_ty66, e_ty67, e_ty68, e_ty69, e_ty70, e_ty71, e_ty72, e_ty73, e_ty74, e_ty75, e_ty76, e_ty77, e_ty79, e_ty80, e_ty81, e_ty83, e_ty84, e_ty85, e_ty86, e_ty87, e_ty88, e_ty89, e_ty90, e_ty91, e_ty93, e_ty96, e_ty97, e_ty103, e_ty104, e_ty105, e_ty106, e_ty108, e_ty109, e_str7, e_str8, e_str13, e_str14, e_str24, e_str25, e_str31, e_str32, e_str45, e_str46, e_str56, e_str57, e_str22, e_str27, e_str43, e_str50, e_str52, e_str59, e_str63, e_cmp7, e_cmp8, e_cmp22, e_cmp43, e_cmp45, e_cmp46, e_cmp50, e_cmp56, e_cmp57, e_cmp59, e_fn2, e_fn3, e_fn4, e_fn5, e_fn6, e_fn7, e_fn8, e_fn9, e_fn10, e_fn11, e_fn12, e_fn13, e_fn14, e_fn15, e_fn16, e_fn17, e_fn18, e_fn19, e_fn20, e_fn21, e_fn22, e_fn24, e_fn27, e_fn28, e_fn29, e_fn30, e_fn31, e_fn32, e_fn33, e_fn36, e_fn37, e_fn46, e_fn47, e_fn49, e_fn23, e_fn26, e_fn34, e_fn25, e_hfn25, e_fn35, e_hfn35, e_fn38, e_hfn38]
  refine ⟨fun g => ?_, fun _ => trivial⟩
  obtain ⟨f, hf⟩ := get_of_lt (xs := near) (i := k) (by omega)
  obtain ⟨j, v, hv, hfe, hd⟩ := hmem f (List.mem_of_getElem? hf)
  have f1 : f.1 = (j : Int) := by rw [hfe]
  have f2 : f.2 = distT (madeS x) a v := by rw [hfe]
  have hjl : j < ws.length := (List.getElem?_eq_some_iff.mp hv).1
  have hjt : ws[Int.toNat f.1]? = some v := by rw [f1, Int.toNat_natCast]; exact hv
  dsimp only [Ty.den] at *
  refine ⟨by omega, f, hf, ⟨fun _ => ⟨fun _ => ⟨fun _ => ⟨by omega, v, hjt, _, dd v (List.mem_of_getElem? hv), fun _ => ⟨fun h => absurd f2.symm h, fun _ => ⟨fun hk0 => ?_, fun hk0 => ?_⟩⟩⟩, fun h => absurd h (by omega)⟩, fun h => absurd h (by omega)⟩, fun h => absurd h (by omega)⟩⟩
  · obtain ⟨u, hu⟩ := get_of_lt (xs := near) (i := k - 1) (by omega)
    have hu' : near[((k : Int) - 1).toNat]? = some u := by
      rw [show ((k : Int) - 1).toNat = k - 1 by omega]
      exact hu
    have hlt : ltF u f = true := by
      obtain ⟨h1, rfl⟩ := List.getElem?_eq_some_iff.mp hf
      obtain ⟨h2, rfl⟩ := List.getElem?_eq_some_iff.mp hu
      exact List.pairwise_iff_getElem.mp hs (k - 1) k h2 h1 (by omega)
    rw [ltF_iff] at hlt
    refine ⟨by omega, by omega, u, hu', fun _ => ⟨by omega, by omega, u, hu', fun he => ⟨by omega, by omega, u, hu', fun h => absurd h (by omega), fun _ => ?_⟩, fun _ => ?_⟩, fun h => absurd h (by omega)⟩
    · refine ⟨by omega, ?_⟩
      refine back _ (k + 1) ?_ (by omega) (by omega)
      exact ⟨⟨Or.inl rfl, Or.inl rfl, Or.inl rfl, Or.inl rfl, Or.inl rfl, Or.inl rfl, Or.inl rfl, Or.inl rfl, trivial⟩, ⟨⟨Or.inl rfl, Or.inl rfl, Or.inl rfl, Or.inl rfl, Or.inl rfl, trivial⟩, trivial⟩, rfl, rfl⟩
    · refine ⟨by omega, ?_⟩
      refine back _ (k + 1) ?_ (by omega) (by omega)
      exact ⟨⟨Or.inl rfl, Or.inl rfl, Or.inl rfl, Or.inl rfl, Or.inl rfl, Or.inl rfl, Or.inl rfl, Or.inl rfl, trivial⟩, ⟨⟨Or.inl rfl, Or.inl rfl, Or.inl rfl, Or.inl rfl, Or.inl rfl, trivial⟩, trivial⟩, rfl, rfl⟩
  · refine ⟨by omega, ?_⟩
    refine back _ (k + 1) ?_ (by omega) (by omega)
    exact ⟨⟨Or.inl rfl, Or.inl rfl, Or.inl rfl, Or.inl rfl, Or.inl rfl, Or.inl rfl, Or.inl rfl, Or.inl rfl, trivial⟩, ⟨⟨Or.inl rfl, Or.inl rfl, Or.inl rfl, Or.inl rfl, Or.inl rfl, trivial⟩, trivial⟩, rfl, rfl⟩
end Go.Proofs.Ytahajkiadfgpbaa
namespace Go.Proofs.Ytahajkiadfgpbaa
open Go.ChangeShapes Go.WideShapes Go.ChangeAt Go.RowKit
theorem own_none : ownKnob Try.prog.godebug = none := by kernel_rfl
theorem laid_out : laidOutB env.P = true := by kernel_rfl
theorem words_all (xs : List (Sigma Ty.den)) (h : xs.map (·.1) = [RawT, .sl (.int .u8), .sl (.sl (.int .u8))]) : PC env 10 xs .bool true := by
  match xs, h with
  | [⟨_, y0⟩, ⟨_, y1⟩, ⟨_, y2⟩], h =>
    injection h with h1 h
    injection h with h2 h
    injection h with h3 h
    dsimp only at h1 h2 h3
    subst h1 h2 h3
    exact c_WordsLaw y0 y1 y2
set_option maxRecDepth 100000 in
theorem words_lifted (os : Os) (started : os.Started) (H : Type) (enc : TypeId × Value → H) :
    ReturnsInHanded {} Try.checked os 10 .any (Rows.slipWordsSpec.pre6 enc Try.prog Try.f10 Rows.slipWordsRow.domain false) (Rows.slipWordsSpec.post enc Try.prog Try.f10 false true false false) := by
  refine returnsInHanded_of_change (C := Try.checked) own_none started (by kernel_rfl) fn_10
    (ChangeSpec.witness6 (enc := enc) (C := Try.checked) false ⟨#[], #[.agg #[.int .u8 0, .int .u8 0, .int .u8 0, .int .u8 0, .slice none 0 0], .slice none 0 0, .slice none 0 0], []⟩ 8 (by kernel_rfl) (by kernel_rfl) (by kernel_rfl) (by kernel_rfl)) ?_
  intro W base args ds gs before hval hW _ _
  refine law_calls (E := env) (b0 := base) (Ts := [RawT, .sl (.int .u8), .sl (.sl (.int .u8))]) (tb := 4) env_ok laid_out (of_decide_eq_true (by kernel_rfl)) rfl rfl rfl (by kernel_rfl) rfl ?_ words_all hval hW
  intro ds hds
  match ds, hds with
  | [d0, d1, d2], _ => rfl
theorem words_holds : Rows.SlipWordsSaid :=
  OpenClaim.holds_of_wide 10 Try.f10 rfl rfl rfl rfl rfl rfl rfl ⟨rfl, rfl, rfl, rfl, rfl⟩ rfl rfl rfl rfl rfl (by kernel_rfl) fn_10 (by kernel_rfl)
    (of_decide_eq_true (by kernel_rfl)) (by unfold Func.isWrapper; first | (rw [if_pos (by decide +kernel)]; kernel_rfl) | (rw [if_neg (by decide +kernel)]; exact ⟨rfl, rfl⟩))
    (fun os started H enc _ => words_lifted os started H enc)
end Go.Proofs.Ytahajkiadfgpbaa
