/- Made slips are mild. Nothing here is trusted; no condition. -/
import Derived.Test.YtahajkiadfgpbaaB1
set_option linter.unusedSimpArgs false
set_option linter.unusedVariables false
namespace Go.Proofs.Ytahajkiadfgpbaa
set_option maxHeartbeats 4000000

def putB (l : Sl) (x y : UInt8) : Int := putD l (x.toNat : Int) (y.toNat : Int)
/-- The distance of two texts that are read from behind. -/
def dist (l : Sl) : List UInt8 → List UInt8 → Int
  | [], [] => 0
  | [], _ :: b => dist l [] b + l.2.2.1
  | _ :: a, [] => dist l a [] + l.2.1
  | [x], y :: b => min (min (dist l [] (y :: b) + l.2.1) (dist l [x] b + l.2.2.1)) (dist l [] b + putB l x y)
  | x :: x' :: a, [y] => min (min (dist l (x' :: a) [y] + l.2.1) (dist l (x :: x' :: a) [] + l.2.2.1)) (dist l (x' :: a) [] + putB l x y)
  | x :: x' :: a, y :: y' :: b =>
    if x ≠ y ∧ x' = y ∧ y' = x then min (min (min (dist l (x' :: a) (y :: y' :: b) + l.2.1) (dist l (x :: x' :: a) (y' :: b) + l.2.2.1)) (dist l (x' :: a) (y' :: b) + putB l x y)) (dist l a b + l.1)
    else min (min (dist l (x' :: a) (y :: y' :: b) + l.2.1) (dist l (x :: x' :: a) (y' :: b) + l.2.2.1)) (dist l (x' :: a) (y' :: b) + putB l x y)
termination_by a b => a.length + b.length
decreasing_by all_goals (simp only [List.length_cons, List.length_nil]; omega)

/-- The three ways that need one byte alone. -/
def dist3 (l : Sl) (x y : UInt8) (a b : List UInt8) : Int := min (min (dist l a (y :: b) + l.2.1) (dist l (x :: a) b + l.2.2.1)) (dist l a b + putB l x y)
theorem dist_nn (l : Sl) : dist l [] [] = 0 := by rw [dist]
theorem dist_nc (l : Sl) (y : UInt8) (b : List UInt8) : dist l [] (y :: b) = dist l [] b + l.2.2.1 := by rw [dist]
theorem dist_cn (l : Sl) (x : UInt8) (a : List UInt8) : dist l (x :: a) [] = dist l a [] + l.2.1 := by rw [dist]
theorem dist_swap (l : Sl) (x y : UInt8) (a b : List UInt8) (h : x ≠ y) : dist l (x :: y :: a) (y :: x :: b) = min (dist3 l x y (y :: a) (x :: b)) (dist l a b + l.1) := by
  rw [dist, if_pos ⟨h, rfl, rfl⟩, dist3]
theorem dist_cc (l : Sl) (x y : UInt8) (a b : List UInt8) (h : ¬ (x ≠ y ∧ a.head? = some y ∧ b.head? = some x)) : dist l (x :: a) (y :: b) = dist3 l x y a b := by
  match a, b with
  | [], b => rw [dist, dist3]
  | x' :: a, [] => rw [dist, dist3]
  | x' :: a, y' :: b =>
    rw [dist, dist3, if_neg]
    intro h'
    apply h
    refine ⟨h'.1, ?_, ?_⟩
    · rw [h'.2.1]; rfl
    · rw [h'.2.2]; rfl

/-- The costs are no less than 0 and at most 1000. -/
def fine (l : Sl) : Prop := 0 ≤ l.1 ∧ l.1 ≤ 1000 ∧ 0 ≤ l.2.1 ∧ l.2.1 ≤ 1000 ∧ 0 ≤ l.2.2.1 ∧ l.2.2.1 ≤ 1000 ∧ 0 ≤ l.2.2.2.1 ∧ l.2.2.2.1 ≤ 1000 ∧ ∀ x, x ∈ l.2.2.2.2 → 0 ≤ x.2.2 ∧ x.2.2 ≤ 1000
theorem putD_fold (al : List Al) (q : Al → Bool) : ∀ (c : Int), 0 ≤ c → c ≤ 1000 → (∀ x, x ∈ al → 0 ≤ x.2.2 ∧ x.2.2 ≤ 1000) →
    0 ≤ al.foldl (fun c x => if q x then min c x.2.2 else c) c ∧ al.foldl (fun c x => if q x then min c x.2.2 else c) c ≤ 1000 := by
  induction al with
  | nil => intro c h1 h2 _; exact ⟨h1, h2⟩
  | cons e al ih =>
    intro c h1 h2 h
    rw [List.foldl_cons]
    have he := h e (List.mem_cons_self ..)
    refine ih _ ?_ ?_ (fun x hx => h x (List.mem_cons_of_mem _ hx))
    · split <;> omega
    · split <;> omega
theorem putD_eq (l : Sl) (m t : Int) : putD l m t = if m = t then 0 else l.2.2.2.2.foldl (fun c x => if decide ((min x.1 x.2.1, max x.1 x.2.1) = (min m t, max m t)) then min c x.2.2 else c) l.2.2.2.1 := by
  unfold putD
  simp only [decide_eq_true_eq]
theorem putB_fine {l : Sl} (h : fine l) (x y : UInt8) : 0 ≤ putB l x y ∧ putB l x y ≤ 1000 := by
  unfold putB
  rw [putD_eq]
  split
  · exact ⟨Int.le_refl _, by omega⟩
  · exact putD_fold _ _ _ h.2.2.2.2.2.2.1 h.2.2.2.2.2.2.2.1 h.2.2.2.2.2.2.2.2
theorem dist_fine {l : Sl} (h : fine l) : ∀ (n : Nat) (a b : List UInt8), a.length + b.length ≤ n → 0 ≤ dist l a b ∧ dist l a b ≤ 1000 * (a.length + b.length : Nat) := by
  obtain ⟨h1, h2, h3, h4, h5, h6, h7, h8, h9⟩ := h
  intro n
  induction n with
  | zero =>
    intro a b hn
    match a, b with
    | [], [] => rw [dist_nn]; simp
    | x :: a, _ => simp only [List.length_cons] at hn; omega
    | [], x :: a => simp only [List.length_cons] at hn; omega
  | succ n ih =>
    intro a b hn
    match a, b with
    | [], [] => rw [dist_nn]; simp
    | [], y :: b =>
      simp only [List.length_cons, List.length_nil] at hn ⊢
      have := ih [] b (by simp only [List.length_nil]; omega)
      simp only [List.length_nil] at this
      rw [dist_nc]
      omega
    | x :: a, [] =>
      simp only [List.length_cons, List.length_nil] at hn ⊢
      have := ih a [] (by simp only [List.length_nil]; omega)
      simp only [List.length_nil] at this
      rw [dist_cn]
      omega
    | x :: a, y :: b =>
      simp only [List.length_cons] at hn ⊢
      have i1 := ih a (y :: b) (by simp only [List.length_cons]; omega)
      have i2 := ih (x :: a) b (by simp only [List.length_cons]; omega)
      have i3 := ih a b (by omega)
      have hp := putB_fine (l := l) ⟨h1, h2, h3, h4, h5, h6, h7, h8, h9⟩ x y
      simp only [List.length_cons] at i1 i2
      have h3w : 0 ≤ dist3 l x y a b ∧ dist3 l x y a b ≤ 1000 * ((a.length + 1 + (b.length + 1) : Nat) : Int) := by unfold dist3; omega
      by_cases hc : x ≠ y ∧ a.head? = some y ∧ b.head? = some x
      · match a, b, hc with
        | y' :: a, x' :: b, ⟨hxy, e1, e2⟩ =>
          injection e1 with e1
          injection e2 with e2
          subst e1 e2
          have i4 := ih a b (by simp only [List.length_cons] at hn; omega)
          rw [dist_swap l _ _ a b hxy]
          simp only [List.length_cons] at h3w ⊢
          omega
      · rw [dist_cc l x y a b hc]
        exact h3w

/-- The distance of the beginnings of i and j bytes. -/
def D (l : Sl) (m t : List UInt8) (i j : Nat) : Int := dist l (m.take i).reverse (t.take j).reverse
theorem rev_take {m : List UInt8} {i : Nat} {x : UInt8} (h : m[i]? = some x) : (m.take (i + 1)).reverse = x :: (m.take i).reverse := by
  rw [take_snoc h, List.reverse_append]; rfl
theorem D_fine {l : Sl} (h : fine l) (m t : List UInt8) (i j : Nat) (hi : i ≤ m.length) (hj : j ≤ t.length) : 0 ≤ D l m t i j ∧ D l m t i j ≤ 1000 * (i + j : Nat) := by
  have := dist_fine h _ (m.take i).reverse (t.take j).reverse (Nat.le_refl _)
  simp only [List.length_reverse, List.length_take, Nat.min_eq_left hi, Nat.min_eq_left hj] at this
  exact this
theorem D_00 (l : Sl) (m t : List UInt8) : D l m t 0 0 = 0 := by unfold D; exact dist_nn l
theorem D_0s (l : Sl) (m t : List UInt8) (j : Nat) (hj : j < t.length) : D l m t 0 (j + 1) = D l m t 0 j + l.2.2.1 := by
  obtain ⟨y, hy⟩ := get_of_lt hj
  unfold D
  rw [rev_take hy, List.take_zero, List.reverse_nil, dist_nc]
theorem D_s0 (l : Sl) (m t : List UInt8) (i : Nat) (hi : i < m.length) : D l m t (i + 1) 0 = D l m t i 0 + l.2.1 := by
  obtain ⟨y, hy⟩ := get_of_lt hi
  unfold D
  rw [rev_take hy, List.take_zero, List.reverse_nil, dist_cn]
def D3 (l : Sl) (m t : List UInt8) (x y : UInt8) (i j : Nat) : Int := min (min (D l m t i (j + 1) + l.2.1) (D l m t (i + 1) j + l.2.2.1)) (D l m t i j + putB l x y)
theorem D3_eq {l : Sl} {m t : List UInt8} {x y : UInt8} {i j : Nat} (hx : m[i]? = some x) (hy : t[j]? = some y) : D3 l m t x y i j = dist3 l x y (m.take i).reverse (t.take j).reverse := by
  unfold D3 dist3 D
  rw [rev_take hx, rev_take hy]
theorem D_ss {l : Sl} {m t : List UInt8} {x y : UInt8} {i j : Nat} (hx : m[i]? = some x) (hy : t[j]? = some y)
    (h : ¬ (x ≠ y ∧ 1 ≤ i ∧ 1 ≤ j ∧ m[i - 1]? = some y ∧ t[j - 1]? = some x)) : D l m t (i + 1) (j + 1) = D3 l m t x y i j := by
  rw [D3_eq hx hy]
  unfold D
  rw [rev_take hx, rev_take hy, dist_cc]
  intro ⟨h1, h2, h3⟩
  apply h
  have key : ∀ (s : List UInt8) (k : Nat) (z : UInt8), k ≤ s.length → (s.take k).reverse.head? = some z → 1 ≤ k ∧ s[k - 1]? = some z := by
    intro s k z hk e
    match k with
    | 0 => simp at e
    | k + 1 =>
      obtain ⟨w, hw⟩ := get_of_lt (xs := s) (i := k) hk
      rw [rev_take hw] at e
      injection e with e
      subst e
      exact ⟨Nat.succ_le_succ (Nat.zero_le _), hw⟩
  have hil : i ≤ m.length := by have := (List.getElem?_eq_some_iff.mp hx).1; omega
  have hjl : j ≤ t.length := by have := (List.getElem?_eq_some_iff.mp hy).1; omega
  exact ⟨h1, (key m i y hil h2).1, (key t j x hjl h3).1, (key m i y hil h2).2, (key t j x hjl h3).2⟩
theorem D_swap {l : Sl} {m t : List UInt8} {x y : UInt8} {i j : Nat} (hx : m[i + 1]? = some x) (hy : t[j + 1]? = some y)
    (h : x ≠ y) (hx' : m[i]? = some y) (hy' : t[j]? = some x) : D l m t (i + 2) (j + 2) = min (D3 l m t x y (i + 1) (j + 1)) (D l m t i j + l.1) := by
  rw [D3_eq hx hy]
  unfold D
  rw [rev_take hx, rev_take hy, rev_take hx', rev_take hy', dist_swap l _ _ _ _ h]
end Go.Proofs.Ytahajkiadfgpbaa
namespace Go.Proofs.Ytahajkiadfgpbaa
set_option maxHeartbeats 4000000
set_option maxRecDepth 100000

/-- The first j numbers of a row for the beginning of i bytes. -/
structure IsRow (l : Sl) (m t : List UInt8) (i j : Nat) (r : List Int) : Prop where
  len : r.length = t.length + 1
  val : ∀ k, k < j → r[k]? = some (D l m t i k)
theorem IsRow.set {l : Sl} {m t : List UInt8} {i j : Nat} {r : List Int} (h : IsRow l m t i j r) (hj : j ≤ t.length) {v : Int} (hv : v = D l m t i j) : IsRow l m t i (j + 1) (r.set j v) := by
  refine ⟨by rw [List.length_set]; exact h.len, fun k hk => ?_⟩
  rw [List.getElem?_set]
  have := h.len
  by_cases e : j = k
  · subst e
    rw [if_pos rfl, if_pos (by omega), hv]
  · rw [if_neg e]
    exact h.val k (by omega)
abbrev zrow (t : List UInt8) : List Int := List.replicate ((t.length : Int) + 1).toNat (0 : Int)
theorem isRow_0 (l : Sl) (m t : List UInt8) : IsRow l m t 0 1 (zrow t) := by
  have e : ((t.length : Int) + 1).toNat = t.length + 1 := by omega
  refine ⟨by rw [List.length_replicate, e], fun k hk => ?_⟩
  have : k = 0 := by omega
  subst this
  rw [List.getElem?_replicate, if_pos (by omega), D_00]
theorem oks_puts {l : Sl} (h : oks [⟨SlipsT, l⟩]) : oks [⟨SlipsT, l⟩] := h
theorem c_Distance (l : Sl) (t m : List UInt8) (hl : fine l) (ht : t.length ≤ 1000000) (hm : m.length ≤ 1000000) : PC env 15 [⟨SlipsT, l⟩, ⟨.str, t⟩, ⟨.str, m⟩] (.int .i64) (D l m t m.length t.length) := by
  refine PC.of_PW (m := 2000) env_ok fn_15 rfl rfl rfl rfl (by kernel_rfl) ?_; intro hx; simp only [Try.f15]; simp only [PQ_need, PQ_upd, PQ_imp, PQ_both, PQ_allx, PQ_alln, PQ_exi, PQ_call, PQ_val, PQ_new, PQ_store, PQ_append, PQ_sealed, PQ_hcall, PO_nil, PO_none, PO_some, PH_some, PK_tt, PK_ff, PK_tf, PK_ft, PK_undef, PK_dec_t, PK_dec_f, PB_t, PB_f, PB_dec, PB_ndec, PK_ndec_t, PK_ndec_f, PX_some, PW_nil, PW_blk, PW_inLoop, PW_skip, PW_seq, PW_reg, PW_draw, PW_cond, PW_block, PW_loop, PW_exit, PW_ret, entrySl, entryPV, ivs, argPV, capsOf, List.toList_toArray, forb, madeD, made, madeAt, step1, before, nthL, without, bindsAny, guardDst, nthO, stepF, St.ev, St.get, St.set, St.put, look, mem1, lk, nbeq, nble, nblt, Nat.reduceBEq, cval, kindEq, binO, isShift, binInt, shiftInt, binStr, binEq, negIf, canEq, dep, beqD, boolV, arith, pickO, exitW, HQ, hOK, keepB, newB, flatP, nilB, beq_self_eq_true, St.hret, deadIds, renBl, back_0, back_1, back_2, back_small, retP, retV, rvals, onePV, leBl, leB, leCells, innBl, blkIn, expR, expT, expAll, exp, pk, withR, fstOf, asLit, asSl, asMp, asFnv, asOwn, boxAt, Ty.eq, Ty.cast, evAll, evParts, lenO, intV, appSrc, appendO, lookupO, mapUpdateO, rangeO, nextO, entryO, itEntries, keyT, plainK, Ty.zer, zeroPV, cut, inCut, cutLo, cutHi, sliceO, bound, indexO, loadO, lenEq, storeO, fillO, buildO, elemsO, nthPV, extractD, extractO, callO, hcallO, hcall1, hArgs, hArg, cloO, lastN, chainT, nodupB, innIds, reach, blkIds, passed, fwd, idxOf, PV.ids, PV.idsL, PV.inn, PV.innL, PV.ren, PV.renL, convO, minMax, fieldOff, fieldTy, offOf, fldTy, elemTy, chainLen, arrLen, join, part, widens, cellsOf, Ty.val, PV.cells, aggCells, zeroCells, zeroDen, Ty.cells, Ty.flat, Ty.ok, owns, PV.arrs, PV.arrsL, PV.refs, PV.refsL, PV.kill, PV.killL, PV.sealw, PV.sealL, mapSl, Blk.map, mapBl, dropBl, St.kill, St.sealw, keys, oks, okPs, okP, P0, List.map, List.take, List.drop, List.headD, List.append, List.length, List.cons_append, List.nil_append, Option.bind, cond_true, cond_false, ↓reduceIte, ↓reduceDIte, Bool.not_true, Bool.not_false, Bool.and_true, Bool.true_and, Bool.and_false, Bool.false_and, Bool.false_or, Bool.or_false, Bool.true_or, Bool.or_true, true_implies, Option.some.injEq, decide_true, decide_false, decide_eq_true_eq, decide_eq_false_iff_not, Nat.add_zero, Nat.zero_add, Nat.reduceAdd, Nat.reduceSub, Nat.reduceMul, Nat.reduceLeDiff, Int.toNat_natCast, Nat.lt_irrefl, and_true, true_and, or_false, or_true, true_or, false_or, ← Bool.decide_and, ← Bool.decide_or, ← decide_not, Decidable.not_not, min_i8, max_i8, min_i16, max_i16, min_i32, max_i32, min_i64, max_i64, min_u8, max_u8, min_u16, max_u16, min_u32, max_u32, min_u64, max_u64, Int.reduceLT, Int.reduceLE, Int.cast_ofNat_Int, Int.reduceToNat, Int.toNat_zero, Int.toNat_one, Int.le_refl, and_self, Int.reduceNeg, e_ty1, e_ty2, e_ty3, e_ty4, e_ty5, e_ty6, e_ty7, e_ty8, e_ty9, e_ty10, e_ty11, e_ty12, e_ty13, e_ty14, e_ty21, e_ty22, e_ty23, e_ty24, e_ty25, e_ty26, e_ty27, e_ty28, e_ty29, e_ty30, e_ty31, e_ty32, e_ty33, e_ty34, e_ty35, e_ty36, e_ty37, e_ty38, e_ty39, e_ty40, e_ty41, e_ty42, e_ty43, e_ty44, e_ty45, e_ty46, e_ty47, e_ty48, e_ty49, e_ty50, e_ty51, e_ty52, e_ty53, e_ty54, e_ty55, e_ty56, e_ty57, e_ty58, e_ty59, e_ty60, e_ty61, e_ty62, e_ty63, e_ty64, e_ty65, e_ty66, e_ty67, e_ty68, e_ty69, e_ty70, e_ty71, e_ty72, e_ty73, e_ty74, e_ty75, e_ty76, e_ty77, e_ty79, e_ty80, e_ty81, e_ty83, e_ty84, e_ty85, e_ty86, e_ty87, e_ty88, e_ty89, e_ty90, e_ty91, e_ty93, e_ty96, e_ty97, e_ty103, e_ty104, e_ty105, e_ty106, e_ty108, e_ty109, e_str7, e_str8, e_str13, e_str14, e_str24, e_str25, e_str31, e_str32, e_str45, e_str46, e_str56, e_str57, e_str22, e_str27, e_str43, e_str50, e_str52, e_str59, e_str63, e_cmp7, e_cmp8, e_cmp22, e_cmp43, e_cmp45, e_cmp46, e_cmp50, e_cmp56, e_cmp57, e_cmp59, e_fn2, e_fn3, e_fn4, e_fn5, e_fn6, e_fn7, e_fn8, e_fn9, e_fn10, e_fn11, e_fn12, e_fn13, e_fn14, e_fn15, e_fn16, e_fn17, e_fn18, e_fn19, e_fn20, e_fn21, e_fn22, e_fn24, e_fn27, e_fn28, e_fn29, e_fn30, e_fn31, e_fn32, e_fn33, e_fn36, e_fn37, e_fn46, e_fn47, e_fn49, e_fn23, e_fn26, e_fn34, e_fn25, e_hfn25, e_fn35, e_hfn35, e_fn38, e_hfn38]
  refine ⟨l, c_puts l, ?_⟩
  refine fun _ => ?_
  dsimp only [Ty.den]
  refine ⟨by omega, by omega, by omega, by omega, by omega, by omega, ?_⟩
  refine Walks.loopW (X := Nat × List Int) (fun x => ⟨[(10, .iv (.int .i64) ((x.1 : Int) + 1)), (9, .ref 9 0), (8, .iv (.int .i64) t.length), (7, .iv (.clo 34 (.ptr SlipsT)) l), (3, .ref 3 0), (1, .iv .str t), (2, .iv .str m)],
    [(9, .box [.lfull 25, .lfull 28, .lfull 31]), (31, .arr (.int .i64) (zrow t)), (28, .arr (.int .i64) x.2), (25, .arr (.int .i64) (zrow t)), (3, .box (slCells l))]⟩)
    (fun x => x.1 ≤ t.length ∧ IsRow l m t 0 (x.1 + 1) x.2) (fun x => t.length - x.1) ((0 : Nat), zrow t)
    ⟨⟨Or.inl rfl, Or.inl rfl, Or.inl rfl, Or.inl rfl, Or.inl rfl, Or.inl rfl, Or.inl rfl, trivial⟩, ⟨⟨Or.inl rfl, Or.inl rfl, Or.inl rfl, trivial⟩, rfl, rfl, rfl, ⟨Or.inl rfl, Or.inl rfl, Or.inl rfl, Or.inl rfl, Or.inl rfl, trivial⟩, trivial⟩, rfl, rfl⟩ ⟨Nat.zero_le _, isRow_0 l m t⟩ ?_
  intro ⟨j, r⟩ ⟨hj, hr⟩ back
  refine PW_sound env_ok ⟨_, fn_15, rfl⟩ 2000 _ _ (by kernel_rfl) ?_; simp only [PQ_need, PQ_upd, PQ_imp, PQ_both, PQ_allx, PQ_alln, PQ_exi, PQ_call, PQ_val, PQ_new, PQ_store, PQ_append, PQ_sealed, PQ_hcall, PO_nil, PO_none, PO_some, PH_some, PK_tt, PK_ff, PK_tf, PK_ft, PK_undef, PK_dec_t, PK_dec_f, PB_t, PB_f, PB_dec, PB_ndec, PK_ndec_t, PK_ndec_f, PX_some, PW_nil, PW_blk, PW_inLoop, PW_skip, PW_seq, PW_reg, PW_draw, PW_cond, PW_block, PW_loop, PW_exit, PW_ret, entrySl, entryPV, ivs, argPV, capsOf, List.toList_toArray, forb, madeD, made, madeAt, step1, before, nthL, without, bindsAny, guardDst, nthO, stepF, St.ev, St.get, St.set, St.put, look, mem1, lk, nbeq, nble, nblt, Nat.reduceBEq, cval, kindEq, binO, isShift, binInt, shiftInt, binStr, binEq, negIf, canEq, dep, beqD, boolV, arith, pickO, exitW, HQ, hOK, keepB, newB, flatP, nilB, beq_self_eq_true, St.hret, deadIds, renBl, back_0, back_1, back_2, back_small, retP, retV, rvals, onePV, leBl, leB, leCells, innBl, blkIn, expR, expT, expAll, exp, pk, withR, fstOf, asLit, asSl, asMp, asFnv, asOwn, boxAt, Ty.eq, Ty.cast, evAll, evParts, lenO, intV, appSrc, appendO, lookupO, mapUpdateO, rangeO, nextO, entryO, itEntries, keyT, plainK, Ty.zer, zeroPV, cut, inCut, cutLo, cutHi, sliceO, bound, indexO, loadO, lenEq, storeO, fillO, buildO, elemsO, nthPV, extractD, extractO, callO, hcallO, hcall1, hArgs, hArg, cloO, lastN, chainT, nodupB, innIds, reach, blkIds, passed, fwd, idxOf, PV.ids, PV.idsL, PV.inn, PV.innL, PV.ren, PV.renL, convO, minMax, fieldOff, fieldTy, offOf, fldTy, elemTy, chainLen, arrLen, join, part, widens, cellsOf, Ty.val, PV.cells, aggCells, zeroCells, zeroDen, Ty.cells, Ty.flat, Ty.ok, owns, PV.arrs, PV.arrsL, PV.refs, PV.refsL, PV.kill, PV.killL, PV.sealw, PV.sealL, mapSl, Blk.map, mapBl, dropBl, St.kill, St.sealw, keys, oks, okPs, okP, P0, List.map, List.take, List.drop, List.headD, List.append, List.length, List.cons_append, List.nil_append, Option.bind, cond_true, cond_false, ↓reduceIte, ↓reduceDIte, Bool.not_true, Bool.not_false, Bool.and_true, Bool.true_and, Bool.and_false, Bool.false_and, Bool.false_or, Bool.or_false, Bool.true_or, Bool.or_true, true_implies, Option.some.injEq, decide_true, decide_false, decide_eq_true_eq, decide_eq_false_iff_not, Nat.add_zero, Nat.zero_add, Nat.reduceAdd, Nat.reduceSub, Nat.reduceMul, Nat.reduceLeDiff, Int.toNat_natCast, Nat.lt_irrefl, and_true, true_and, or_false, or_true, true_or, false_or, ← Bool.decide_and, ← Bool.decide_or, ← decide_not, Decidable.not_not, min_i8, max_i8, min_i16, max_i16, min_i32, max_i32, min_i64, max_i64, min_u8, max_u8, min_u16, max_u16, min_u32, max_u32, min_u64, max_u64, Int.reduceLT, Int.reduceLE, Int.cast_ofNat_Int, Int.reduceToNat, Int.toNat_zero, Int.toNat_one, Int.le_refl, and_self, Int.reduceNeg, e_ty1, e_ty2, e_ty3, e_ty4, e_ty5, e_ty6, e_ty7, e_ty8, e_ty9, e_ty10, e_ty11, e_ty12, e_ty13, e_ty14, e_ty21, e_ty22, e_ty23, e_ty24, e_ty25, e_ty26, e_ty27, e_ty28, e_ty29, e_ty30, e_ty31, e_ty32, e_ty33, e_ty34, e_ty35, e_ty36, e_ty37, e_ty38, e_ty39, e_ty40, e_ty41, e_ty42, e_ty43, e_ty44, e_ty45, e_ty46, e_ty47, e_ty48, e_ty49, e_ty50, e_ty51, e_ty52, e_ty53, e_ty54, e_ty55, e_ty56, e_ty57, e_ty58, e_ty59, e_ty60, e_ty61, e_ty62, e_ty63, e_ty64, e_ty65, e_ty66, e_ty67, e_ty68, e_ty69, e_ty70, e_ty71, e_ty72, e_ty73, e_ty74, e_ty75, e_ty76, e_ty77, e_ty79, e_ty80, e_ty81, e_ty83, e_ty84, e_ty85, e_ty86, e_ty87, e_ty88, e_ty89, e_ty90, e_ty91, e_ty93, e_ty96, e_ty97, e_ty103, e_ty104, e_ty105, e_ty106, e_ty108, e_ty109, e_str7, e_str8, e_str13, e_str14, e_str24, e_str25, e_str31, e_str32, e_str45, e_str46, e_str56, e_str57, e_str22, e_str27, e_str43, e_str50, e_str52, e_str59, e_str63, e_cmp7, e_cmp8, e_cmp22, e_cmp43, e_cmp45, e_cmp46, e_cmp50, e_cmp56, e_cmp57, e_cmp59, e_fn2, e_fn3, e_fn4, e_fn5, e_fn6, e_fn7, e_fn8, e_fn9, e_fn10, e_fn11, e_fn12, e_fn13, e_fn14, e_fn15, e_fn16, e_fn17, e_fn18, e_fn19, e_fn20, e_fn21, e_fn22, e_fn24, e_fn27, e_fn28, e_fn29, e_fn30, e_fn31, e_fn32, e_fn33, e_fn36, e_fn37, e_fn46, e_fn47, e_fn49, e_fn23, e_fn26, e_fn34, e_fn25, e_hfn25, e_fn35, e_hfn35, e_fn38, e_hfn38]
  have hrl := hr.len
  have e1 : ((j : Int) + 1 - 1).toNat = j := by omega
  have e2 : ((j : Int) + 1).toNat = j + 1 := by omega
  simp only [e1, e2]
  refine ⟨fun h => ?_, fun h => ?_⟩
  · have hb := D_fine hl m t 0 j (Nat.zero_le _) hj
    have hb2 := hl.2.2.2.2.1
    have hb3 := hl.2.2.2.2.2.1
    dsimp only [Ty.den] at *
    refine ⟨by omega, by omega, _, hr.val j (by omega), by omega, by omega, by omega, ?_⟩
    refine back _ (j + 1, r.set (j + 1) (D l m t 0 j + l.2.2.1)) ?_ ⟨by omega, hr.set (by omega) (D_0s l m t j (by omega)).symm⟩ (by omega)
    exact ⟨⟨Or.inl rfl, Or.inl rfl, Or.inl rfl, Or.inl rfl, Or.inl rfl, Or.inl rfl, Or.inl rfl, trivial⟩, ⟨⟨Or.inl rfl, Or.inl rfl, Or.inl rfl, trivial⟩, rfl, rfl, rfl, ⟨Or.inl rfl, Or.inl rfl, Or.inl rfl, Or.inl rfl, Or.inl rfl, trivial⟩, trivial⟩, rfl, rfl⟩
  have hj' : j = t.length := by omega
  subst hj'
  clear back
  refine Walks.loopW (X := Nat × List Int × List Int × List Int) (fun x => ⟨[(11, .iv (.int .i64) ((x.1 : Int) + 1)), (9, .ref 9 0), (8, .iv (.int .i64) t.length), (7, .iv (.clo 34 (.ptr SlipsT)) l), (3, .ref 3 0), (1, .iv .str t), (2, .iv .str m)],
    [(9, .box [.lfull 25, .lfull 28, .lfull 31]), (31, .arr (.int .i64) x.2.2.2), (28, .arr (.int .i64) x.2.2.1), (25, .arr (.int .i64) x.2.1), (3, .box (slCells l))]⟩)
    (fun x => x.1 ≤ m.length ∧ x.2.1.length = t.length + 1 ∧ x.2.2.2.length = t.length + 1 ∧ IsRow l m t x.1 (t.length + 1) x.2.2.1 ∧ ∀ k, x.1 = k + 1 → IsRow l m t k (t.length + 1) x.2.1)
    (fun x => m.length - x.1) ((0 : Nat), zrow t, r, zrow t)
    ⟨⟨Or.inl rfl, Or.inl rfl, Or.inl rfl, Or.inl rfl, Or.inl rfl, Or.inl rfl, Or.inl rfl, trivial⟩, ⟨⟨Or.inl rfl, Or.inl rfl, Or.inl rfl, trivial⟩, rfl, rfl, rfl, ⟨Or.inl rfl, Or.inl rfl, Or.inl rfl, Or.inl rfl, Or.inl rfl, trivial⟩, trivial⟩, rfl, rfl⟩
    ⟨Nat.zero_le _, (isRow_0 l m t).len, (isRow_0 l m t).len, hr, fun k hk => by cases hk⟩ ?_
  intro ⟨i, bef, last, next⟩ ⟨hi, hbl, hnl, hlast, hbef⟩ back
  dsimp only at hi hbl hnl hlast hbef
  refine PW_sound env_ok ⟨_, fn_15, rfl⟩ 2000 _ _ (by kernel_rfl) ?_; simp only [PQ_need, PQ_upd, PQ_imp, PQ_both, PQ_allx, PQ_alln, PQ_exi, PQ_call, PQ_val, PQ_new, PQ_store, PQ_append, PQ_sealed, PQ_hcall, PO_nil, PO_none, PO_some, PH_some, PK_tt, PK_ff, PK_tf, PK_ft, PK_undef, PK_dec_t, PK_dec_f, PB_t, PB_f, PB_dec, PB_ndec, PK_ndec_t, PK_ndec_f, PX_some, PW_nil, PW_blk, PW_inLoop, PW_skip, PW_seq, PW_reg, PW_draw, PW_cond, PW_block, PW_loop, PW_exit, PW_ret, entrySl, entryPV, ivs, argPV, capsOf, List.toList_toArray, forb, madeD, made, madeAt, step1, before, nthL, without, bindsAny, guardDst, nthO, stepF, St.ev, St.get, St.set, St.put, look, mem1, lk, nbeq, nble, nblt, Nat.reduceBEq, cval, kindEq, binO, isShift, binInt, shiftInt, binStr, binEq, negIf, canEq, dep, beqD, boolV, arith, pickO, exitW, HQ, hOK, keepB, newB, flatP, nilB, beq_self_eq_true, St.hret, deadIds, renBl, back_0, back_1, back_2, back_small, retP, retV, rvals, onePV, leBl, leB, leCells, innBl, blkIn, expR, expT, expAll, exp, pk, withR, fstOf, asLit, asSl, asMp, asFnv, asOwn, boxAt, Ty.eq, Ty.cast, evAll, evParts, lenO, intV, appSrc, appendO, lookupO, mapUpdateO, rangeO, nextO, entryO, itEntries, keyT, plainK, Ty.zer, zeroPV, cut, inCut, cutLo, cutHi, sliceO, bound, indexO, loadO, lenEq, storeO, fillO, buildO, elemsO, nthPV, extractD, extractO, callO, hcallO, hcall1, hArgs, hArg, cloO, lastN, chainT, nodupB, innIds, reach, blkIds, passed, fwd, idxOf, PV.ids, PV.idsL, PV.inn, PV.innL, PV.ren, PV.renL, convO, minMax, fieldOff, fieldTy, offOf, fldTy, elemTy, chainLen, arrLen, join, part, widens, cellsOf, Ty.val, PV.cells, aggCells, zeroCells, zeroDen, Ty.cells, Ty.flat, Ty.ok, owns, PV.arrs, PV.arrsL, PV.refs, PV.refsL, PV.kill, PV.killL, PV.sealw, PV.sealL, mapSl, Blk.map, mapBl, dropBl, St.kill, St.sealw, keys, oks, okPs, okP, P0, List.map, List.take, List.drop, List.headD, List.append, List.length, List.cons_append, List.nil_append, Option.bind, cond_true, cond_false, ↓reduceIte, ↓reduceDIte, Bool.not_true, Bool.not_false, Bool.and_true, Bool.true_and, Bool.and_false, Bool.false_and, Bool.false_or, Bool.or_false, Bool.true_or, Bool.or_true, true_implies, Option.some.injEq, decide_true, decide_false, decide_eq_true_eq, decide_eq_false_iff_not, Nat.add_zero, Nat.zero_add, Nat.reduceAdd, Nat.reduceSub, Nat.reduceMul, Nat.reduceLeDiff, Int.toNat_natCast, Nat.lt_irrefl, and_true, true_and, or_false, or_true, true_or, false_or, ← Bool.decide_and, ← Bool.decide_or, ← decide_not, Decidable.not_not, min_i8, max_i8, min_i16, max_i16, min_i32, max_i32, min_i64, max_i64, min_u8, max_u8, min_u16, max_u16, min_u32, max_u32, min_u64, max_u64, Int.reduceLT, Int.reduceLE, Int.cast_ofNat_Int, Int.reduceToNat, Int.toNat_zero, Int.toNat_one, Int.le_refl, and_self, Int.reduceNeg, e_ty1, e_ty2, e_ty3, e_ty4, e_ty5, e_ty6, e_ty7, e_ty8, e_ty9, e_ty10, e_ty11, e_ty12, e_ty13, e_ty14, e_ty21, e_ty22, e_ty23, e_ty24, e_ty25, e_ty26, e_ty27, e_ty28, e_ty29, e_ty30, e_ty31, e_ty32, e_ty33, e_ty34, e_ty35, e_ty36, e_ty37, e_ty38, e_ty39, e_ty40, e_ty41, e_ty42, e_ty43, e_ty44, e_ty45, e_ty46, e_ty47, e_ty48, e_ty49, e_ty50, e_ty51, e_ty52, e_ty53, e_ty54, e_ty55, e_ty56, e_ty57, e_ty58, e_ty59, e_ty60, e_ty61, e_ty62, e_ty63, e_ty64, e_ty65, e_ty66, e_ty67, e_ty68, e_ty69, e_ty70, e_ty71, e_ty72, e_ty73, e_ty74, e_ty75, e_ty76, e_ty77, e_ty79, e_ty80, e_ty81, e_ty83, e_ty84, e_ty85, e_ty86, e_ty87, e_ty88, e_ty89, e_ty90, e_ty91, e_ty93, e_ty96, e_ty97, e_ty103, e_ty104, e_ty105, e_ty106, e_ty108, e_ty109, e_str7, e_str8, e_str13, e_str14, e_str24, e_str25, e_str31, e_str32, e_str45, e_str46, e_str56, e_str57, e_str22, e_str27, e_str43, e_str50, e_str52, e_str59, e_str63, e_cmp7, e_cmp8, e_cmp22, e_cmp43, e_cmp45, e_cmp46, e_cmp50, e_cmp56, e_cmp57, e_cmp59, e_fn2, e_fn3, e_fn4, e_fn5, e_fn6, e_fn7, e_fn8, e_fn9, e_fn10, e_fn11, e_fn12, e_fn13, e_fn14, e_fn15, e_fn16, e_fn17, e_fn18, e_fn19, e_fn20, e_fn21, e_fn22, e_fn24, e_fn27, e_fn28, e_fn29, e_fn30, e_fn31, e_fn32, e_fn33, e_fn36, e_fn37, e_fn46, e_fn47, e_fn49, e_fn23, e_fn26, e_fn34, e_fn25, e_hfn25, e_fn35, e_hfn35, e_fn38, e_hfn38]
  have hll := hlast.len
  refine ⟨fun h => ?_, fun h => ?_⟩
  rotate_left
  · have : i = m.length := by omega
    subst this
    exact ⟨by omega, _, hlast.val _ (by omega), rfl⟩
  have hb := D_fine hl m t i 0 hi (Nat.zero_le _)
  have hl2 := hl.2.1
  have hl3 := hl.2.2.1
  have hl4 := hl.2.2.2.1
  have hl5 := hl.2.2.2.2.1
  have hl6 := hl.2.2.2.2.2.1
  refine ⟨by omega, _, hlast.val 0 (by omega), by omega, by omega, ?_⟩
  have hn0 : IsRow l m t (i + 1) 1 (next.set 0 (D l m t i 0 + l.2.1)) := by
    have : IsRow l m t (i + 1) 0 next := ⟨hnl, fun k hk => absurd hk (Nat.not_lt_zero _)⟩
    exact this.set (Nat.zero_le _) (D_s0 l m t i (by omega)).symm
  refine Walks.loopW (X := Nat × List Int) (fun x => ⟨[(15, .iv (.int .i64) ((x.1 : Int) + 1)), (14, .lfull 31), (13, .lfull 28), (12, .lfull 25), (11, .iv (.int .i64) ((i : Int) + 1)), (9, .ref 9 0), (8, .iv (.int .i64) t.length), (7, .iv (.clo 34 (.ptr SlipsT)) l), (3, .ref 3 0), (1, .iv .str t), (2, .iv .str m)],
    [(9, .box [.lfull 25, .lfull 28, .lfull 31]), (31, .arr (.int .i64) x.2), (28, .arr (.int .i64) last), (25, .arr (.int .i64) bef), (3, .box (slCells l))]⟩)
    (fun x => x.1 ≤ t.length ∧ IsRow l m t (i + 1) (x.1 + 1) x.2)
    (fun x => t.length - x.1) ((0 : Nat), next.set 0 (D l m t i 0 + l.2.1))
    ⟨⟨Or.inl rfl, Or.inl rfl, Or.inl rfl, Or.inl rfl, Or.inl rfl, Or.inl rfl, Or.inl rfl, Or.inl rfl, Or.inl rfl, Or.inl rfl, Or.inl rfl, trivial⟩, ⟨⟨Or.inl rfl, Or.inl rfl, Or.inl rfl, trivial⟩, rfl, rfl, rfl, ⟨Or.inl rfl, Or.inl rfl, Or.inl rfl, Or.inl rfl, Or.inl rfl, trivial⟩, trivial⟩, rfl, rfl⟩
    ⟨Nat.zero_le _, hn0⟩ ?_
  clear hn0
  intro ⟨j, nx⟩ ⟨hj, hnx⟩ back3
  dsimp only at hj hnx
  have hnxl := hnx.len
  refine PW_sound env_ok ⟨_, fn_15, rfl⟩ 2000 _ _ (by kernel_rfl) ?_; simp only [PQ_need, PQ_upd, PQ_imp, PQ_both, PQ_allx, PQ_alln, PQ_exi, PQ_call, PQ_val, PQ_new, PQ_store, PQ_append, PQ_sealed, PQ_hcall, PO_nil, PO_none, PO_some, PH_some, PK_tt, PK_ff, PK_tf, PK_ft, PK_undef, PK_dec_t, PK_dec_f, PB_t, PB_f, PB_dec, PB_ndec, PK_ndec_t, PK_ndec_f, PX_some, PW_nil, PW_blk, PW_inLoop, PW_skip, PW_seq, PW_reg, PW_draw, PW_cond, PW_block, PW_loop, PW_exit, PW_ret, entrySl, entryPV, ivs, argPV, capsOf, List.toList_toArray, forb, madeD, made, madeAt, step1, before, nthL, without, bindsAny, guardDst, nthO, stepF, St.ev, St.get, St.set, St.put, look, mem1, lk, nbeq, nble, nblt, Nat.reduceBEq, cval, kindEq, binO, isShift, binInt, shiftInt, binStr, binEq, negIf, canEq, dep, beqD, boolV, arith, pickO, exitW, HQ, hOK, keepB, newB, flatP, nilB, beq_self_eq_true, St.hret, deadIds, renBl, back_0, back_1, back_2, back_small, retP, retV, rvals, onePV, leBl, leB, leCells, innBl, blkIn, expR, expT, expAll, exp, pk, withR, fstOf, asLit, asSl, asMp, asFnv, asOwn, boxAt, Ty.eq, Ty.cast, evAll, evParts, lenO, intV, appSrc, appendO, lookupO, mapUpdateO, rangeO, nextO, entryO, itEntries, keyT, plainK, Ty.zer, zeroPV, cut, inCut, cutLo, cutHi, sliceO, bound, indexO, loadO, lenEq, storeO, fillO, buildO, elemsO, nthPV, extractD, extractO, callO, hcallO, hcall1, hArgs, hArg, cloO, lastN, chainT, nodupB, innIds, reach, blkIds, passed, fwd, idxOf, PV.ids, PV.idsL, PV.inn, PV.innL, PV.ren, PV.renL, convO, minMax, fieldOff, fieldTy, offOf, fldTy, elemTy, chainLen, arrLen, join, part, widens, cellsOf, Ty.val, PV.cells, aggCells, zeroCells, zeroDen, Ty.cells, Ty.flat, Ty.ok, owns, PV.arrs, PV.arrsL, PV.refs, PV.refsL, PV.kill, PV.killL, PV.sealw, PV.sealL, mapSl, Blk.map, mapBl, dropBl, St.kill, St.sealw, keys, oks, okPs, okP, P0, List.map, List.take, List.drop, List.headD, List.append, List.length, List.cons_append, List.nil_append, Option.bind, cond_true, cond_false, ↓reduceIte, ↓reduceDIte, Bool.not_true, Bool.not_false, Bool.and_true, Bool.true_and, Bool.and_false, Bool.false_and, Bool.false_or, Bool.or_false, Bool.true_or, Bool.or_true, true_implies, Option.some.injEq, decide_true, decide_false, decide_eq_true_eq, decide_eq_false_iff_not, Nat.add_zero, Nat.zero_add, Nat.reduceAdd, Nat.reduceSub, Nat.reduceMul, Nat.reduceLeDiff, Int.toNat_natCast, Nat.lt_irrefl, and_true, true_and, or_false, or_true, true_or, false_or, ← Bool.decide_and, ← Bool.decide_or, ← decide_not, Decidable.not_not, min_i8, max_i8, min_i16, max_i16, min_i32, max_i32, min_i64, max_i64, min_u8, max_u8, min_u16, max_u16, min_u32, max_u32, min_u64, max_u64, Int.reduceLT, Int.reduceLE, Int.cast_ofNat_Int, Int.reduceToNat, Int.toNat_zero, Int.toNat_one, Int.le_refl, and_self, Int.reduceNeg, e_ty1, e_ty2, e_ty3, e_ty4, e_ty5, e_ty6, e_ty7, e_ty8, e_ty9, e_ty10, e_ty11, e_ty12, e_ty13, e_ty14, e_ty21, e_ty22, e_ty23, e_ty24, e_ty25, e_ty26, e_ty27, e_ty28, e_ty29, e_ty30, e_ty31, e_ty32, e_ty33, e_ty34, e_ty35, e_ty36, e_ty37, e_ty38, e_ty39, e_ty40, e_ty41, e_ty42, e_ty43, e_ty44, e_ty45, e_ty46, e_ty47, e_ty48, e_ty49, e_ty50, e_ty51, e_ty52, e_ty53, e_ty54, e_ty55, e_ty56, e_ty57, e_ty58, e_ty59, e_ty60, e_ty61, e_ty62, e_ty63, e_ty64, e_ty65, e_ty66, e_ty67, e_ty68, e_ty69, e_ty70, e_ty71, e_ty72, e_ty73, e_ty74, e_ty75, e_ty76, e_ty77, e_ty79, e_ty80, e_ty81, e_ty83, e_ty84, e_ty85, e_ty86, e_ty87, e_ty88, e_ty89, e_ty90, e_ty91, e_ty93, e_ty96, e_ty97, e_ty103, e_ty104, e_ty105, e_ty106, e_ty108, e_ty109, e_str7, e_str8, e_str13, e_str14, e_str24, e_str25, e_str31, e_str32, e_str45, e_str46, e_str56, e_str57, e_str22, e_str27, e_str43, e_str50, e_str52, e_str59, e_str63, e_cmp7, e_cmp8, e_cmp22, e_cmp43, e_cmp45, e_cmp46, e_cmp50, e_cmp56, e_cmp57, e_cmp59, e_fn2, e_fn3, e_fn4, e_fn5, e_fn6, e_fn7, e_fn8, e_fn9, e_fn10, e_fn11, e_fn12, e_fn13, e_fn14, e_fn15, e_fn16, e_fn17, e_fn18, e_fn19, e_fn20, e_fn21, e_fn22, e_fn24, e_fn27, e_fn28, e_fn29, e_fn30, e_fn31, e_fn32, e_fn33, e_fn36, e_fn37, e_fn46, e_fn47, e_fn49, e_fn23, e_fn26, e_fn34, e_fn25, e_hfn25, e_fn35, e_hfn35, e_fn38, e_hfn38]
  have e1 : ((i : Int) + 1 - 1).toNat = i := by omega
  have e2 : ((j : Int) + 1 - 1).toNat = j := by omega
  have e3 : ((i : Int) + 1).toNat = i + 1 := by omega
  have e4 : ((j : Int) + 1).toNat = j + 1 := by omega
  have e5 : ((i : Int) + 1 - 2).toNat = i - 1 := by omega
  have e6 : ((j : Int) + 1 - 2).toNat = j - 1 := by omega
  simp only [e1, e2, e3, e4, e5, e6]
  refine ⟨fun h2 => ?_, fun h2 => ?_⟩
  · obtain ⟨x, hx'⟩ := get_of_lt (xs := m) (i := i) (by omega)
    obtain ⟨y, hy'⟩ := get_of_lt (xs := t) (i := j) (by omega)
    have b1 := D_fine hl m t i (j + 1) hi (by omega)
    have b2 := D_fine hl m t (i + 1) j (by omega) hj
    have b3 := D_fine hl m t i j hi hj
    have b4 := putB_fine hl x y
    have hxy : (x.toNat : Int) = y.toNat ↔ x = y := by
      rw [Int.ofNat_inj]
      exact ⟨fun e => UInt8.toNat_inj.mp e, fun e => by rw [e]⟩
    dsimp only [Ty.den] at *
    refine ⟨by omega, by omega, _, ⟨x, hx', rfl⟩, by omega, by omega, _, ⟨y, hy', rfl⟩, by omega, _, hlast.val (j + 1) (by omega), by omega, by omega, by omega, _, hnx.val j (by omega), by omega, by omega, by omega, _, hlast.val j (by omega), putB l x y, c_putF _ _ l, fun _ => ⟨by omega, ?_⟩⟩
    refine ⟨fun c1 => ⟨fun c2 => ⟨fun c3 => ?_, fun c3 => ?_⟩, fun c2 => ?_⟩, fun c1 => ?_⟩
    · obtain ⟨y1, hy1⟩ := get_of_lt (xs := m) (i := i - 1) (by omega)
      obtain ⟨x1, hx1⟩ := get_of_lt (xs := t) (i := j - 1) (by omega)
      have hne : x ≠ y := fun e => c3 (hxy.mpr e)
      refine ⟨by omega, by omega, _, ⟨y1, hy1, rfl⟩, fun c4 => ⟨by omega, by omega, _, ⟨x1, hx1, rfl⟩, fun c5 => ?_, fun c5 => ?_⟩, fun c4 => ?_⟩
      · have e7 : y1 = y := UInt8.toNat_inj.mp (by omega)
        have e8 : x1 = x := UInt8.toNat_inj.mp (by omega)
        subst e7 e8
        obtain ⟨i, rfl⟩ : ∃ k, i = k + 1 := ⟨i - 1, by omega⟩
        obtain ⟨j, rfl⟩ : ∃ k, j = k + 1 := ⟨j - 1, by omega⟩
        have b5 := D_fine hl m t i j (by omega) (by omega)
        refine ⟨by omega, by omega, _, (hbef i rfl).val j (by omega), by omega, ?_⟩
        refine ⟨by omega, by omega, ?_⟩
        refine back3 _ (j + 1 + 1, nx.set (j + 1 + 1) (min (D3 l m t x1 y1 (i + 1) (j + 1)) (D l m t i j + l.1))) ?_ ⟨by omega, hnx.set (by omega) (D_swap hx' hy' hne hy1 hx1).symm⟩ (by omega)
        exact ⟨⟨Or.inl rfl, Or.inl rfl, Or.inl rfl, Or.inl rfl, Or.inl rfl, Or.inl rfl, Or.inl rfl, Or.inl rfl, Or.inl rfl, Or.inl rfl, Or.inl rfl, trivial⟩, ⟨⟨Or.inl rfl, Or.inl rfl, Or.inl rfl, trivial⟩, rfl, rfl, rfl, ⟨Or.inl rfl, Or.inl rfl, Or.inl rfl, Or.inl rfl, Or.inl rfl, trivial⟩, trivial⟩, rfl, rfl⟩
      · have hno : ¬ (x ≠ y ∧ 1 ≤ i ∧ 1 ≤ j ∧ m[i - 1]? = some y ∧ t[j - 1]? = some x) := fun hh => by rw [hx1] at hh; injection hh.2.2.2.2 with hh; exact c5 (by rw [hh])
        refine ⟨by omega, by omega, ?_⟩
        refine back3 _ (j + 1, nx.set (j + 1) (D3 l m t x y i j)) ?_ ⟨by omega, hnx.set (by omega) (D_ss hx' hy' hno).symm⟩ (by omega)
        exact ⟨⟨Or.inl rfl, Or.inl rfl, Or.inl rfl, Or.inl rfl, Or.inl rfl, Or.inl rfl, Or.inl rfl, Or.inl rfl, Or.inl rfl, Or.inl rfl, Or.inl rfl, trivial⟩, ⟨⟨Or.inl rfl, Or.inl rfl, Or.inl rfl, trivial⟩, rfl, rfl, rfl, ⟨Or.inl rfl, Or.inl rfl, Or.inl rfl, Or.inl rfl, Or.inl rfl, trivial⟩, trivial⟩, rfl, rfl⟩
      · have hno : ¬ (x ≠ y ∧ 1 ≤ i ∧ 1 ≤ j ∧ m[i - 1]? = some y ∧ t[j - 1]? = some x) := fun hh => by rw [hy1] at hh; injection hh.2.2.2.1 with hh; exact c4 (by rw [hh])
        refine ⟨by omega, by omega, ?_⟩
        refine back3 _ (j + 1, nx.set (j + 1) (D3 l m t x y i j)) ?_ ⟨by omega, hnx.set (by omega) (D_ss hx' hy' hno).symm⟩ (by omega)
        exact ⟨⟨Or.inl rfl, Or.inl rfl, Or.inl rfl, Or.inl rfl, Or.inl rfl, Or.inl rfl, Or.inl rfl, Or.inl rfl, Or.inl rfl, Or.inl rfl, Or.inl rfl, trivial⟩, ⟨⟨Or.inl rfl, Or.inl rfl, Or.inl rfl, trivial⟩, rfl, rfl, rfl, ⟨Or.inl rfl, Or.inl rfl, Or.inl rfl, Or.inl rfl, Or.inl rfl, trivial⟩, trivial⟩, rfl, rfl⟩
    · have hno : ¬ (x ≠ y ∧ 1 ≤ i ∧ 1 ≤ j ∧ m[i - 1]? = some y ∧ t[j - 1]? = some x) := fun hh => hh.1 (hxy.mp c3)
      refine ⟨by omega, by omega, ?_⟩
      refine back3 _ (j + 1, nx.set (j + 1) (D3 l m t x y i j)) ?_ ⟨by omega, hnx.set (by omega) (D_ss hx' hy' hno).symm⟩ (by omega)
      exact ⟨⟨Or.inl rfl, Or.inl rfl, Or.inl rfl, Or.inl rfl, Or.inl rfl, Or.inl rfl, Or.inl rfl, Or.inl rfl, Or.inl rfl, Or.inl rfl, Or.inl rfl, trivial⟩, ⟨⟨Or.inl rfl, Or.inl rfl, Or.inl rfl, trivial⟩, rfl, rfl, rfl, ⟨Or.inl rfl, Or.inl rfl, Or.inl rfl, Or.inl rfl, Or.inl rfl, trivial⟩, trivial⟩, rfl, rfl⟩
    · have hno : ¬ (x ≠ y ∧ 1 ≤ i ∧ 1 ≤ j ∧ m[i - 1]? = some y ∧ t[j - 1]? = some x) := by omega
      refine ⟨by omega, by omega, ?_⟩
      refine back3 _ (j + 1, nx.set (j + 1) (D3 l m t x y i j)) ?_ ⟨by omega, hnx.set (by omega) (D_ss hx' hy' hno).symm⟩ (by omega)
      exact ⟨⟨Or.inl rfl, Or.inl rfl, Or.inl rfl, Or.inl rfl, Or.inl rfl, Or.inl rfl, Or.inl rfl, Or.inl rfl, Or.inl rfl, Or.inl rfl, Or.inl rfl, trivial⟩, ⟨⟨Or.inl rfl, Or.inl rfl, Or.inl rfl, trivial⟩, rfl, rfl, rfl, ⟨Or.inl rfl, Or.inl rfl, Or.inl rfl, Or.inl rfl, Or.inl rfl, trivial⟩, trivial⟩, rfl, rfl⟩
    · have hno : ¬ (x ≠ y ∧ 1 ≤ i ∧ 1 ≤ j ∧ m[i - 1]? = some y ∧ t[j - 1]? = some x) := by omega
      refine ⟨by omega, by omega, ?_⟩
      refine back3 _ (j + 1, nx.set (j + 1) (D3 l m t x y i j)) ?_ ⟨by omega, hnx.set (by omega) (D_ss hx' hy' hno).symm⟩ (by omega)
      exact ⟨⟨Or.inl rfl, Or.inl rfl, Or.inl rfl, Or.inl rfl, Or.inl rfl, Or.inl rfl, Or.inl rfl, Or.inl rfl, Or.inl rfl, Or.inl rfl, Or.inl rfl, trivial⟩, ⟨⟨Or.inl rfl, Or.inl rfl, Or.inl rfl, trivial⟩, rfl, rfl, rfl, ⟨Or.inl rfl, Or.inl rfl, Or.inl rfl, Or.inl rfl, Or.inl rfl, trivial⟩, trivial⟩, rfl, rfl⟩
  · have hjt : j = t.length := by omega
    subst hjt
    refine ⟨by omega, ?_⟩
    refine Walks.ren [(28, 25), (31, 28), (25, 31)] rfl ?_
    refine back _ (i + 1, last, nx, bef) ?_ ⟨by omega, hll, hbl, hnx, fun k hk => ?_⟩ (by omega)
    · exact ⟨⟨Or.inl rfl, Or.inl rfl, Or.inl rfl, Or.inl rfl, Or.inl rfl, Or.inl rfl, Or.inl rfl, trivial⟩, ⟨⟨Or.inl rfl, Or.inl rfl, Or.inl rfl, trivial⟩, rfl, rfl, rfl, ⟨Or.inl rfl, Or.inl rfl, Or.inl rfl, Or.inl rfl, Or.inl rfl, trivial⟩, trivial⟩, rfl, rfl⟩
    · have : k = i := by omega
      subst this
      exact hlast
end Go.Proofs.Ytahajkiadfgpbaa
namespace Go.Proofs.Ytahajkiadfgpbaa
set_option maxHeartbeats 4000000
section
variable {α : Type}
/-- x comes into a list that is read from behind. -/
def insR (lt : α → α → Bool) : List α → α → List α
  | [], x => [x]
  | y :: r, x => if lt x y = true then y :: insR lt r x else x :: y :: r
def isort (lt : α → α → Bool) (xs : List α) : List α := (xs.foldl (insR lt) []).reverse
theorem insR_length (lt : α → α → Bool) (x : α) : ∀ r : List α, (insR lt r x).length = r.length + 1 := by
  intro r
  induction r with
  | nil => rfl
  | cons y r ih => unfold insR; split <;> simp [ih]
theorem foldl_insR_length (lt : α → α → Bool) : ∀ (xs r : List α), (xs.foldl (insR lt) r).length = r.length + xs.length := by
  intro xs
  induction xs with
  | nil => intro r; rfl
  | cons x xs ih => intro r; rw [List.foldl_cons, ih, insR_length, List.length_cons]; omega
/-- The array: left (read from behind), x, right. -/
def mid (l : List α) (x : α) (r : List α) : List α := l.reverse ++ x :: r
theorem mid_length (l : List α) (x : α) (r : List α) : (mid l x r).length = l.length + r.length + 1 := by simp [mid]; omega
theorem mid_at (l : List α) (x : α) (r : List α) : (mid l x r)[l.length]? = some x := by
  unfold mid
  rw [List.getElem?_append_right (by simp)]
  simp
theorem mid_cons (l : List α) (x y : α) (r : List α) : mid (y :: l) x r = mid l y (x :: r) := by simp [mid]
theorem mid_before (l : List α) (x y : α) (r : List α) : (mid (y :: l) x r)[l.length]? = some y := by rw [mid_cons]; exact mid_at l y _
theorem mid_set (l : List α) (x z : α) (r : List α) : (mid l x r).set l.length z = mid l z r := by
  unfold mid
  rw [List.set_append_right _ _ (by simp)]
  simp
theorem mid_swap (l : List α) (x y : α) (r : List α) : ((mid (y :: l) x r).set (l.length + 1) y).set l.length x = mid l x (y :: r) := by
  have h : (mid (y :: l) x r).set (l.length + 1) y = mid (y :: l) y r := mid_set (y :: l) x y r
  rw [h, mid_cons, mid_set]
end
end Go.Proofs.Ytahajkiadfgpbaa
namespace Go.Proofs.Ytahajkiadfgpbaa
set_option maxHeartbeats 4000000
set_option maxRecDepth 100000

abbrev Fd := Int × Int
def cmpF (x y : Fd) : Int := if cmpI x.2 y.2 ≠ 0 then cmpI x.2 y.2 else cmpI x.1 y.1
def ltF (x y : Fd) : Bool := decide (cmpF x y < 0)
theorem c_cmpF (x y : Fd) : PC env 26 [⟨FoundT, x⟩, ⟨FoundT, y⟩] (.int .i64) (cmpF x y) := c_NearCmp x y
theorem start_ins (xs : List Fd) : xs = ((xs.take 1).foldl (insR ltF) []).reverse ++ xs.drop 1 := by
  match xs with
  | [] => rfl
  | x :: xs => rfl
theorem h_ins (xs : List Fd) : HC env 38 [.lfull 1000000000, .iv (.int .i64) (0 : Int), .iv (.int .i64) (xs.length : Int), .iv (.clo 26 .unit) ()] [(1000000000, .arr FoundT xs)] (.tup []) [(1000000000, .arr FoundT (isort ltF xs))] := by
  refine HC.of_PW (m := 2000) env_ok fn_38 rfl rfl rfl rfl (by kernel_rfl) ?_; intro hx hbl; simp only [Try.f38]; simp only [PQ_need, PQ_upd, PQ_imp, PQ_both, PQ_allx, PQ_alln, PQ_exi, PQ_call, PQ_val, PQ_new, PQ_store, PQ_append, PQ_sealed, PQ_hcall, PO_nil, PO_none, PO_some, PH_some, PK_tt, PK_ff, PK_tf, PK_ft, PK_undef, PK_dec_t, PK_dec_f, PB_t, PB_f, PB_dec, PB_ndec, PK_ndec_t, PK_ndec_f, PX_some, PW_nil, PW_blk, PW_inLoop, PW_skip, PW_seq, PW_reg, PW_draw, PW_cond, PW_block, PW_loop, PW_exit, PW_ret, entrySl, entryPV, ivs, argPV, capsOf, List.toList_toArray, forb, madeD, made, madeAt, step1, before, nthL, without, bindsAny, guardDst, nthO, stepF, St.ev, St.get, St.set, St.put, look, mem1, lk, nbeq, nble, nblt, Nat.reduceBEq, cval, kindEq, binO, isShift, binInt, shiftInt, binStr, binEq, negIf, canEq, dep, beqD, boolV, arith, pickO, exitW, HQ, hOK, keepB, newB, flatP, nilB, beq_self_eq_true, St.hret, deadIds, renBl, back_0, back_1, back_2, back_small, retP, retV, rvals, onePV, leBl, leB, leCells, innBl, blkIn, expR, expT, expAll, exp, pk, withR, fstOf, asLit, asSl, asMp, asFnv, asOwn, boxAt, Ty.eq, Ty.cast, evAll, evParts, lenO, intV, appSrc, appendO, lookupO, mapUpdateO, rangeO, nextO, entryO, itEntries, keyT, plainK, Ty.zer, zeroPV, cut, inCut, cutLo, cutHi, sliceO, bound, indexO, loadO, lenEq, storeO, fillO, buildO, elemsO, nthPV, extractD, extractO, callO, hcallO, hcall1, hArgs, hArg, cloO, lastN, chainT, nodupB, innIds, reach, blkIds, passed, fwd, idxOf, PV.ids, PV.idsL, PV.inn, PV.innL, PV.ren, PV.renL, convO, minMax, fieldOff, fieldTy, offOf, fldTy, elemTy, chainLen, arrLen, join, part, widens, cellsOf, Ty.val, PV.cells, aggCells, zeroCells, zeroDen, Ty.cells, Ty.flat, Ty.ok, owns, PV.arrs, PV.arrsL, PV.refs, PV.refsL, PV.kill, PV.killL, PV.sealw, PV.sealL, mapSl, Blk.map, mapBl, dropBl, St.kill, St.sealw, keys, oks, okPs, okP, P0, List.map, List.take, List.drop, List.headD, List.append, List.length, List.cons_append, List.nil_append, Option.bind, cond_true, cond_false, ↓reduceIte, ↓reduceDIte, Bool.not_true, Bool.not_false, Bool.and_true, Bool.true_and, Bool.and_false, Bool.false_and, Bool.false_or, Bool.or_false, Bool.true_or, Bool.or_true, true_implies, Option.some.injEq, decide_true, decide_false, decide_eq_true_eq, decide_eq_false_iff_not, Nat.add_zero, Nat.zero_add, Nat.reduceAdd, Nat.reduceSub, Nat.reduceMul, Nat.reduceLeDiff, Int.toNat_natCast, Nat.lt_irrefl, and_true, true_and, or_false, or_true, true_or, false_or, ← Bool.decide_and, ← Bool.decide_or, ← decide_not, Decidable.not_not, min_i8, max_i8, min_i16, max_i16, min_i32, max_i32, min_i64, max_i64, min_u8, max_u8, min_u16, max_u16, min_u32, max_u32, min_u64, max_u64, Int.reduceLT, Int.reduceLE, Int.cast_ofNat_Int, Int.reduceToNat, Int.toNat_zero, Int.toNat_one, Int.le_refl, and_self, Int.reduceNeg, e_ty1, e_ty2, e_ty3, e_ty4, e_ty5, e_ty6, e_ty7, e_ty8, e_ty9, e_ty10, e_ty11, e_ty12, e_ty13, e_ty14, e_ty21, e_ty22, e_ty23, e_ty24, e_ty25, e_ty26, e_ty27, e_ty28, e_ty29, e_ty30, e_ty31, e_ty32, e_ty33, e_ty34, e_ty35, e_ty36, e_ty37, e_ty38, e_ty39, e_ty40, e_ty41, e_ty42, e_ty43, e_ty44, e_ty45, e_ty46, e_ty47, e_ty48, e_ty49, e_ty50, e_ty51, e_ty52, e_ty53, e_ty54, e_ty55, e_ty56, e_ty57, e_ty58, e_ty59, e_ty60, e_ty61, e_ty62, e_ty63, e_ty64, e_ty65, e_ty66, e_ty67, e_ty68, e_ty69, e_ty70, e_ty71, e_ty72, e_ty73, e_ty74, e_ty75, e_ty76, e_ty77, e_ty79, e_ty80, e_ty81, e_ty83, e_ty84, e_ty85, e_ty86, e_ty87, e_ty88, e_ty89, e_ty90, e_ty91, e_ty93, e_ty96, e_ty97, e_ty103, e_ty104, e_ty105, e_ty106, e_ty108, e_ty109, e_str7, e_str8, e_str13, e_str14, e_str24, e_str25, e_str31, e_str32, e_str45, e_str46, e_str56, e_str57, e_str22, e_str27, e_str43, e_str50, e_str52, e_str59, e_str63, e_cmp7, e_cmp8, e_cmp22, e_cmp43, e_cmp45, e_cmp46, e_cmp50, e_cmp56, e_cmp57, e_cmp59, e_fn2, e_fn3, e_fn4, e_fn5, e_fn6, e_fn7, e_fn8, e_fn9, e_fn10, e_fn11, e_fn12, e_fn13, e_fn14, e_fn15, e_fn16, e_fn17, e_fn18, e_fn19, e_fn20, e_fn21, e_fn22, e_fn24, e_fn27, e_fn28, e_fn29, e_fn30, e_fn31, e_fn32, e_fn33, e_fn36, e_fn37, e_fn46, e_fn47, e_fn49, e_fn23, e_fn26, e_fn34, e_fn25, e_hfn25, e_fn35, e_hfn35, e_fn38, e_hfn38]
  have hlen : (xs.length : Int) ≤ 9223372036854775807 := by
    have := hx.2.2.1
    simp only [okP, Ty.ok, max_i64] at this
    exact this.2
  refine ⟨by omega, ?_⟩
  refine Walks.loopW (X := Nat) (fun k => ⟨[(8, .iv (.int .i64) (k : Int)), (0, .lfull 1000000000), (1, .iv (.int .i64) (0 : Int)), (2, .iv (.int .i64) (xs.length : Int)), (3, .fn 26 [])],
    [(1000000000, .arr FoundT (((xs.take k).foldl (insR ltF) []).reverse ++ xs.drop k))]⟩)
    (fun k => 1 ≤ k ∧ (k ≤ xs.length ∨ k = 1)) (fun k => xs.length - k) 1 ?_ ⟨Nat.le_refl _, Or.inr rfl⟩ ?_
  · refine ⟨⟨Or.inl rfl, Or.inl rfl, Or.inl rfl, Or.inl rfl, Or.inl rfl, trivial⟩, ⟨?_, trivial⟩, rfl, rfl⟩
    exact congrArg (Blk.arr FoundT) (start_ins xs)
  intro k ⟨hk, hk'⟩ back
  refine PW_sound env_ok ⟨_, fn_38, rfl⟩ 2000 _ _ (by kernel_rfl) ?_; simp only [PQ_need, PQ_upd, PQ_imp, PQ_both, PQ_allx, PQ_alln, PQ_exi, PQ_call, PQ_val, PQ_new, PQ_store, PQ_append, PQ_sealed, PQ_hcall, PO_nil, PO_none, PO_some, PH_some, PK_tt, PK_ff, PK_tf, PK_ft, PK_undef, PK_dec_t, PK_dec_f, PB_t, PB_f, PB_dec, PB_ndec, PK_ndec_t, PK_ndec_f, PX_some, PW_nil, PW_blk, PW_inLoop, PW_skip, PW_seq, PW_reg, PW_draw, PW_cond, PW_block, PW_loop, PW_exit, PW_ret, entrySl, entryPV, ivs, argPV, capsOf, List.toList_toArray, forb, madeD, made, madeAt, step1, before, nthL, without, bindsAny, guardDst, nthO, stepF, St.ev, St.get, St.set, St.put, look, mem1, lk, nbeq, nble, nblt, Nat.reduceBEq, cval, kindEq, binO, isShift, binInt, shiftInt, binStr, binEq, negIf, canEq, dep, beqD, boolV, arith, pickO, exitW, HQ, hOK, keepB, newB, flatP, nilB, beq_self_eq_true, St.hret, deadIds, renBl, back_0, back_1, back_2, back_small, retP, retV, rvals, onePV, leBl, leB, leCells, innBl, blkIn, expR, expT, expAll, exp, pk, withR, fstOf, asLit, asSl, asMp, asFnv, asOwn, boxAt, Ty.eq, Ty.cast, evAll, evParts, lenO, intV, appSrc, appendO, lookupO, mapUpdateO, rangeO, nextO, entryO, itEntries, keyT, plainK, Ty.zer, zeroPV, cut, inCut, cutLo, cutHi, sliceO, bound, indexO, loadO, lenEq, storeO, fillO, buildO, elemsO, nthPV, extractD, extractO, callO, hcallO, hcall1, hArgs, hArg, cloO, lastN, chainT, nodupB, innIds, reach, blkIds, passed, fwd, idxOf, PV.ids, PV.idsL, PV.inn, PV.innL, PV.ren, PV.renL, convO, minMax, fieldOff, fieldTy, offOf, fldTy, elemTy, chainLen, arrLen, join, part, widens, cellsOf, Ty.val, PV.cells, aggCells, zeroCells, zeroDen, Ty.cells, Ty.flat, Ty.ok, owns, PV.arrs, PV.arrsL, PV.refs, PV.refsL, PV.kill, PV.killL, PV.sealw, PV.sealL, mapSl, Blk.map, mapBl, dropBl, St.kill, St.sealw, keys, oks, okPs, okP, P0, List.map, List.take, List.drop, List.headD, List.append, List.length, List.cons_append, List.nil_append, Option.bind, cond_true, cond_false, ↓reduceIte, ↓reduceDIte, Bool.not_true, Bool.not_false, Bool.and_true, Bool.true_and, Bool.and_false, Bool.false_and, Bool.false_or, Bool.or_false, Bool.true_or, Bool.or_true, true_implies, Option.some.injEq, decide_true, decide_false, decide_eq_true_eq, decide_eq_false_iff_not, Nat.add_zero, Nat.zero_add, Nat.reduceAdd, Nat.reduceSub, Nat.reduceMul, Nat.reduceLeDiff, Int.toNat_natCast, Nat.lt_irrefl, and_true, true_and, or_false, or_true, true_or, false_or, ← Bool.decide_and, ← Bool.decide_or, ← decide_not, Decidable.not_not, min_i8, max_i8, min_i16, max_i16, min_i32, max_i32, min_i64, max_i64, min_u8, max_u8, min_u16, max_u16, min_u32, max_u32, min_u64, max_u64, Int.reduceLT, Int.reduceLE, Int.cast_ofNat_Int, Int.reduceToNat, Int.toNat_zero, Int.toNat_one, Int.le_refl, and_self, Int.reduceNeg, e_ty1, e_ty2, e_ty3, e_ty4, e_ty5, e_ty6, e_ty7, e_ty8, e_ty9, e_ty10, e_ty11, e_ty12, e_ty13, e_ty14, e_ty21, e_ty22, e_ty23, e_ty24, e_ty25, e_ty26, e_ty27, e_ty28, e_ty29, e_ty30, e_ty31, e_ty32, e_ty33, e_ty34, e_ty35, e_ty36, e_ty37, e_ty38, e_ty39, e_ty40, e_ty41, e_ty42, e_ty43, e_ty44, e_ty45, e_ty46, e_ty47, e_ty48, e_ty49, e_ty50, e_ty51, e_ty52, e_ty53, e_ty54, e_ty55, e_ty56, e_ty57, e_ty58, e_ty59, e_ty60, e_ty61, e_ty62, e_ty63, e_ty64, e_ty65, e_ty66, e_ty67, e_ty68, e_ty69, e_ty70, e_ty71, e_ty72, e_ty73, e_ty74, e_ty75, e_ty76, e_ty77, e_ty79, e_ty80, e_ty81, e_ty83, e_ty84, e_ty85, e_ty86, e_ty87, e_ty88, e_ty89, e_ty90, e_ty91, e_ty93, e_ty96, e_ty97, e_ty103, e_ty104, e_ty105, e_ty106, e_ty108, e_ty109, e_str7, e_str8, e_str13, e_str14, e_str24, e_str25, e_str31, e_str32, e_str45, e_str46, e_str56, e_str57, e_str22, e_str27, e_str43, e_str50, e_str52, e_str59, e_str63, e_cmp7, e_cmp8, e_cmp22, e_cmp43, e_cmp45, e_cmp46, e_cmp50, e_cmp56, e_cmp57, e_cmp59, e_fn2, e_fn3, e_fn4, e_fn5, e_fn6, e_fn7, e_fn8, e_fn9, e_fn10, e_fn11, e_fn12, e_fn13, e_fn14, e_fn15, e_fn16, e_fn17, e_fn18, e_fn19, e_fn20, e_fn21, e_fn22, e_fn24, e_fn27, e_fn28, e_fn29, e_fn30, e_fn31, e_fn32, e_fn33, e_fn36, e_fn37, e_fn46, e_fn47, e_fn49, e_fn23, e_fn26, e_fn34, e_fn25, e_hfn25, e_fn35, e_hfn35, e_fn38, e_hfn38]
  have hfl := foldl_insR_length ltF (xs.take k) []
  refine ⟨fun h => ?_, fun h => ?_⟩
  rotate_left
  · have : xs.length ≤ k := by omega
    rw [List.take_of_length_le this, List.drop_eq_nil_of_le this, List.append_nil]
    rfl
  have hkl : k < xs.length := by omega
  have htk : (xs.take k).length = k := by rw [List.length_take]; omega
  simp only [htk, List.length_nil, Nat.zero_add] at hfl
  obtain ⟨x, hxk⟩ := get_of_lt hkl
  refine Walks.loopW (X := List Fd × List Fd) (fun z => ⟨[(9, .iv (.int .i64) (z.1.length : Int)), (8, .iv (.int .i64) (k : Int)), (0, .lfull 1000000000), (1, .iv (.int .i64) (0 : Int)), (2, .iv (.int .i64) (xs.length : Int)), (3, .fn 26 [])],
    [(1000000000, .arr FoundT (mid z.1 x (z.2 ++ xs.drop (k + 1))))]⟩)
    (fun z => insR ltF ((xs.take k).foldl (insR ltF) []) x = z.2.reverse ++ insR ltF z.1 x ∧ z.1.length + z.2.length = k) (fun z => z.1.length) ((xs.take k).foldl (insR ltF) [], []) ?_ ⟨rfl, ?_⟩ ?_
  · refine ⟨⟨Or.inl ?_, Or.inl rfl, Or.inl rfl, Or.inl rfl, Or.inl rfl, Or.inl rfl, trivial⟩, ⟨?_, trivial⟩, rfl, rfl⟩
    · dsimp only
      rw [hfl]
      rfl
    · dsimp only
      rw [drop_cons hxk]
      rfl
  · exact hfl
  intro ⟨L, R⟩ ⟨hins, hLR⟩ back2
  dsimp only at hins hLR
  refine PW_sound env_ok ⟨_, fn_38, rfl⟩ 2000 _ _ (by kernel_rfl) ?_; simp only [PQ_need, PQ_upd, PQ_imp, PQ_both, PQ_allx, PQ_alln, PQ_exi, PQ_call, PQ_val, PQ_new, PQ_store, PQ_append, PQ_sealed, PQ_hcall, PO_nil, PO_none, PO_some, PH_some, PK_tt, PK_ff, PK_tf, PK_ft, PK_undef, PK_dec_t, PK_dec_f, PB_t, PB_f, PB_dec, PB_ndec, PK_ndec_t, PK_ndec_f, PX_some, PW_nil, PW_blk, PW_inLoop, PW_skip, PW_seq, PW_reg, PW_draw, PW_cond, PW_block, PW_loop, PW_exit, PW_ret, entrySl, entryPV, ivs, argPV, capsOf, List.toList_toArray, forb, madeD, made, madeAt, step1, before, nthL, without, bindsAny, guardDst, nthO, stepF, St.ev, St.get, St.set, St.put, look, mem1, lk, nbeq, nble, nblt, Nat.reduceBEq, cval, kindEq, binO, isShift, binInt, shiftInt, binStr, binEq, negIf, canEq, dep, beqD, boolV, arith, pickO, exitW, HQ, hOK, keepB, newB, flatP, nilB, beq_self_eq_true, St.hret, deadIds, renBl, back_0, back_1, back_2, back_small, retP, retV, rvals, onePV, leBl, leB, leCells, innBl, blkIn, expR, expT, expAll, exp, pk, withR, fstOf, asLit, asSl, asMp, asFnv, asOwn, boxAt, Ty.eq, Ty.cast, evAll, evParts, lenO, intV, appSrc, appendO, lookupO, mapUpdateO, rangeO, nextO, entryO, itEntries, keyT, plainK, Ty.zer, zeroPV, cut, inCut, cutLo, cutHi, sliceO, bound, indexO, loadO, lenEq, storeO, fillO, buildO, elemsO, nthPV, extractD, extractO, callO, hcallO, hcall1, hArgs, hArg, cloO, lastN, chainT, nodupB, innIds, reach, blkIds, passed, fwd, idxOf, PV.ids, PV.idsL, PV.inn, PV.innL, PV.ren, PV.renL, convO, minMax, fieldOff, fieldTy, offOf, fldTy, elemTy, chainLen, arrLen, join, part, widens, cellsOf, Ty.val, PV.cells, aggCells, zeroCells, zeroDen, Ty.cells, Ty.flat, Ty.ok, owns, PV.arrs, PV.arrsL, PV.refs, PV.refsL, PV.kill, PV.killL, PV.sealw, PV.sealL, mapSl, Blk.map, mapBl, dropBl, St.kill, St.sealw, keys, oks, okPs, okP, P0, List.map, List.take, List.drop, List.headD, List.append, List.length, List.cons_append, List.nil_append, Option.bind, cond_true, cond_false, ↓reduceIte, ↓reduceDIte, Bool.not_true, Bool.not_false, Bool.and_true, Bool.true_and, Bool.and_false, Bool.false_and, Bool.false_or, Bool.or_false, Bool.true_or, Bool.or_true, true_implies, Option.some.injEq, decide_true, decide_false, decide_eq_true_eq, decide_eq_false_iff_not, Nat.add_zero, Nat.zero_add, Nat.reduceAdd, Nat.reduceSub, Nat.reduceMul, Nat.reduceLeDiff, Int.toNat_natCast, Nat.lt_irrefl, and_true, true_and, or_false, or_true, true_or, false_or, ← Bool.decide_and, ← Bool.decide_or, ← decide_not, Decidable.not_not, min_i8, max_i8, min_i16, max_i16, min_i32, max_i32, min_i64, max_i64, min_u8, max_u8, min_u16, max_u16, min_u32, max_u32, min_u64, max_u64, Int.reduceLT, Int.reduceLE, Int.cast_ofNat_Int, Int.reduceToNat, Int.toNat_zero, Int.toNat_one, Int.le_refl, and_self, Int.reduceNeg, e_ty1, e_ty2, e_ty3, e_ty4, e_ty5, e_ty6, e_ty7, e_ty8, e_ty9, e_ty10, e_ty11, e_ty12, e_ty13, e_ty14, e_ty21, e_ty22, e_ty23, e_ty24, e_ty25, e_ty26, e_ty27, e_ty28, e_ty29, e_ty30, e_ty31, e_ty32, e_ty33, e_ty34, e_ty35, e_ty36, e_ty37, e_ty38, e_ty39, e_ty40, e_ty41, e_ty42, e_ty43, e_ty44, e_ty45, e_ty46, e_ty47, e_ty48, e_ty49, e_ty50, e_ty51, e_ty52, e_ty53, e_ty54, e_ty55, e_ty56, e_ty57, e_ty58, e_ty59, e_ty60, e_ty61, e_ty62, e_ty63, e_ty64, e_ty65, e_ty66, e_ty67, e_ty68, e_ty69, e_ty70, e_ty71, e_ty72, e_ty73, e_ty74, e_ty75, e_ty76, e_ty77, e_ty79, e_ty80, e_ty81, e_ty83, e_ty84, e_ty85, e_ty86, e_ty87, e_ty88, e_ty89, e_ty90, e_ty91, e_ty93, e_ty96, e_ty97, e_ty103, e_ty104, e_ty105, e_ty106, e_ty108, e_ty109, e_str7, e_str8, e_str13, e_str14, e_str24, e_str25, e_str31, e_str32, e_str45, e_str46, e_str56, e_str57, e_str22, e_str27, e_str43, e_str50, e_str52, e_str59, e_str63, e_cmp7, e_cmp8, e_cmp22, e_cmp43, e_cmp45, e_cmp46, e_cmp50, e_cmp56, e_cmp57, e_cmp59, e_fn2, e_fn3, e_fn4, e_fn5, e_fn6, e_fn7, e_fn8, e_fn9, e_fn10, e_fn11, e_fn12, e_fn13, e_fn14, e_fn15, e_fn16, e_fn17, e_fn18, e_fn19, e_fn20, e_fn21, e_fn22, e_fn24, e_fn27, e_fn28, e_fn29, e_fn30, e_fn31, e_fn32, e_fn33, e_fn36, e_fn37, e_fn46, e_fn47, e_fn49, e_fn23, e_fn26, e_fn34, e_fn25, e_hfn25, e_fn35, e_hfn35, e_fn38, e_hfn38]
  have hend : insR ltF L x = x :: L → mid L x (R ++ xs.drop (k + 1)) = ((xs.take (k + 1)).foldl (insR ltF) []).reverse ++ xs.drop (k + 1) := by
    intro e
    rw [take_snoc hxk, List.foldl_append, List.foldl_cons, List.foldl_nil, hins, e]
    simp [mid]
  have hml := mid_length L x (R ++ xs.drop (k + 1))
  refine ⟨fun c1 => ?_, fun c1 => ?_⟩
  · match L, c1 with
    | y :: L, _ =>
      have e1 : (((y :: L).length : Int) - 1).toNat = L.length := by simp
      simp only [e1]
      dsimp only [Ty.den] at *
      rw [List.length_cons] at *
      refine ⟨by omega, _, mid_at (y :: L) x _, by omega, by omega, _, mid_before L x y _, _, c_cmpF x y, fun _ => ⟨fun c2 => ?_, fun c2 => ?_⟩⟩
      · have hset : ((mid (y :: L) x (R ++ xs.drop (k + 1))).set (L.length + 1) y).length = (mid (y :: L) x (R ++ xs.drop (k + 1))).length := List.length_set
        refine ⟨by omega, by omega, by omega, _, mid_before L x y _, by omega, _, mid_at (y :: L) x _, by omega, by rw [hset]; omega, by omega, ?_⟩
        refine back2 _ (L, y :: R) ?_ ⟨?_, ?_⟩ (by show L.length < L.length + 1; omega)
        · refine ⟨⟨Or.inl ?_, Or.inl rfl, Or.inl rfl, Or.inl rfl, Or.inl rfl, Or.inl rfl, trivial⟩, ⟨?_, trivial⟩, rfl, rfl⟩
          · dsimp only
            have : ((L.length + 1 : Nat) : Int) - 1 = L.length := by omega
            rw [this]
            rfl
          · exact congrArg (Blk.arr FoundT) (mid_swap L x y (R ++ xs.drop (k + 1)))
        · rw [hins, insR, if_pos (show ltF x y = true from decide_eq_true c2)]
          simp
        · show L.length + (R.length + 1) = k
          omega
      · have ex : insR ltF (y :: L) x = x :: y :: L := by rw [insR, if_neg (by simpa [ltF] using c2)]
        refine ⟨by omega, ?_⟩
        refine back _ (k + 1) ?_ ⟨by omega, by omega⟩ (by omega)
        refine ⟨⟨Or.inl rfl, Or.inl rfl, Or.inl rfl, Or.inl rfl, Or.inl rfl, trivial⟩, ⟨?_, trivial⟩, rfl, rfl⟩
        exact congrArg (Blk.arr FoundT) (hend ex)
  · have e0 : L = [] := List.length_eq_zero_iff.mp (by omega)
    subst e0
    refine ⟨by omega, ?_⟩
    refine back _ (k + 1) ?_ ⟨by omega, by omega⟩ (by omega)
    refine ⟨⟨Or.inl rfl, Or.inl rfl, Or.inl rfl, Or.inl rfl, Or.inl rfl, trivial⟩, ⟨?_, trivial⟩, rfl, rfl⟩
    exact congrArg (Blk.arr FoundT) (hend rfl)
theorem h_ins0 : HC env 38 [.nilsl, .iv (.int .i64) (0 : Int), .iv (.int .i64) (0 : Int), .iv (.clo 26 .unit) ()] [] (.tup []) [] := by
  refine HC.of_PW (m := 2000) env_ok fn_38 rfl rfl rfl rfl (by kernel_rfl) ?_; intro hx hbl; simp only [Try.f38]; simp only [PQ_need, PQ_upd, PQ_imp, PQ_both, PQ_allx, PQ_alln, PQ_exi, PQ_call, PQ_val, PQ_new, PQ_store, PQ_append, PQ_sealed, PQ_hcall, PO_nil, PO_none, PO_some, PH_some, PK_tt, PK_ff, PK_tf, PK_ft, PK_undef, PK_dec_t, PK_dec_f, PB_t, PB_f, PB_dec, PB_ndec, PK_ndec_t, PK_ndec_f, PX_some, PW_nil, PW_blk, PW_inLoop, PW_skip, PW_seq, PW_reg, PW_draw, PW_cond, PW_block, PW_loop, PW_exit, PW_ret, entrySl, entryPV, ivs, argPV, capsOf, List.toList_toArray, forb, madeD, made, madeAt, step1, before, nthL, without, bindsAny, guardDst, nthO, stepF, St.ev, St.get, St.set, St.put, look, mem1, lk, nbeq, nble, nblt, Nat.reduceBEq, cval, kindEq, binO, isShift, binInt, shiftInt, binStr, binEq, negIf, canEq, dep, beqD, boolV, arith, pickO, exitW, HQ, hOK, keepB, newB, flatP, nilB, beq_self_eq_true, St.hret, deadIds, renBl, back_0, back_1, back_2, back_small, retP, retV, rvals, onePV, leBl, leB, leCells, innBl, blkIn, expR, expT, expAll, exp, pk, withR, fstOf, asLit, asSl, asMp, asFnv, asOwn, boxAt, Ty.eq, Ty.cast, evAll, evParts, lenO, intV, appSrc, appendO, lookupO, mapUpdateO, rangeO, nextO, entryO, itEntries, keyT, plainK, Ty.zer, zeroPV, cut, inCut, cutLo, cutHi, sliceO, bound, indexO, loadO, lenEq, storeO, fillO, buildO, elemsO, nthPV, extractD, extractO, callO, hcallO, hcall1, hArgs, hArg, cloO, lastN, chainT, nodupB, innIds, reach, blkIds, passed, fwd, idxOf, PV.ids, PV.idsL, PV.inn, PV.innL, PV.ren, PV.renL, convO, minMax, fieldOff, fieldTy, offOf, fldTy, elemTy, chainLen, arrLen, join, part, widens, cellsOf, Ty.val, PV.cells, aggCells, zeroCells, zeroDen, Ty.cells, Ty.flat, Ty.ok, owns, PV.arrs, PV.arrsL, PV.refs, PV.refsL, PV.kill, PV.killL, PV.sealw, PV.sealL, mapSl, Blk.map, mapBl, dropBl, St.kill, St.sealw, keys, oks, okPs, okP, P0, List.map, List.take, List.drop, List.headD, List.append, List.length, List.cons_append, List.nil_append, Option.bind, cond_true, cond_false, ↓reduceIte, ↓reduceDIte, Bool.not_true, Bool.not_false, Bool.and_true, Bool.true_and, Bool.and_false, Bool.false_and, Bool.false_or, Bool.or_false, Bool.true_or, Bool.or_true, true_implies, Option.some.injEq, decide_true, decide_false, decide_eq_true_eq, decide_eq_false_iff_not, Nat.add_zero, Nat.zero_add, Nat.reduceAdd, Nat.reduceSub, Nat.reduceMul, Nat.reduceLeDiff, Int.toNat_natCast, Nat.lt_irrefl, and_true, true_and, or_false, or_true, true_or, false_or, ← Bool.decide_and, ← Bool.decide_or, ← decide_not, Decidable.not_not, min_i8, max_i8, min_i16, max_i16, min_i32, max_i32, min_i64, max_i64, min_u8, max_u8, min_u16, max_u16, min_u32, max_u32, min_u64, max_u64, Int.reduceLT, Int.reduceLE, Int.cast_ofNat_Int, Int.reduceToNat, Int.toNat_zero, Int.toNat_one, Int.le_refl, and_self, Int.reduceNeg, e_ty1, e_ty2, e_ty3, e_ty4, e_ty5, e_ty6, e_ty7, e_ty8, e_ty9, e_ty10, e_ty11, e_ty12, e_ty13, e_ty14, e_ty21, e_ty22, e_ty23, e_ty24, e_ty25, e_ty26, e_ty27, e_ty28, e_ty29, e_ty30, e_ty31, e_ty32, e_ty33, e_ty34, e_ty35, e_ty36, e_ty37, e_ty38, e_ty39, e_ty40, e_ty41, e_ty42, e_ty43, e_ty44, e_ty45, e_ty46, e_ty47, e_ty48, e_ty49, e_ty50, e_ty51, e_ty52, e_ty53, e_ty54, e_ty55, e_ty56, e_ty57, e_ty58, e_ty59, e_ty60, e_ty61, e_ty62, e_ty63, e_ty64, e_ty65, e_ty66, e_ty67, e_ty68, e_ty69, e_ty70, e_ty71, e_ty72, e_ty73, e_ty74, e_ty75, e_ty76, e_ty77, e_ty79, e_ty80, e_ty81, e_ty83, e_ty84, e_ty85, e_ty86, e_ty87, e_ty88, e_ty89, e_ty90, e_ty91, e_ty93, e_ty96, e_ty97, e_ty103, e_ty104, e_ty105, e_ty106, e_ty108, e_ty109, e_str7, e_str8, e_str13, e_str14, e_str24, e_str25, e_str31, e_str32, e_str45, e_str46, e_str56, e_str57, e_str22, e_str27, e_str43, e_str50, e_str52, e_str59, e_str63, e_cmp7, e_cmp8, e_cmp22, e_cmp43, e_cmp45, e_cmp46, e_cmp50, e_cmp56, e_cmp57, e_cmp59, e_fn2, e_fn3, e_fn4, e_fn5, e_fn6, e_fn7, e_fn8, e_fn9, e_fn10, e_fn11, e_fn12, e_fn13, e_fn14, e_fn15, e_fn16, e_fn17, e_fn18, e_fn19, e_fn20, e_fn21, e_fn22, e_fn24, e_fn27, e_fn28, e_fn29, e_fn30, e_fn31, e_fn32, e_fn33, e_fn36, e_fn37, e_fn46, e_fn47, e_fn49, e_fn23, e_fn26, e_fn34, e_fn25, e_hfn25, e_fn35, e_hfn35, e_fn38, e_hfn38]
  refine ⟨by omega, ?_⟩
  refine Walks.loopW (X := Unit) (fun _ => ⟨[(8, .iv (.int .i64) (1 : Int)), (2, .iv (.int .i64) (0 : Int))], []⟩) (fun _ => True) (fun _ => 0) () ⟨⟨Or.inl rfl, Or.inl rfl, trivial⟩, trivial, rfl, rfl⟩ trivial ?_
  intro _ _ back
  refine PW_sound env_ok ⟨_, fn_38, rfl⟩ 2000 _ _ (by kernel_rfl) ?_; simp only [PQ_need, PQ_upd, PQ_imp, PQ_both, PQ_allx, PQ_alln, PQ_exi, PQ_call, PQ_val, PQ_new, PQ_store, PQ_append, PQ_sealed, PQ_hcall, PO_nil, PO_none, PO_some, PH_some, PK_tt, PK_ff, PK_tf, PK_ft, PK_undef, PK_dec_t, PK_dec_f, PB_t, PB_f, PB_dec, PB_ndec, PK_ndec_t, PK_ndec_f, PX_some, PW_nil, PW_blk, PW_inLoop, PW_skip, PW_seq, PW_reg, PW_draw, PW_cond, PW_block, PW_loop, PW_exit, PW_ret, entrySl, entryPV, ivs, argPV, capsOf, List.toList_toArray, forb, madeD, made, madeAt, step1, before, nthL, without, bindsAny, guardDst, nthO, stepF, St.ev, St.get, St.set, St.put, look, mem1, lk, nbeq, nble, nblt, Nat.reduceBEq, cval, kindEq, binO, isShift, binInt, shiftInt, binStr, binEq, negIf, canEq, dep, beqD, boolV, arith, pickO, exitW, HQ, hOK, keepB, newB, flatP, nilB, beq_self_eq_true, St.hret, deadIds, renBl, back_0, back_1, back_2, back_small, retP, retV, rvals, onePV, leBl, leB, leCells, innBl, blkIn, expR, expT, expAll, exp, pk, withR, fstOf, asLit, asSl, asMp, asFnv, asOwn, boxAt, Ty.eq, Ty.cast, evAll, evParts, lenO, intV, appSrc, appendO, lookupO, mapUpdateO, rangeO, nextO, entryO, itEntries, keyT, plainK, Ty.zer, zeroPV, cut, inCut, cutLo, cutHi, sliceO, bound, indexO, loadO, lenEq, storeO, fillO, buildO, elemsO, nthPV, extractD, extractO, callO, hcallO, hcall1, hArgs, hArg, cloO, lastN, chainT, nodupB, innIds, reach, blkIds, passed, fwd, idxOf, PV.ids, PV.idsL, PV.inn, PV.innL, PV.ren, PV.renL, convO, minMax, fieldOff, fieldTy, offOf, fldTy, elemTy, chainLen, arrLen, join, part, widens, cellsOf, Ty.val, PV.cells, aggCells, zeroCells, zeroDen, Ty.cells, Ty.flat, Ty.ok, owns, PV.arrs, PV.arrsL, PV.refs, PV.refsL, PV.kill, PV.killL, PV.sealw, PV.sealL, mapSl, Blk.map, mapBl, dropBl, St.kill, St.sealw, keys, oks, okPs, okP, P0, List.map, List.take, List.drop, List.headD, List.append, List.length, List.cons_append, List.nil_append, Option.bind, cond_true, cond_false, ↓reduceIte, ↓reduceDIte, Bool.not_true, Bool.not_false, Bool.and_true, Bool.true_and, Bool.and_false, Bool.false_and, Bool.false_or, Bool.or_false, Bool.true_or, Bool.or_true, true_implies, Option.some.injEq, decide_true, decide_false, decide_eq_true_eq, decide_eq_false_iff_not, Nat.add_zero, Nat.zero_add, Nat.reduceAdd, Nat.reduceSub, Nat.reduceMul, Nat.reduceLeDiff, Int.toNat_natCast, Nat.lt_irrefl, and_true, true_and, or_false, or_true, true_or, false_or, ← Bool.decide_and, ← Bool.decide_or, ← decide_not, Decidable.not_not, min_i8, max_i8, min_i16, max_i16, min_i32, max_i32, min_i64, max_i64, min_u8, max_u8, min_u16, max_u16, min_u32, max_u32, min_u64, max_u64, Int.reduceLT, Int.reduceLE, Int.cast_ofNat_Int, Int.reduceToNat, Int.toNat_zero, Int.toNat_one, Int.le_refl, and_self, Int.reduceNeg, e_ty1, e_ty2, e_ty3, e_ty4, e_ty5, e_ty6, e_ty7, e_ty8, e_ty9, e_ty10, e_ty11, e_ty12, e_ty13, e_ty14, e_ty21, e_ty22, e_ty23, e_ty24, e_ty25, e_ty26, e_ty27, e_ty28, e_ty29, e_ty30, e_ty31, e_ty32, e_ty33, e_ty34, e_ty35, e_ty36, e_ty37, e_ty38, e_ty39, e_ty40, e_ty41, e_ty42, e_ty43, e_ty44, e_ty45, e_ty46, e_ty47, e_ty48, e_ty49, e_ty50, e_ty51, e_ty52, e_ty53, e_ty54, e_ty55, e_ty56, e_ty57, e_ty58, e_ty59, e_ty60, e_ty61, e_ty62, e_ty63, e_ty64, e_ty65, e_ty66, e_ty67, e_ty68, e_ty69, e_ty70, e_ty71, e_ty72, e_ty73, e_ty74, e_ty75, e_ty76, e_ty77, e_ty79, e_ty80, e_ty81, e_ty83, e_ty84, e_ty85, e_ty86, e_ty87, e_ty88, e_ty89, e_ty90, e_ty91, e_ty93, e_ty96, e_ty97, e_ty103, e_ty104, e_ty105, e_ty106, e_ty108, e_ty109, e_str7, e_str8, e_str13, e_str14, e_str24, e_str25, e_str31, e_str32, e_str45, e_str46, e_str56, e_str57, e_str22, e_str27, e_str43, e_str50, e_str52, e_str59, e_str63, e_cmp7, e_cmp8, e_cmp22, e_cmp43, e_cmp45, e_cmp46, e_cmp50, e_cmp56, e_cmp57, e_cmp59, e_fn2, e_fn3, e_fn4, e_fn5, e_fn6, e_fn7, e_fn8, e_fn9, e_fn10, e_fn11, e_fn12, e_fn13, e_fn14, e_fn15, e_fn16, e_fn17, e_fn18, e_fn19, e_fn20, e_fn21, e_fn22, e_fn24, e_fn27, e_fn28, e_fn29, e_fn30, e_fn31, e_fn32, e_fn33, e_fn36, e_fn37, e_fn46, e_fn47, e_fn49, e_fn23, e_fn26, e_fn34, e_fn25, e_hfn25, e_fn35, e_hfn35, e_fn38, e_hfn38]
def tb : List UInt8 := (List.range 256).map fun i => UInt8.ofNat (if i = 0 then 0 else Nat.log2 i + 1)
theorem tb_len : tb.length = 256 := by unfold tb; simp
def lenT (n : Int) : Int := 0 + ((tb.getD n.toNat 0).toNat : Int)
theorem c_Len64 (n : Int) (h0 : 0 ≤ n) (h : n ≤ 255) : PC env 47 [⟨.int .u64, n⟩] (.int .i64) (lenT n) := by
  have hw : IntKind.u8.wrap n = n := wrap_in _ ⟨h0, h⟩
  have key : ∀ (l : List UInt8), l = tb → l[n.toNat]? = some (tb.getD n.toNat 0) := by
    intro l hl
    subst hl
    have := tb_len
    rw [List.getD_eq_getElem?_getD, List.getElem?_eq_getElem (by omega)]
    rfl
  refine PC.of_PW (m := 2000) env_ok fn_47 rfl rfl rfl rfl (by kernel_rfl) ?_; intro hx; simp only [Try.f47]; simp only [PQ_need, PQ_upd, PQ_imp, PQ_both, PQ_allx, PQ_alln, PQ_exi, PQ_call, PQ_val, PQ_new, PQ_store, PQ_append, PQ_sealed, PQ_hcall, PO_nil, PO_none, PO_some, PH_some, PK_tt, PK_ff, PK_tf, PK_ft, PK_undef, PK_dec_t, PK_dec_f, PB_t, PB_f, PB_dec, PB_ndec, PK_ndec_t, PK_ndec_f, PX_some, PW_nil, PW_blk, PW_inLoop, PW_skip, PW_seq, PW_reg, PW_draw, PW_cond, PW_block, PW_loop, PW_exit, PW_ret, entrySl, entryPV, ivs, argPV, capsOf, List.toList_toArray, forb, madeD, made, madeAt, step1, before, nthL, without, bindsAny, guardDst, nthO, stepF, St.ev, St.get, St.set, St.put, look, mem1, lk, nbeq, nble, nblt, Nat.reduceBEq, cval, kindEq, binO, isShift, binInt, shiftInt, binStr, binEq, negIf, canEq, dep, beqD, boolV, arith, pickO, exitW, HQ, hOK, keepB, newB, flatP, nilB, beq_self_eq_true, St.hret, deadIds, renBl, back_0, back_1, back_2, back_small, retP, retV, rvals, onePV, leBl, leB, leCells, innBl, blkIn, expR, expT, expAll, exp, pk, withR, fstOf, asLit, asSl, asMp, asFnv, asOwn, boxAt, Ty.eq, Ty.cast, evAll, evParts, lenO, intV, appSrc, appendO, lookupO, mapUpdateO, rangeO, nextO, entryO, itEntries, keyT, plainK, Ty.zer, zeroPV, cut, inCut, cutLo, cutHi, sliceO, bound, indexO, loadO, lenEq, storeO, fillO, buildO, elemsO, nthPV, extractD, extractO, callO, hcallO, hcall1, hArgs, hArg, cloO, lastN, chainT, nodupB, innIds, reach, blkIds, passed, fwd, idxOf, PV.ids, PV.idsL, PV.inn, PV.innL, PV.ren, PV.renL, convO, minMax, fieldOff, fieldTy, offOf, fldTy, elemTy, chainLen, arrLen, join, part, widens, cellsOf, Ty.val, PV.cells, aggCells, zeroCells, zeroDen, Ty.cells, Ty.flat, Ty.ok, owns, PV.arrs, PV.arrsL, PV.refs, PV.refsL, PV.kill, PV.killL, PV.sealw, PV.sealL, mapSl, Blk.map, mapBl, dropBl, St.kill, St.sealw, keys, oks, okPs, okP, P0, List.map, List.take, List.drop, List.headD, List.append, List.length, List.cons_append, List.nil_append, Option.bind, cond_true, cond_false, ↓reduceIte, ↓reduceDIte, Bool.not_true, Bool.not_false, Bool.and_true, Bool.true_and, Bool.and_false, Bool.false_and, Bool.false_or, Bool.or_false, Bool.true_or, Bool.or_true, true_implies, Option.some.injEq, decide_true, decide_false, decide_eq_true_eq, decide_eq_false_iff_not, Nat.add_zero, Nat.zero_add, Nat.reduceAdd, Nat.reduceSub, Nat.reduceMul, Nat.reduceLeDiff, Int.toNat_natCast, Nat.lt_irrefl, and_true, true_and, or_false, or_true, true_or, false_or, ← Bool.decide_and, ← Bool.decide_or, ← decide_not, Decidable.not_not, min_i8, max_i8, min_i16, max_i16, min_i32, max_i32, min_i64, max_i64, min_u8, max_u8, min_u16, max_u16, min_u32, max_u32, min_u64, max_u64, Int.reduceLT, Int.reduceLE, Int.cast_ofNat_Int, Int.reduceToNat, Int.toNat_zero, Int.toNat_one, Int.le_refl, and_self, Int.reduceNeg, e_ty1, e_ty2, e_ty3, e_ty4, e_ty5, e_ty6, e_ty7, e_ty8, e_ty9, e_ty10, e_ty11, e_ty12, e_ty13, e_ty14, e_ty21, e_ty22, e_ty23, e_ty24, e_ty25, e_ty26, e_ty27, e_ty28, e_ty29, e_ty30, e_ty31, e_ty32, e_ty33, e_ty34, e_ty35, e_ty36, e_ty37, e_ty38, e_ty39, e_ty40, e_ty41, e_ty42, e_ty43, e_ty44, e_ty45, e_ty46, e_ty47, e_ty48, e_ty49, e_ty50, e_ty51, e_ty52, e_ty53, e_ty54, e_ty55, e_ty56, e_ty57, e_ty58, e_ty59, e_ty60, e_ty61, e_ty62, e_ty63, e_ty64, e_ty65, e_ty66, e_ty67, e_ty68, e_ty69, e_ty70, e_ty71, e_ty72, e_ty73, e_ty74, e_ty75, e_ty76, e_ty77, e_ty79, e_ty80, e_ty81, e_ty83, e_ty84, e_ty85, e_ty86, e_ty87, e_ty88, e_ty89, e_ty90, e_ty91, e_ty93, e_ty96, e_ty97, e_ty103, e_ty104, e_ty105, e_ty106, e_ty108, e_ty109, e_str7, e_str8, e_str13, e_str14, e_str24, e_str25, e_str31, e_str32, e_str45, e_str46, e_str56, e_str57, e_str22, e_str27, e_str43, e_str50, e_str52, e_str59, e_str63, e_cmp7, e_cmp8, e_cmp22, e_cmp43, e_cmp45, e_cmp46, e_cmp50, e_cmp56, e_cmp57, e_cmp59, e_fn2, e_fn3, e_fn4, e_fn5, e_fn6, e_fn7, e_fn8, e_fn9, e_fn10, e_fn11, e_fn12, e_fn13, e_fn14, e_fn15, e_fn16, e_fn17, e_fn18, e_fn19, e_fn20, e_fn21, e_fn22, e_fn24, e_fn27, e_fn28, e_fn29, e_fn30, e_fn31, e_fn32, e_fn33, e_fn36, e_fn37, e_fn46, e_fn47, e_fn49, e_fn23, e_fn26, e_fn34, e_fn25, e_hfn25, e_fn35, e_hfn35, e_fn38, e_hfn38]
  rw [hw]
  dsimp only [Ty.den] at *
  refine ⟨fun g => absurd g (by omega), fun _ => ⟨fun g => absurd g (by omega), fun _ => ⟨fun g => absurd g (by omega), fun _ => ⟨h0, _, ⟨_, key _ (by kernel_rfl), rfl⟩, ?_, rfl⟩⟩⟩⟩
  have hb := UInt8.toNat_lt (tb.getD n.toNat 0)
  omega
theorem c_Len (n : Int) (h0 : 0 ≤ n) (h : n ≤ 255) : PC env 36 [⟨.int .u64, n⟩] (.int .i64) (lenT n) := by
  refine PC.of_PW (m := 2000) env_ok fn_36 rfl rfl rfl rfl (by kernel_rfl) ?_; intro hx; simp only [Try.f36]; simp only [PQ_need, PQ_upd, PQ_imp, PQ_both, PQ_allx, PQ_alln, PQ_exi, PQ_call, PQ_val, PQ_new, PQ_store, PQ_append, PQ_sealed, PQ_hcall, PO_nil, PO_none, PO_some, PH_some, PK_tt, PK_ff, PK_tf, PK_ft, PK_undef, PK_dec_t, PK_dec_f, PB_t, PB_f, PB_dec, PB_ndec, PK_ndec_t, PK_ndec_f, PX_some, PW_nil, PW_blk, PW_inLoop, PW_skip, PW_seq, PW_reg, PW_draw, PW_cond, PW_block, PW_loop, PW_exit, PW_ret, entrySl, entryPV, ivs, argPV, capsOf, List.toList_toArray, forb, madeD, made, madeAt, step1, before, nthL, without, bindsAny, guardDst, nthO, stepF, St.ev, St.get, St.set, St.put, look, mem1, lk, nbeq, nble, nblt, Nat.reduceBEq, cval, kindEq, binO, isShift, binInt, shiftInt, binStr, binEq, negIf, canEq, dep, beqD, boolV, arith, pickO, exitW, HQ, hOK, keepB, newB, flatP, nilB, beq_self_eq_true, St.hret, deadIds, renBl, back_0, back_1, back_2, back_small, retP, retV, rvals, onePV, leBl, leB, leCells, innBl, blkIn, expR, expT, expAll, exp, pk, withR, fstOf, asLit, asSl, asMp, asFnv, asOwn, boxAt, Ty.eq, Ty.cast, evAll, evParts, lenO, intV, appSrc, appendO, lookupO, mapUpdateO, rangeO, nextO, entryO, itEntries, keyT, plainK, Ty.zer, zeroPV, cut, inCut, cutLo, cutHi, sliceO, bound, indexO, loadO, lenEq, storeO, fillO, buildO, elemsO, nthPV, extractD, extractO, callO, hcallO, hcall1, hArgs, hArg, cloO, lastN, chainT, nodupB, innIds, reach, blkIds, passed, fwd, idxOf, PV.ids, PV.idsL, PV.inn, PV.innL, PV.ren, PV.renL, convO, minMax, fieldOff, fieldTy, offOf, fldTy, elemTy, chainLen, arrLen, join, part, widens, cellsOf, Ty.val, PV.cells, aggCells, zeroCells, zeroDen, Ty.cells, Ty.flat, Ty.ok, owns, PV.arrs, PV.arrsL, PV.refs, PV.refsL, PV.kill, PV.killL, PV.sealw, PV.sealL, mapSl, Blk.map, mapBl, dropBl, St.kill, St.sealw, keys, oks, okPs, okP, P0, List.map, List.take, List.drop, List.headD, List.append, List.length, List.cons_append, List.nil_append, Option.bind, cond_true, cond_false, ↓reduceIte, ↓reduceDIte, Bool.not_true, Bool.not_false, Bool.and_true, Bool.true_and, Bool.and_false, Bool.false_and, Bool.false_or, Bool.or_false, Bool.true_or, Bool.or_true, true_implies, Option.some.injEq, decide_true, decide_false, decide_eq_true_eq, decide_eq_false_iff_not, Nat.add_zero, Nat.zero_add, Nat.reduceAdd, Nat.reduceSub, Nat.reduceMul, Nat.reduceLeDiff, Int.toNat_natCast, Nat.lt_irrefl, and_true, true_and, or_false, or_true, true_or, false_or, ← Bool.decide_and, ← Bool.decide_or, ← decide_not, Decidable.not_not, min_i8, max_i8, min_i16, max_i16, min_i32, max_i32, min_i64, max_i64, min_u8, max_u8, min_u16, max_u16, min_u32, max_u32, min_u64, max_u64, Int.reduceLT, Int.reduceLE, Int.cast_ofNat_Int, Int.reduceToNat, Int.toNat_zero, Int.toNat_one, Int.le_refl, and_self, Int.reduceNeg, e_ty1, e_ty2, e_ty3, e_ty4, e_ty5, e_ty6, e_ty7, e_ty8, e_ty9, e_ty10, e_ty11, e_ty12, e_ty13, e_ty14, e_ty21, e_ty22, e_ty23, e_ty24, e_ty25, e_ty26, e_ty27, e_ty28, e_ty29, e_ty30, e_ty31, e_ty32, e_ty33, e_ty34, e_ty35, e_ty36, e_ty37, e_ty38, e_ty39, e_ty40, e_ty41, e_ty42, e_ty43, e_ty44, e_ty45, e_ty46, e_ty47, e_ty48, e_ty49, e_ty50, e_ty51, e_ty52, e_ty53, e_ty54, e_ty55, e_ty56, e_ty57, e_ty58, e_ty59, e_ty60, e_ty61, e_ty62, e_ty63, e_ty64, e_ty65, e_ty66, e_ty67, e_ty68, e_ty69, e_ty70, e_ty71, e_ty72, e_ty73, e_ty74, e_ty75, e_ty76, e_ty77, e_ty79, e_ty80, e_ty81, e_ty83, e_ty84, e_ty85, e_ty86, e_ty87, e_ty88, e_ty89, e_ty90, e_ty91, e_ty93, e_ty96, e_ty97, e_ty103, e_ty104, e_ty105, e_ty106, e_ty108, e_ty109, e_str7, e_str8, e_str13, e_str14, e_str24, e_str25, e_str31, e_str32, e_str45, e_str46, e_str56, e_str57, e_str22, e_str27, e_str43, e_str50, e_str52, e_str59, e_str63, e_cmp7, e_cmp8, e_cmp22, e_cmp43, e_cmp45, e_cmp46, e_cmp50, e_cmp56, e_cmp57, e_cmp59, e_fn2, e_fn3, e_fn4, e_fn5, e_fn6, e_fn7, e_fn8, e_fn9, e_fn10, e_fn11, e_fn12, e_fn13, e_fn14, e_fn15, e_fn16, e_fn17, e_fn18, e_fn19, e_fn20, e_fn21, e_fn22, e_fn24, e_fn27, e_fn28, e_fn29, e_fn30, e_fn31, e_fn32, e_fn33, e_fn36, e_fn37, e_fn46, e_fn47, e_fn49, e_fn23, e_fn26, e_fn34, e_fn25, e_hfn25, e_fn35, e_hfn35, e_fn38, e_hfn38]
  exact ⟨_, c_Len64 n h0 h, fun _ => rfl⟩
end Go.Proofs.Ytahajkiadfgpbaa
namespace Go.Proofs.Ytahajkiadfgpbaa
set_option maxHeartbeats 4000000
set_option maxRecDepth 100000

theorem h_pdq (xs : List Fd) (b : Int) (hn : xs.length ≤ 12) : HC env 35 [.lfull 1000000000, .iv (.int .i64) (0 : Int), .iv (.int .i64) (xs.length : Int), .iv (.int .i64) b, .iv (.clo 26 .unit) ()] [(1000000000, .arr FoundT xs)] (.tup []) [(1000000000, .arr FoundT (isort ltF xs))] := by
  refine HC.of_PW (m := 2000) env_ok fn_35 rfl rfl rfl rfl (by kernel_rfl) ?_; intro hx hbl; simp only [Try.f35]; simp only [PQ_need, PQ_upd, PQ_imp, PQ_both, PQ_allx, PQ_alln, PQ_exi, PQ_call, PQ_val, PQ_new, PQ_store, PQ_append, PQ_sealed, PQ_hcall, PO_nil, PO_none, PO_some, PH_some, PK_tt, PK_ff, PK_tf, PK_ft, PK_undef, PK_dec_t, PK_dec_f, PB_t, PB_f, PB_dec, PB_ndec, PK_ndec_t, PK_ndec_f, PX_some, PW_nil, PW_blk, PW_inLoop, PW_skip, PW_seq, PW_reg, PW_draw, PW_cond, PW_block, PW_loop, PW_exit, PW_ret, entrySl, entryPV, ivs, argPV, capsOf, List.toList_toArray, forb, madeD, made, madeAt, step1, before, nthL, without, bindsAny, guardDst, nthO, stepF, St.ev, St.get, St.set, St.put, look, mem1, lk, nbeq, nble, nblt, Nat.reduceBEq, cval, kindEq, binO, isShift, binInt, shiftInt, binStr, binEq, negIf, canEq, dep, beqD, boolV, arith, pickO, exitW, HQ, hOK, keepB, newB, flatP, nilB, beq_self_eq_true, St.hret, deadIds, renBl, back_0, back_1, back_2, back_small, retP, retV, rvals, onePV, leBl, leB, leCells, innBl, blkIn, expR, expT, expAll, exp, pk, withR, fstOf, asLit, asSl, asMp, asFnv, asOwn, boxAt, Ty.eq, Ty.cast, evAll, evParts, lenO, intV, appSrc, appendO, lookupO, mapUpdateO, rangeO, nextO, entryO, itEntries, keyT, plainK, Ty.zer, zeroPV, cut, inCut, cutLo, cutHi, sliceO, bound, indexO, loadO, lenEq, storeO, fillO, buildO, elemsO, nthPV, extractD, extractO, callO, hcallO, hcall1, hArgs, hArg, cloO, lastN, chainT, nodupB, innIds, reach, blkIds, passed, fwd, idxOf, PV.ids, PV.idsL, PV.inn, PV.innL, PV.ren, PV.renL, convO, minMax, fieldOff, fieldTy, offOf, fldTy, elemTy, chainLen, arrLen, join, part, widens, cellsOf, Ty.val, PV.cells, aggCells, zeroCells, zeroDen, Ty.cells, Ty.flat, Ty.ok, owns, PV.arrs, PV.arrsL, PV.refs, PV.refsL, PV.kill, PV.killL, PV.sealw, PV.sealL, mapSl, Blk.map, mapBl, dropBl, St.kill, St.sealw, keys, oks, okPs, okP, P0, List.map, List.take, List.drop, List.headD, List.append, List.length, List.cons_append, List.nil_append, Option.bind, cond_true, cond_false, ↓reduceIte, ↓reduceDIte, Bool.not_true, Bool.not_false, Bool.and_true, Bool.true_and, Bool.and_false, Bool.false_and, Bool.false_or, Bool.or_false, Bool.true_or, Bool.or_true, true_implies, Option.some.injEq, decide_true, decide_false, decide_eq_true_eq, decide_eq_false_iff_not, Nat.add_zero, Nat.zero_add, Nat.reduceAdd, Nat.reduceSub, Nat.reduceMul, Nat.reduceLeDiff, Int.toNat_natCast, Nat.lt_irrefl, and_true, true_and, or_false, or_true, true_or, false_or, ← Bool.decide_and, ← Bool.decide_or, ← decide_not, Decidable.not_not, min_i8, max_i8, min_i16, max_i16, min_i32, max_i32, min_i64, max_i64, min_u8, max_u8, min_u16, max_u16, min_u32, max_u32, min_u64, max_u64, Int.reduceLT, Int.reduceLE, Int.cast_ofNat_Int, Int.reduceToNat, Int.toNat_zero, Int.toNat_one, Int.le_refl, and_self, Int.reduceNeg, e_ty1, e_ty2, e_ty3, e_ty4, e_ty5, e_ty6, e_ty7, e_ty8, e_ty9, e_ty10, e_ty11, e_ty12, e_ty13, e_ty14, e_ty21, e_ty22, e_ty23, e_ty24, e_ty25, e_ty26, e_ty27, e_ty28, e_ty29, e_ty30, e_ty31, e_ty32, e_ty33, e_ty34, e_ty35, e_ty36, e_ty37, e_ty38, e_ty39, e_ty40, e_ty41, e_ty42, e_ty43, e_ty44, e_ty45, e_ty46, e_ty47, e_ty48, e_ty49, e_ty50, e_ty51, e_ty52, e_ty53, e_ty54, e_ty55, e_ty56, e_ty57, e_ty58, e_ty59, e_ty60, e_ty61, e_ty62, e_ty63, e_ty64, e_ty65, e_ty66, e_ty67, e_ty68, e_ty69, e_ty70, e_ty71, e_ty72, e_ty73, e_ty74, e_ty75, e_ty76, e_ty77, e_ty79, e_ty80, e_ty81, e_ty83, e_ty84, e_ty85, e_ty86, e_ty87, e_ty88, e_ty89, e_ty90, e_ty91, e_ty93, e_ty96, e_ty97, e_ty103, e_ty104, e_ty105, e_ty106, e_ty108, e_ty109, e_str7, e_str8, e_str13, e_str14, e_str24, e_str25, e_str31, e_str32, e_str45, e_str46, e_str56, e_str57, e_str22, e_str27, e_str43, e_str50, e_str52, e_str59, e_str63, e_cmp7, e_cmp8, e_cmp22, e_cmp43, e_cmp45, e_cmp46, e_cmp50, e_cmp56, e_cmp57, e_cmp59, e_fn2, e_fn3, e_fn4, e_fn5, e_fn6, e_fn7, e_fn8, e_fn9, e_fn10, e_fn11, e_fn12, e_fn13, e_fn14, e_fn15, e_fn16, e_fn17, e_fn18, e_fn19, e_fn20, e_fn21, e_fn22, e_fn24, e_fn27, e_fn28, e_fn29, e_fn30, e_fn31, e_fn32, e_fn33, e_fn36, e_fn37, e_fn46, e_fn47, e_fn49, e_fn23, e_fn26, e_fn34, e_fn25, e_hfn25, e_fn35, e_hfn35, e_fn38, e_hfn38]
  refine Walks.loopW (X := Unit) (fun _ => ⟨[(0, .lfull 1000000000), (1, .iv (.int .i64) (0 : Int)), (2, .iv (.int .i64) (xs.length : Int)), (4, .fn 26 [])], [(1000000000, .arr FoundT xs)]⟩) (fun _ => True) (fun _ => 0) () ⟨⟨Or.inl rfl, Or.inl rfl, Or.inl rfl, Or.inl rfl, trivial⟩, ⟨rfl, trivial⟩, rfl, rfl⟩ trivial ?_
  intro _ _ back
  refine PW_sound env_ok ⟨_, fn_35, rfl⟩ 2000 _ _ (by kernel_rfl) ?_; simp only [PQ_need, PQ_upd, PQ_imp, PQ_both, PQ_allx, PQ_alln, PQ_exi, PQ_call, PQ_val, PQ_new, PQ_store, PQ_append, PQ_sealed, PQ_hcall, PO_nil, PO_none, PO_some, PH_some, PK_tt, PK_ff, PK_tf, PK_ft, PK_undef, PK_dec_t, PK_dec_f, PB_t, PB_f, PB_dec, PB_ndec, PK_ndec_t, PK_ndec_f, PX_some, PW_nil, PW_blk, PW_inLoop, PW_skip, PW_seq, PW_reg, PW_draw, PW_cond, PW_block, PW_loop, PW_exit, PW_ret, entrySl, entryPV, ivs, argPV, capsOf, List.toList_toArray, forb, madeD, made, madeAt, step1, before, nthL, without, bindsAny, guardDst, nthO, stepF, St.ev, St.get, St.set, St.put, look, mem1, lk, nbeq, nble, nblt, Nat.reduceBEq, cval, kindEq, binO, isShift, binInt, shiftInt, binStr, binEq, negIf, canEq, dep, beqD, boolV, arith, pickO, exitW, HQ, hOK, keepB, newB, flatP, nilB, beq_self_eq_true, St.hret, deadIds, renBl, back_0, back_1, back_2, back_small, retP, retV, rvals, onePV, leBl, leB, leCells, innBl, blkIn, expR, expT, expAll, exp, pk, withR, fstOf, asLit, asSl, asMp, asFnv, asOwn, boxAt, Ty.eq, Ty.cast, evAll, evParts, lenO, intV, appSrc, appendO, lookupO, mapUpdateO, rangeO, nextO, entryO, itEntries, keyT, plainK, Ty.zer, zeroPV, cut, inCut, cutLo, cutHi, sliceO, bound, indexO, loadO, lenEq, storeO, fillO, buildO, elemsO, nthPV, extractD, extractO, callO, hcallO, hcall1, hArgs, hArg, cloO, lastN, chainT, nodupB, innIds, reach, blkIds, passed, fwd, idxOf, PV.ids, PV.idsL, PV.inn, PV.innL, PV.ren, PV.renL, convO, minMax, fieldOff, fieldTy, offOf, fldTy, elemTy, chainLen, arrLen, join, part, widens, cellsOf, Ty.val, PV.cells, aggCells, zeroCells, zeroDen, Ty.cells, Ty.flat, Ty.ok, owns, PV.arrs, PV.arrsL, PV.refs, PV.refsL, PV.kill, PV.killL, PV.sealw, PV.sealL, mapSl, Blk.map, mapBl, dropBl, St.kill, St.sealw, keys, oks, okPs, okP, P0, List.map, List.take, List.drop, List.headD, List.append, List.length, List.cons_append, List.nil_append, Option.bind, cond_true, cond_false, ↓reduceIte, ↓reduceDIte, Bool.not_true, Bool.not_false, Bool.and_true, Bool.true_and, Bool.and_false, Bool.false_and, Bool.false_or, Bool.or_false, Bool.true_or, Bool.or_true, true_implies, Option.some.injEq, decide_true, decide_false, decide_eq_true_eq, decide_eq_false_iff_not, Nat.add_zero, Nat.zero_add, Nat.reduceAdd, Nat.reduceSub, Nat.reduceMul, Nat.reduceLeDiff, Int.toNat_natCast, Nat.lt_irrefl, and_true, true_and, or_false, or_true, true_or, false_or, ← Bool.decide_and, ← Bool.decide_or, ← decide_not, Decidable.not_not, min_i8, max_i8, min_i16, max_i16, min_i32, max_i32, min_i64, max_i64, min_u8, max_u8, min_u16, max_u16, min_u32, max_u32, min_u64, max_u64, Int.reduceLT, Int.reduceLE, Int.cast_ofNat_Int, Int.reduceToNat, Int.toNat_zero, Int.toNat_one, Int.le_refl, and_self, Int.reduceNeg, e_ty1, e_ty2, e_ty3, e_ty4, e_ty5, e_ty6, e_ty7, e_ty8, e_ty9, e_ty10, e_ty11, e_ty12, e_ty13, e_ty14, e_ty21, e_ty22, e_ty23, e_ty24, e_ty25, e_ty26, e_ty27, e_ty28, e_ty29, e_ty30, e_ty31, e_ty32, e_ty33, e_ty34, e_ty35, e_ty36, e_ty37, e_ty38, e_ty39, e_ty40, e_ty41, e_ty42, e_ty43, e_ty44, e_ty45, e_ty46, e_ty47, e_ty48, e_ty49, e_ty50, e_ty51, e_ty52, e_ty53, e_ty54, e_ty55, e_ty56, e_ty57, e_ty58, e_ty59, e_ty60, e_ty61, e_ty62, e_ty63, e_ty64, e_ty65, e_ty66, e_ty67, e_ty68, e_ty69, e_ty70, e_ty71, e_ty72, e_ty73, e_ty74, e_ty75, e_ty76, e_ty77, e_ty79, e_ty80, e_ty81, e_ty83, e_ty84, e_ty85, e_ty86, e_ty87, e_ty88, e_ty89, e_ty90, e_ty91, e_ty93, e_ty96, e_ty97, e_ty103, e_ty104, e_ty105, e_ty106, e_ty108, e_ty109, e_str7, e_str8, e_str13, e_str14, e_str24, e_str25, e_str31, e_str32, e_str45, e_str46, e_str56, e_str57, e_str22, e_str27, e_str43, e_str50, e_str52, e_str59, e_str63, e_cmp7, e_cmp8, e_cmp22, e_cmp43, e_cmp45, e_cmp46, e_cmp50, e_cmp56, e_cmp57, e_cmp59, e_fn2, e_fn3, e_fn4, e_fn5, e_fn6, e_fn7, e_fn8, e_fn9, e_fn10, e_fn11, e_fn12, e_fn13, e_fn14, e_fn15, e_fn16, e_fn17, e_fn18, e_fn19, e_fn20, e_fn21, e_fn22, e_fn24, e_fn27, e_fn28, e_fn29, e_fn30, e_fn31, e_fn32, e_fn33, e_fn36, e_fn37, e_fn46, e_fn47, e_fn49, e_fn23, e_fn26, e_fn34, e_fn25, e_hfn25, e_fn35, e_hfn35, e_fn38, e_hfn38]
  refine ⟨by omega, fun _ => ⟨_, _, h_ins xs, ?_⟩, fun g => absurd g (by omega)⟩
  simp only [PQ_need, PQ_upd, PQ_imp, PQ_both, PQ_allx, PQ_alln, PQ_exi, PQ_call, PQ_val, PQ_new, PQ_store, PQ_append, PQ_sealed, PQ_hcall, PO_nil, PO_none, PO_some, PH_some, PK_tt, PK_ff, PK_tf, PK_ft, PK_undef, PK_dec_t, PK_dec_f, PB_t, PB_f, PB_dec, PB_ndec, PK_ndec_t, PK_ndec_f, PX_some, PW_nil, PW_blk, PW_inLoop, PW_skip, PW_seq, PW_reg, PW_draw, PW_cond, PW_block, PW_loop, PW_exit, PW_ret, entrySl, entryPV, ivs, argPV, capsOf, List.toList_toArray, forb, madeD, made, madeAt, step1, before, nthL, without, bindsAny, guardDst, nthO, stepF, St.ev, St.get, St.set, St.put, look, mem1, lk, nbeq, nble, nblt, Nat.reduceBEq, cval, kindEq, binO, isShift, binInt, shiftInt, binStr, binEq, negIf, canEq, dep, beqD, boolV, arith, pickO, exitW, HQ, hOK, keepB, newB, flatP, nilB, beq_self_eq_true, St.hret, deadIds, renBl, back_0, back_1, back_2, back_small, retP, retV, rvals, onePV, leBl, leB, leCells, innBl, blkIn, expR, expT, expAll, exp, pk, withR, fstOf, asLit, asSl, asMp, asFnv, asOwn, boxAt, Ty.eq, Ty.cast, evAll, evParts, lenO, intV, appSrc, appendO, lookupO, mapUpdateO, rangeO, nextO, entryO, itEntries, keyT, plainK, Ty.zer, zeroPV, cut, inCut, cutLo, cutHi, sliceO, bound, indexO, loadO, lenEq, storeO, fillO, buildO, elemsO, nthPV, extractD, extractO, callO, hcallO, hcall1, hArgs, hArg, cloO, lastN, chainT, nodupB, innIds, reach, blkIds, passed, fwd, idxOf, PV.ids, PV.idsL, PV.inn, PV.innL, PV.ren, PV.renL, convO, minMax, fieldOff, fieldTy, offOf, fldTy, elemTy, chainLen, arrLen, join, part, widens, cellsOf, Ty.val, PV.cells, aggCells, zeroCells, zeroDen, Ty.cells, Ty.flat, Ty.ok, owns, PV.arrs, PV.arrsL, PV.refs, PV.refsL, PV.kill, PV.killL, PV.sealw, PV.sealL, mapSl, Blk.map, mapBl, dropBl, St.kill, St.sealw, keys, oks, okPs, okP, P0, List.map, List.take, List.drop, List.headD, List.append, List.length, List.cons_append, List.nil_append, Option.bind, cond_true, cond_false, ↓reduceIte, ↓reduceDIte, Bool.not_true, Bool.not_false, Bool.and_true, Bool.true_and, Bool.and_false, Bool.false_and, Bool.false_or, Bool.or_false, Bool.true_or, Bool.or_true, true_implies, Option.some.injEq, decide_true, decide_false, decide_eq_true_eq, decide_eq_false_iff_not, Nat.add_zero, Nat.zero_add, Nat.reduceAdd, Nat.reduceSub, Nat.reduceMul, Nat.reduceLeDiff, Int.toNat_natCast, Nat.lt_irrefl, and_true, true_and, or_false, or_true, true_or, false_or, ← Bool.decide_and, ← Bool.decide_or, ← decide_not, Decidable.not_not, min_i8, max_i8, min_i16, max_i16, min_i32, max_i32, min_i64, max_i64, min_u8, max_u8, min_u16, max_u16, min_u32, max_u32, min_u64, max_u64, Int.reduceLT, Int.reduceLE, Int.cast_ofNat_Int, Int.reduceToNat, Int.toNat_zero, Int.toNat_one, Int.le_refl, and_self, Int.reduceNeg, e_ty1, e_ty2, e_ty3, e_ty4, e_ty5, e_ty6, e_ty7, e_ty8, e_ty9, e_ty10, e_ty11, e_ty12, e_ty13, e_ty14, e_ty21, e_ty22, e_ty23, e_ty24, e_ty25, e_ty26, e_ty27, e_ty28, e_ty29, e_ty30, e_ty31, e_ty32, e_ty33, e_ty34, e_ty35, e_ty36, e_ty37, e_ty38, e_ty39, e_ty40, e_ty41, e_ty42, e_ty43, e_ty44, e_ty45, e_ty46, e_ty47, e_ty48, e_ty49, e_ty50, e_ty51, e_ty52, e_ty53, e_ty54, e_ty55, e_ty56, e_ty57, e_ty58, e_ty59, e_ty60, e_ty61, e_ty62, e_ty63, e_ty64, e_ty65, e_ty66, e_ty67, e_ty68, e_ty69, e_ty70, e_ty71, e_ty72, e_ty73, e_ty74, e_ty75, e_ty76, e_ty77, e_ty79, e_ty80, e_ty81, e_ty83, e_ty84, e_ty85, e_ty86, e_ty87, e_ty88, e_ty89, e_ty90, e_ty91, e_ty93, e_ty96, e_ty97, e_ty103, e_ty104, e_ty105, e_ty106, e_ty108, e_ty109, e_str7, e_str8, e_str13, e_str14, e_str24, e_str25, e_str31, e_str32, e_str45, e_str46, e_str56, e_str57, e_str22, e_str27, e_str43, e_str50, e_str52, e_str59, e_str63, e_cmp7, e_cmp8, e_cmp22, e_cmp43, e_cmp45, e_cmp46, e_cmp50, e_cmp56, e_cmp57, e_cmp59, e_fn2, e_fn3, e_fn4, e_fn5, e_fn6, e_fn7, e_fn8, e_fn9, e_fn10, e_fn11, e_fn12, e_fn13, e_fn14, e_fn15, e_fn16, e_fn17, e_fn18, e_fn19, e_fn20, e_fn21, e_fn22, e_fn24, e_fn27, e_fn28, e_fn29, e_fn30, e_fn31, e_fn32, e_fn33, e_fn36, e_fn37, e_fn46, e_fn47, e_fn49, e_fn23, e_fn26, e_fn34, e_fn25, e_hfn25, e_fn35, e_hfn35, e_fn38, e_hfn38]
  exact fun _ => trivial
theorem h_Sort (xs : List Fd) (hn : xs.length ≤ 12) : HC env 25 [.lfull 1000000000, .iv (.clo 26 .unit) ()] [(1000000000, .arr FoundT xs)] (.tup []) [(1000000000, .arr FoundT (isort ltF xs))] := by
  refine HC.of_PW (m := 2000) env_ok fn_25 rfl rfl rfl rfl (by kernel_rfl) ?_; intro hx hbl; simp only [Try.f25]; simp only [PQ_need, PQ_upd, PQ_imp, PQ_both, PQ_allx, PQ_alln, PQ_exi, PQ_call, PQ_val, PQ_new, PQ_store, PQ_append, PQ_sealed, PQ_hcall, PO_nil, PO_none, PO_some, PH_some, PK_tt, PK_ff, PK_tf, PK_ft, PK_undef, PK_dec_t, PK_dec_f, PB_t, PB_f, PB_dec, PB_ndec, PK_ndec_t, PK_ndec_f, PX_some, PW_nil, PW_blk, PW_inLoop, PW_skip, PW_seq, PW_reg, PW_draw, PW_cond, PW_block, PW_loop, PW_exit, PW_ret, entrySl, entryPV, ivs, argPV, capsOf, List.toList_toArray, forb, madeD, made, madeAt, step1, before, nthL, without, bindsAny, guardDst, nthO, stepF, St.ev, St.get, St.set, St.put, look, mem1, lk, nbeq, nble, nblt, Nat.reduceBEq, cval, kindEq, binO, isShift, binInt, shiftInt, binStr, binEq, negIf, canEq, dep, beqD, boolV, arith, pickO, exitW, HQ, hOK, keepB, newB, flatP, nilB, beq_self_eq_true, St.hret, deadIds, renBl, back_0, back_1, back_2, back_small, retP, retV, rvals, onePV, leBl, leB, leCells, innBl, blkIn, expR, expT, expAll, exp, pk, withR, fstOf, asLit, asSl, asMp, asFnv, asOwn, boxAt, Ty.eq, Ty.cast, evAll, evParts, lenO, intV, appSrc, appendO, lookupO, mapUpdateO, rangeO, nextO, entryO, itEntries, keyT, plainK, Ty.zer, zeroPV, cut, inCut, cutLo, cutHi, sliceO, bound, indexO, loadO, lenEq, storeO, fillO, buildO, elemsO, nthPV, extractD, extractO, callO, hcallO, hcall1, hArgs, hArg, cloO, lastN, chainT, nodupB, innIds, reach, blkIds, passed, fwd, idxOf, PV.ids, PV.idsL, PV.inn, PV.innL, PV.ren, PV.renL, convO, minMax, fieldOff, fieldTy, offOf, fldTy, elemTy, chainLen, arrLen, join, part, widens, cellsOf, Ty.val, PV.cells, aggCells, zeroCells, zeroDen, Ty.cells, Ty.flat, Ty.ok, owns, PV.arrs, PV.arrsL, PV.refs, PV.refsL, PV.kill, PV.killL, PV.sealw, PV.sealL, mapSl, Blk.map, mapBl, dropBl, St.kill, St.sealw, keys, oks, okPs, okP, P0, List.map, List.take, List.drop, List.headD, List.append, List.length, List.cons_append, List.nil_append, Option.bind, cond_true, cond_false, ↓reduceIte, ↓reduceDIte, Bool.not_true, Bool.not_false, Bool.and_true, Bool.true_and, Bool.and_false, Bool.false_and, Bool.false_or, Bool.or_false, Bool.true_or, Bool.or_true, true_implies, Option.some.injEq, decide_true, decide_false, decide_eq_true_eq, decide_eq_false_iff_not, Nat.add_zero, Nat.zero_add, Nat.reduceAdd, Nat.reduceSub, Nat.reduceMul, Nat.reduceLeDiff, Int.toNat_natCast, Nat.lt_irrefl, and_true, true_and, or_false, or_true, true_or, false_or, ← Bool.decide_and, ← Bool.decide_or, ← decide_not, Decidable.not_not, min_i8, max_i8, min_i16, max_i16, min_i32, max_i32, min_i64, max_i64, min_u8, max_u8, min_u16, max_u16, min_u32, max_u32, min_u64, max_u64, Int.reduceLT, Int.reduceLE, Int.cast_ofNat_Int, Int.reduceToNat, Int.toNat_zero, Int.toNat_one, Int.le_refl, and_self, Int.reduceNeg, e_ty1, e_ty2, e_ty3, e_ty4, e_ty5, e_ty6, e_ty7, e_ty8, e_ty9, e_ty10, e_ty11, e_ty12, e_ty13, e_ty14, e_ty21, e_ty22, e_ty23, e_ty24, e_ty25, e_ty26, e_ty27, e_ty28, e_ty29, e_ty30, e_ty31, e_ty32, e_ty33, e_ty34, e_ty35, e_ty36, e_ty37, e_ty38, e_ty39, e_ty40, e_ty41, e_ty42, e_ty43, e_ty44, e_ty45, e_ty46, e_ty47, e_ty48, e_ty49, e_ty50, e_ty51, e_ty52, e_ty53, e_ty54, e_ty55, e_ty56, e_ty57, e_ty58, e_ty59, e_ty60, e_ty61, e_ty62, e_ty63, e_ty64, e_ty65, e_ty66, e_ty67, e_ty68, e_ty69, e_ty70, e_ty71, e_ty72, e_ty73, e_ty74, e_ty75, e_ty76, e_ty77, e_ty79, e_ty80, e_ty81, e_ty83, e_ty84, e_ty85, e_ty86, e_ty87, e_ty88, e_ty89, e_ty90, e_ty91, e_ty93, e_ty96, e_ty97, e_ty103, e_ty104, e_ty105, e_ty106, e_ty108, e_ty109, e_str7, e_str8, e_str13, e_str14, e_str24, e_str25, e_str31, e_str32, e_str45, e_str46, e_str56, e_str57, e_str22, e_str27, e_str43, e_str50, e_str52, e_str59, e_str63, e_cmp7, e_cmp8, e_cmp22, e_cmp43, e_cmp45, e_cmp46, e_cmp50, e_cmp56, e_cmp57, e_cmp59, e_fn2, e_fn3, e_fn4, e_fn5, e_fn6, e_fn7, e_fn8, e_fn9, e_fn10, e_fn11, e_fn12, e_fn13, e_fn14, e_fn15, e_fn16, e_fn17, e_fn18, e_fn19, e_fn20, e_fn21, e_fn22, e_fn24, e_fn27, e_fn28, e_fn29, e_fn30, e_fn31, e_fn32, e_fn33, e_fn36, e_fn37, e_fn46, e_fn47, e_fn49, e_fn23, e_fn26, e_fn34, e_fn25, e_hfn25, e_fn35, e_hfn35, e_fn38, e_hfn38]
  have hw : IntKind.u64.wrap (xs.length : Int) = (xs.length : Int) := wrap_in _ ⟨by simp only [min_u64]; omega, by simp only [max_u64]; omega⟩
  rw [hw]
  refine ⟨_, c_Len _ (by omega) (by omega), fun _ => ⟨_, _, h_pdq xs _ hn, ?_⟩⟩
  simp only [PQ_need, PQ_upd, PQ_imp, PQ_both, PQ_allx, PQ_alln, PQ_exi, PQ_call, PQ_val, PQ_new, PQ_store, PQ_append, PQ_sealed, PQ_hcall, PO_nil, PO_none, PO_some, PH_some, PK_tt, PK_ff, PK_tf, PK_ft, PK_undef, PK_dec_t, PK_dec_f, PB_t, PB_f, PB_dec, PB_ndec, PK_ndec_t, PK_ndec_f, PX_some, PW_nil, PW_blk, PW_inLoop, PW_skip, PW_seq, PW_reg, PW_draw, PW_cond, PW_block, PW_loop, PW_exit, PW_ret, entrySl, entryPV, ivs, argPV, capsOf, List.toList_toArray, forb, madeD, made, madeAt, step1, before, nthL, without, bindsAny, guardDst, nthO, stepF, St.ev, St.get, St.set, St.put, look, mem1, lk, nbeq, nble, nblt, Nat.reduceBEq, cval, kindEq, binO, isShift, binInt, shiftInt, binStr, binEq, negIf, canEq, dep, beqD, boolV, arith, pickO, exitW, HQ, hOK, keepB, newB, flatP, nilB, beq_self_eq_true, St.hret, deadIds, renBl, back_0, back_1, back_2, back_small, retP, retV, rvals, onePV, leBl, leB, leCells, innBl, blkIn, expR, expT, expAll, exp, pk, withR, fstOf, asLit, asSl, asMp, asFnv, asOwn, boxAt, Ty.eq, Ty.cast, evAll, evParts, lenO, intV, appSrc, appendO, lookupO, mapUpdateO, rangeO, nextO, entryO, itEntries, keyT, plainK, Ty.zer, zeroPV, cut, inCut, cutLo, cutHi, sliceO, bound, indexO, loadO, lenEq, storeO, fillO, buildO, elemsO, nthPV, extractD, extractO, callO, hcallO, hcall1, hArgs, hArg, cloO, lastN, chainT, nodupB, innIds, reach, blkIds, passed, fwd, idxOf, PV.ids, PV.idsL, PV.inn, PV.innL, PV.ren, PV.renL, convO, minMax, fieldOff, fieldTy, offOf, fldTy, elemTy, chainLen, arrLen, join, part, widens, cellsOf, Ty.val, PV.cells, aggCells, zeroCells, zeroDen, Ty.cells, Ty.flat, Ty.ok, owns, PV.arrs, PV.arrsL, PV.refs, PV.refsL, PV.kill, PV.killL, PV.sealw, PV.sealL, mapSl, Blk.map, mapBl, dropBl, St.kill, St.sealw, keys, oks, okPs, okP, P0, List.map, List.take, List.drop, List.headD, List.append, List.length, List.cons_append, List.nil_append, Option.bind, cond_true, cond_false, ↓reduceIte, ↓reduceDIte, Bool.not_true, Bool.not_false, Bool.and_true, Bool.true_and, Bool.and_false, Bool.false_and, Bool.false_or, Bool.or_false, Bool.true_or, Bool.or_true, true_implies, Option.some.injEq, decide_true, decide_false, decide_eq_true_eq, decide_eq_false_iff_not, Nat.add_zero, Nat.zero_add, Nat.reduceAdd, Nat.reduceSub, Nat.reduceMul, Nat.reduceLeDiff, Int.toNat_natCast, Nat.lt_irrefl, and_true, true_and, or_false, or_true, true_or, false_or, ← Bool.decide_and, ← Bool.decide_or, ← decide_not, Decidable.not_not, min_i8, max_i8, min_i16, max_i16, min_i32, max_i32, min_i64, max_i64, min_u8, max_u8, min_u16, max_u16, min_u32, max_u32, min_u64, max_u64, Int.reduceLT, Int.reduceLE, Int.cast_ofNat_Int, Int.reduceToNat, Int.toNat_zero, Int.toNat_one, Int.le_refl, and_self, Int.reduceNeg, e_ty1, e_ty2, e_ty3, e_ty4, e_ty5, e_ty6, e_ty7, e_ty8, e_ty9, e_ty10, e_ty11, e_ty12, e_ty13, e_ty14, e_ty21, e_ty22, e_ty23, e_ty24, e_ty25, e_ty26, e_ty27, e_ty28, e_ty29, e_ty30, e_ty31, e_ty32, e_ty33, e_ty34, e_ty35, e_ty36, e_ty37, e_ty38, e_ty39, e_ty40, e_ty41, e_ty42, e_ty43, e_ty44, e_ty45, e_ty46, e_ty47, e_ty48, e_ty49, e_ty50, e_ty51, e_ty52, e_ty53, e_ty54, e_ty55, e_ty56, e_ty57, e_ty58, e_ty59, e_ty60, e_ty61, e_ty62, e_ty63, e_ty64, e_ty65, e_ty66, e_ty67, e_ty68, e_ty69, e_ty70, e_ty71, e_ty72, e_ty73, e_ty74, e_ty75, e_ty76, e_ty77, e_ty79, e_ty80, e_ty81, e_ty83, e_ty84, e_ty85, e_ty86, e_ty87, e_ty88, e_ty89, e_ty90, e_ty91, e_ty93, e_ty96, e_ty97, e_ty103, e_ty104, e_ty105, e_ty106, e_ty108, e_ty109, e_str7, e_str8, e_str13, e_str14, e_str24, e_str25, e_str31, e_str32, e_str45, e_str46, e_str56, e_str57, e_str22, e_str27, e_str43, e_str50, e_str52, e_str59, e_str63, e_cmp7, e_cmp8, e_cmp22, e_cmp43, e_cmp45, e_cmp46, e_cmp50, e_cmp56, e_cmp57, e_cmp59, e_fn2, e_fn3, e_fn4, e_fn5, e_fn6, e_fn7, e_fn8, e_fn9, e_fn10, e_fn11, e_fn12, e_fn13, e_fn14, e_fn15, e_fn16, e_fn17, e_fn18, e_fn19, e_fn20, e_fn21, e_fn22, e_fn24, e_fn27, e_fn28, e_fn29, e_fn30, e_fn31, e_fn32, e_fn33, e_fn36, e_fn37, e_fn46, e_fn47, e_fn49, e_fn23, e_fn26, e_fn34, e_fn25, e_hfn25, e_fn35, e_hfn35, e_fn38, e_hfn38]
  exact fun _ => trivial

/-- The distance of typed from meant. -/
def distT (l : Sl) (t m : List UInt8) : Int := dist l m.reverse t.reverse
theorem c_Dist (l : Sl) (t m : List UInt8) (hl : fine l) (ht : t.length ≤ 1000000) (hm : m.length ≤ 1000000) : PC env 15 [⟨SlipsT, l⟩, ⟨.str, t⟩, ⟨.str, m⟩] (.int .i64) (distT l t m) := by
  have h := c_Distance l t m hl ht hm
  unfold D at h
  rw [List.take_length, List.take_length] at h
  exact h
def nearAt (l : Sl) (t : List UInt8) (ws : List (List UInt8)) (most : Int) (k : Nat) : Option Fd := match ws[k]? with
  | some w => if distT l t w ≤ most then some ((k : Int), distT l t w) else none
  | none => none
def nearL (l : Sl) (t : List UInt8) (ws : List (List UInt8)) (most : Int) (i : Nat) : List Fd := (List.range i).filterMap (nearAt l t ws most)
theorem nearL_succ (l : Sl) (t : List UInt8) (ws : List (List UInt8)) (most : Int) (i : Nat) : nearL l t ws most (i + 1) = nearL l t ws most i ++ (nearAt l t ws most i).toList := by
  unfold nearL
  rw [List.range_succ, List.filterMap_append]
  congr 1
theorem nearL_length (l : Sl) (t : List UInt8) (ws : List (List UInt8)) (most : Int) (i : Nat) : (nearL l t ws most i).length ≤ i := by
  unfold nearL
  refine Nat.le_trans (List.length_filterMap_le ..) ?_
  rw [List.length_range]
  exact Nat.le_refl _
def nearS (l : Sl) (t : List UInt8) (ws : List (List UInt8)) (most : Int) : List Fd := isort ltF (nearL l t ws most ws.length)
theorem c_Nearest (l : Sl) (t : List UInt8) (ws : List (List UInt8)) (most : Int) (hl : fine l) (ht : t.length ≤ 1000000) (hw : ∀ w, w ∈ ws → w.length ≤ 1000000) (hn : ws.length ≤ 12) :
    PC env 18 [⟨SlipsT, l⟩, ⟨.str, t⟩, ⟨.sl .str, ws⟩, ⟨.int .i64, most⟩] (.sl FoundT) (nearS l t ws most) := by
  refine PC.of_PW (m := 2000) env_ok fn_18 rfl rfl rfl rfl (by kernel_rfl) ?_; intro hx; simp only [Try.f18]; simp only [PQ_need, PQ_upd, PQ_imp, PQ_both, PQ_allx, PQ_alln, PQ_exi, PQ_call, PQ_val, PQ_new, PQ_store, PQ_append, PQ_sealed, PQ_hcall, PO_nil, PO_none, PO_some, PH_some, PK_tt, PK_ff, PK_tf, PK_ft, PK_undef, PK_dec_t, PK_dec_f, PB_t, PB_f, PB_dec, PB_ndec, PK_ndec_t, PK_ndec_f, PX_some, PW_nil, PW_blk, PW_inLoop, PW_skip, PW_seq, PW_reg, PW_draw, PW_cond, PW_block, PW_loop, PW_exit, PW_ret, entrySl, entryPV, ivs, argPV, capsOf, List.toList_toArray, forb, madeD, made, madeAt, step1, before, nthL, without, bindsAny, guardDst, nthO, stepF, St.ev, St.get, St.set, St.put, look, mem1, lk, nbeq, nble, nblt, Nat.reduceBEq, cval, kindEq, binO, isShift, binInt, shiftInt, binStr, binEq, negIf, canEq, dep, beqD, boolV, arith, pickO, exitW, HQ, hOK, keepB, newB, flatP, nilB, beq_self_eq_true, St.hret, deadIds, renBl, back_0, back_1, back_2, back_small, retP, retV, rvals, onePV, leBl, leB, leCells, innBl, blkIn, expR, expT, expAll, exp, pk, withR, fstOf, asLit, asSl, asMp, asFnv, asOwn, boxAt, Ty.eq, Ty.cast, evAll, evParts, lenO, intV, appSrc, appendO, lookupO, mapUpdateO, rangeO, nextO, entryO, itEntries, keyT, plainK, Ty.zer, zeroPV, cut, inCut, cutLo, cutHi, sliceO, bound, indexO, loadO, lenEq, storeO, fillO, buildO, elemsO, nthPV, extractD, extractO, callO, hcallO, hcall1, hArgs, hArg, cloO, lastN, chainT, nodupB, innIds, reach, blkIds, passed, fwd, idxOf, PV.ids, PV.idsL, PV.inn, PV.innL, PV.ren, PV.renL, convO, minMax, fieldOff, fieldTy, offOf, fldTy, elemTy, chainLen, arrLen, join, part, widens, cellsOf, Ty.val, PV.cells, aggCells, zeroCells, zeroDen, Ty.cells, Ty.flat, Ty.ok, owns, PV.arrs, PV.arrsL, PV.refs, PV.refsL, PV.kill, PV.killL, PV.sealw, PV.sealL, mapSl, Blk.map, mapBl, dropBl, St.kill, St.sealw, keys, oks, okPs, okP, P0, List.map, List.take, List.drop, List.headD, List.append, List.length, List.cons_append, List.nil_append, Option.bind, cond_true, cond_false, ↓reduceIte, ↓reduceDIte, Bool.not_true, Bool.not_false, Bool.and_true, Bool.true_and, Bool.and_false, Bool.false_and, Bool.false_or, Bool.or_false, Bool.true_or, Bool.or_true, true_implies, Option.some.injEq, decide_true, decide_false, decide_eq_true_eq, decide_eq_false_iff_not, Nat.add_zero, Nat.zero_add, Nat.reduceAdd, Nat.reduceSub, Nat.reduceMul, Nat.reduceLeDiff, Int.toNat_natCast, Nat.lt_irrefl, and_true, true_and, or_false, or_true, true_or, false_or, ← Bool.decide_and, ← Bool.decide_or, ← decide_not, Decidable.not_not, min_i8, max_i8, min_i16, max_i16, min_i32, max_i32, min_i64, max_i64, min_u8, max_u8, min_u16, max_u16, min_u32, max_u32, min_u64, max_u64, Int.reduceLT, Int.reduceLE, Int.cast_ofNat_Int, Int.reduceToNat, Int.toNat_zero, Int.toNat_one, Int.le_refl, and_self, Int.reduceNeg, e_ty1, e_ty2, e_ty3, e_ty4, e_ty5, e_ty6, e_ty7, e_ty8, e_ty9, e_ty10, e_ty11, e_ty12, e_ty13, e_ty14, e_ty21, e_ty22, e_ty23, e_ty24, e_ty25, e_ty26, e_ty27, e_ty28, e_ty29, e_ty30, e_ty31, e_ty32, e_ty33, e_ty34, e_ty35, e_ty36, e_ty37, e_ty38, e_ty39, e_ty40, e_ty41, e_ty42, e_ty43, e_ty44, e_ty45, e_ty46, e_ty47, e_ty48, e_ty49, e_ty50, e_ty51, e_ty52, e_ty53, e_ty54, e_ty55, e_ty56, e_ty57, e_ty58, e_ty59, e_ty60, e_ty61, e_ty62, e_ty63, e_ty64, e_ty65, e_ty66, e_ty67, e_ty68, e_ty69, e_ty70, e_ty71, e_ty72, e_ty73, e_ty74, e_ty75, e_ty76, e_ty77, e_ty79, e_ty80, e_ty81, e_ty83, e_ty84, e_ty85, e_ty86, e_ty87, e_ty88, e_ty89, e_ty90, e_ty91, e_ty93, e_ty96, e_ty97, e_ty103, e_ty104, e_ty105, e_ty106, e_ty108, e_ty109, e_str7, e_str8, e_str13, e_str14, e_str24, e_str25, e_str31, e_str32, e_str45, e_str46, e_str56, e_str57, e_str22, e_str27, e_str43, e_str50, e_str52, e_str59, e_str63, e_cmp7, e_cmp8, e_cmp22, e_cmp43, e_cmp45, e_cmp46, e_cmp50, e_cmp56, e_cmp57, e_cmp59, e_fn2, e_fn3, e_fn4, e_fn5, e_fn6, e_fn7, e_fn8, e_fn9, e_fn10, e_fn11, e_fn12, e_fn13, e_fn14, e_fn15, e_fn16, e_fn17, e_fn18, e_fn19, e_fn20, e_fn21, e_fn22, e_fn24, e_fn27, e_fn28, e_fn29, e_fn30, e_fn31, e_fn32, e_fn33, e_fn36, e_fn37, e_fn46, e_fn47, e_fn49, e_fn23, e_fn26, e_fn34, e_fn25, e_hfn25, e_fn35, e_hfn35, e_fn38, e_hfn38]
  refine Walks.loopW (X := Nat) (fun i => ⟨[(15, .iv (.int .i64) (i : Int)), (14, .iv (.int .i64) (ws.length : Int)), (13, .iv (.sl .str) ws), (9, .lfull 1000), (1, .iv .str t), (3, .iv (.int .i64) most), (4, .ref 4 0)], [(4, .box (slCells l)), (1000, .arr FoundT (nearL l t ws most i))]⟩)
    (fun i => i ≤ ws.length) (fun i => ws.length - i) 0 ?_ (Nat.zero_le _) ?_
  · refine ⟨⟨Or.inl rfl, Or.inl rfl, Or.inl rfl, Or.inr (Or.inr ⟨rfl, rfl, trivial⟩), Or.inl rfl, Or.inl rfl, Or.inl rfl, trivial⟩, ⟨⟨Or.inl rfl, Or.inl rfl, Or.inl rfl, Or.inl rfl, Or.inl rfl, trivial⟩, ⟨(show (1000:Nat) < 1000000000 by omega), rfl, rfl⟩, trivial⟩, rfl, rfl⟩
  intro i hi back
  refine PW_sound env_ok ⟨_, fn_18, rfl⟩ 2000 _ _ (by kernel_rfl) ?_; simp only [PQ_need, PQ_upd, PQ_imp, PQ_both, PQ_allx, PQ_alln, PQ_exi, PQ_call, PQ_val, PQ_new, PQ_store, PQ_append, PQ_sealed, PQ_hcall, PO_nil, PO_none, PO_some, PH_some, PK_tt, PK_ff, PK_tf, PK_ft, PK_undef, PK_dec_t, PK_dec_f, PB_t, PB_f, PB_dec, PB_ndec, PK_ndec_t, PK_ndec_f, PX_some, PW_nil, PW_blk, PW_inLoop, PW_skip, PW_seq, PW_reg, PW_draw, PW_cond, PW_block, PW_loop, PW_exit, PW_ret, entrySl, entryPV, ivs, argPV, capsOf, List.toList_toArray, forb, madeD, made, madeAt, step1, before, nthL, without, bindsAny, guardDst, nthO, stepF, St.ev, St.get, St.set, St.put, look, mem1, lk, nbeq, nble, nblt, Nat.reduceBEq, cval, kindEq, binO, isShift, binInt, shiftInt, binStr, binEq, negIf, canEq, dep, beqD, boolV, arith, pickO, exitW, HQ, hOK, keepB, newB, flatP, nilB, beq_self_eq_true, St.hret, deadIds, renBl, back_0, back_1, back_2, back_small, retP, retV, rvals, onePV, leBl, leB, leCells, innBl, blkIn, expR, expT, expAll, exp, pk, withR, fstOf, asLit, asSl, asMp, asFnv, asOwn, boxAt, Ty.eq, Ty.cast, evAll, evParts, lenO, intV, appSrc, appendO, lookupO, mapUpdateO, rangeO, nextO, entryO, itEntries, keyT, plainK, Ty.zer, zeroPV, cut, inCut, cutLo, cutHi, sliceO, bound, indexO, loadO, lenEq, storeO, fillO, buildO, elemsO, nthPV, extractD, extractO, callO, hcallO, hcall1, hArgs, hArg, cloO, lastN, chainT, nodupB, innIds, reach, blkIds, passed, fwd, idxOf, PV.ids, PV.idsL, PV.inn, PV.innL, PV.ren, PV.renL, convO, minMax, fieldOff, fieldTy, offOf, fldTy, elemTy, chainLen, arrLen, join, part, widens, cellsOf, Ty.val, PV.cells, aggCells, zeroCells, zeroDen, Ty.cells, Ty.flat, Ty.ok, owns, PV.arrs, PV.arrsL, PV.refs, PV.refsL, PV.kill, PV.killL, PV.sealw, PV.sealL, mapSl, Blk.map, mapBl, dropBl, St.kill, St.sealw, keys, oks, okPs, okP, P0, List.map, List.take, List.drop, List.headD, List.append, List.length, List.cons_append, List.nil_append, Option.bind, cond_true, cond_false, ↓reduceIte, ↓reduceDIte, Bool.not_true, Bool.not_false, Bool.and_true, Bool.true_and, Bool.and_false, Bool.false_and, Bool.false_or, Bool.or_false, Bool.true_or, Bool.or_true, true_implies, Option.some.injEq, decide_true, decide_false, decide_eq_true_eq, decide_eq_false_iff_not, Nat.add_zero, Nat.zero_add, Nat.reduceAdd, Nat.reduceSub, Nat.reduceMul, Nat.reduceLeDiff, Int.toNat_natCast, Nat.lt_irrefl, and_true, true_and, or_false, or_true, true_or, false_or, ← Bool.decide_and, ← Bool.decide_or, ← decide_not, Decidable.not_not, min_i8, max_i8, min_i16, max_i16, min_i32, max_i32, min_i64, max_i64, min_u8, max_u8, min_u16, max_u16, min_u32, max_u32, min_u64, max_u64, Int.reduceLT, Int.reduceLE, Int.cast_ofNat_Int, Int.reduceToNat, Int.toNat_zero, Int.toNat_one, Int.le_refl, and_self, Int.reduceNeg, e_ty1, e_ty2, e_ty3, e_ty4, e_ty5, e_ty6, e_ty7, e_ty8, e_ty9, e_ty10, e_ty11, e_ty12, e_ty13, e_ty14, e_ty21, e_ty22, e_ty23, e_ty24, e_ty25, e_ty26, e_ty27, e_ty28, e_ty29, e_ty30, e_ty31, e_ty32, e_ty33, e_ty34, e_ty35, e_ty36, e_ty37, e_ty38, e_ty39, e_ty40, e_ty41, e_ty42, e_ty43, e_ty44, e_ty45, e_ty46, e_ty47, e_ty48, e_ty49, e_ty50, e_ty51, e_ty52, e_ty53, e_ty54, e_ty55, e_ty56, e_ty57, e_ty58, e_ty59, e_ty60, e_ty61, e_ty62, e_ty63, e_ty64, e_ty65, e_ty66, e_ty67, e_ty68, e_ty69, e_ty70, e_ty71, e_ty72, e_ty73, e_ty74, e_ty75, e_ty76, e_ty77, e_ty79, e_ty80, e_ty81, e_ty83, e_ty84, e_ty85, e_ty86, e_ty87, e_ty88, e_ty89, e_ty90, e_ty91, e_ty93, e_ty96, e_ty97, e_ty103, e_ty104, e_ty105, e_ty106, e_ty108, e_ty109, e_str7, e_str8, e_str13, e_str14, e_str24, e_str25, e_str31, e_str32, e_str45, e_str46, e_str56, e_str57, e_str22, e_str27, e_str43, e_str50, e_str52, e_str59, e_str63, e_cmp7, e_cmp8, e_cmp22, e_cmp43, e_cmp45, e_cmp46, e_cmp50, e_cmp56, e_cmp57, e_cmp59, e_fn2, e_fn3, e_fn4, e_fn5, e_fn6, e_fn7, e_fn8, e_fn9, e_fn10, e_fn11, e_fn12, e_fn13, e_fn14, e_fn15, e_fn16, e_fn17, e_fn18, e_fn19, e_fn20, e_fn21, e_fn22, e_fn24, e_fn27, e_fn28, e_fn29, e_fn30, e_fn31, e_fn32, e_fn33, e_fn36, e_fn37, e_fn46, e_fn47, e_fn49, e_fn23, e_fn26, e_fn34, e_fn25, e_hfn25, e_fn35, e_hfn35, e_fn38, e_hfn38]
  refine ⟨fun h => ?_, fun h => ?_⟩
  · obtain ⟨w, hwi⟩ := get_of_lt (xs := ws) (i := i) (by omega)
    have hnl := nearL_length l t ws most i
    refine ⟨by omega, w, hwi, _, c_Dist l t w hl ht (hw w (List.mem_of_getElem? hwi)), fun _ => ⟨fun c => ⟨by omega, by omega, ?_⟩, fun c => ⟨by omega, ?_⟩⟩⟩
    · have e : nearAt l t ws most i = some ((i : Int), distT l t w) := by
        unfold nearAt
        rw [hwi]
        exact if_pos c
      refine back _ (i + 1) ?_ (by omega) (by omega)
      refine ⟨⟨Or.inl rfl, Or.inl rfl, Or.inl rfl, Or.inl rfl, Or.inl rfl, Or.inl rfl, Or.inl rfl, trivial⟩, ⟨⟨Or.inl rfl, Or.inl rfl, Or.inl rfl, Or.inl rfl, Or.inl rfl, trivial⟩, ?_, trivial⟩, rfl, rfl⟩
      refine congrArg (Blk.arr FoundT) ?_
      rw [nearL_succ, e]
      rfl
    · have e : nearAt l t ws most i = none := by
        unfold nearAt
        rw [hwi]
        exact if_neg c
      refine back _ (i + 1) ?_ (by omega) (by omega)
      refine ⟨⟨Or.inl rfl, Or.inl rfl, Or.inl rfl, Or.inl rfl, Or.inl rfl, Or.inl rfl, Or.inl rfl, trivial⟩, ⟨⟨Or.inl rfl, Or.inl rfl, Or.inl rfl, Or.inl rfl, Or.inl rfl, trivial⟩, ?_, trivial⟩, rfl, rfl⟩
      refine congrArg (Blk.arr FoundT) ?_
      rw [nearL_succ, e]
      exact (List.append_nil _).symm
  · have hil : i = ws.length := by omega
    subst hil
    refine ⟨_, _, h_Sort _ (Nat.le_trans (nearL_length l t ws most ws.length) hn), ?_⟩
    simp only [PQ_need, PQ_upd, PQ_imp, PQ_both, PQ_allx, PQ_alln, PQ_exi, PQ_call, PQ_val, PQ_new, PQ_store, PQ_append, PQ_sealed, PQ_hcall, PO_nil, PO_none, PO_some, PH_some, PK_tt, PK_ff, PK_tf, PK_ft, PK_undef, PK_dec_t, PK_dec_f, PB_t, PB_f, PB_dec, PB_ndec, PK_ndec_t, PK_ndec_f, PX_some, PW_nil, PW_blk, PW_inLoop, PW_skip, PW_seq, PW_reg, PW_draw, PW_cond, PW_block, PW_loop, PW_exit, PW_ret, entrySl, entryPV, ivs, argPV, capsOf, List.toList_toArray, forb, madeD, made, madeAt, step1, before, nthL, without, bindsAny, guardDst, nthO, stepF, St.ev, St.get, St.set, St.put, look, mem1, lk, nbeq, nble, nblt, Nat.reduceBEq, cval, kindEq, binO, isShift, binInt, shiftInt, binStr, binEq, negIf, canEq, dep, beqD, boolV, arith, pickO, exitW, HQ, hOK, keepB, newB, flatP, nilB, beq_self_eq_true, St.hret, deadIds, renBl, back_0, back_1, back_2, back_small, retP, retV, rvals, onePV, leBl, leB, leCells, innBl, blkIn, expR, expT, expAll, exp, pk, withR, fstOf, asLit, asSl, asMp, asFnv, asOwn, boxAt, Ty.eq, Ty.cast, evAll, evParts, lenO, intV, appSrc, appendO, lookupO, mapUpdateO, rangeO, nextO, entryO, itEntries, keyT, plainK, Ty.zer, zeroPV, cut, inCut, cutLo, cutHi, sliceO, bound, indexO, loadO, lenEq, storeO, fillO, buildO, elemsO, nthPV, extractD, extractO, callO, hcallO, hcall1, hArgs, hArg, cloO, lastN, chainT, nodupB, innIds, reach, blkIds, passed, fwd, idxOf, PV.ids, PV.idsL, PV.inn, PV.innL, PV.ren, PV.renL, convO, minMax, fieldOff, fieldTy, offOf, fldTy, elemTy, chainLen, arrLen, join, part, widens, cellsOf, Ty.val, PV.cells, aggCells, zeroCells, zeroDen, Ty.cells, Ty.flat, Ty.ok, owns, PV.arrs, PV.arrsL, PV.refs, PV.refsL, PV.kill, PV.killL, PV.sealw, PV.sealL, mapSl, Blk.map, mapBl, dropBl, St.kill, St.sealw, keys, oks, okPs, okP, P0, List.map, List.take, List.drop, List.headD, List.append, List.length, List.cons_append, List.nil_append, Option.bind, cond_true, cond_false, ↓reduceIte, ↓reduceDIte, Bool.not_true, Bool.not_false, Bool.and_true, Bool.true_and, Bool.and_false, Bool.false_and, Bool.false_or, Bool.or_false, Bool.true_or, Bool.or_true, true_implies, Option.some.injEq, decide_true, decide_false, decide_eq_true_eq, decide_eq_false_iff_not, Nat.add_zero, Nat.zero_add, Nat.reduceAdd, Nat.reduceSub, Nat.reduceMul, Nat.reduceLeDiff, Int.toNat_natCast, Nat.lt_irrefl, and_true, true_and, or_false, or_true, true_or, false_or, ← Bool.decide_and, ← Bool.decide_or, ← decide_not, Decidable.not_not, min_i8, max_i8, min_i16, max_i16, min_i32, max_i32, min_i64, max_i64, min_u8, max_u8, min_u16, max_u16, min_u32, max_u32, min_u64, max_u64, Int.reduceLT, Int.reduceLE, Int.cast_ofNat_Int, Int.reduceToNat, Int.toNat_zero, Int.toNat_one, Int.le_refl, and_self, Int.reduceNeg, e_ty1, e_ty2, e_ty3, e_ty4, e_ty5, e_ty6, e_ty7, e_ty8, e_ty9, e_ty10, e_ty11, e_ty12, e_ty13, e_ty14, e_ty21, e_ty22, e_ty23, e_ty24, e_ty25, e_ty26, e_ty27, e_ty28, e_ty29, e_ty30, e_ty31, e_ty32, e_ty33, e_ty34, e_ty35, e_ty36, e_ty37, e_ty38, e_ty39, e_ty40, e_ty41, e_ty42, e_ty43, e_ty44, e_ty45, e_ty46, e_ty47, e_ty48, e_ty49, e_ty50, e_ty51, e_ty52, e_ty53, e_ty54, e_ty55, e_ty56, e_ty57, e_ty58, e_ty59, e_ty60, e_ty61, e_ty62, e_ty63, e_ty64, e_ty65, e_ty66, e_ty67, e_ty68, e_ty69, e_ty70, e_ty71, e_ty72, e_ty73, e_ty74, e_ty75, e_ty76, e_ty77, e_ty79, e_ty80, e_ty81, e_ty83, e_ty84, e_ty85, e_ty86, e_ty87, e_ty88, e_ty89, e_ty90, e_ty91, e_ty93, e_ty96, e_ty97, e_ty103, e_ty104, e_ty105, e_ty106, e_ty108, e_ty109, e_str7, e_str8, e_str13, e_str14, e_str24, e_str25, e_str31, e_str32, e_str45, e_str46, e_str56, e_str57, e_str22, e_str27, e_str43, e_str50, e_str52, e_str59, e_str63, e_cmp7, e_cmp8, e_cmp22, e_cmp43, e_cmp45, e_cmp46, e_cmp50, e_cmp56, e_cmp57, e_cmp59, e_fn2, e_fn3, e_fn4, e_fn5, e_fn6, e_fn7, e_fn8, e_fn9, e_fn10, e_fn11, e_fn12, e_fn13, e_fn14, e_fn15, e_fn16, e_fn17, e_fn18, e_fn19, e_fn20, e_fn21, e_fn22, e_fn24, e_fn27, e_fn28, e_fn29, e_fn30, e_fn31, e_fn32, e_fn33, e_fn36, e_fn37, e_fn46, e_fn47, e_fn49, e_fn23, e_fn26, e_fn34, e_fn25, e_hfn25, e_fn35, e_hfn35, e_fn38, e_hfn38]
    exact fun _ => rfl
end Go.Proofs.Ytahajkiadfgpbaa
namespace Go.Proofs.Ytahajkiadfgpbaa
set_option maxHeartbeats 4000000
set_option maxRecDepth 100000

/-- The distance, by counting down: it computes. -/
def distN (l : Sl) : Nat → List UInt8 → List UInt8 → Int
  | 0, _, _ => 0
  | _ + 1, [], [] => 0
  | n + 1, [], _ :: b => distN l n [] b + l.2.2.1
  | n + 1, _ :: a, [] => distN l n a [] + l.2.1
  | n + 1, x :: a, y :: b =>
    if x ≠ y ∧ a.head? = some y ∧ b.head? = some x then min (min (min (distN l n a (y :: b) + l.2.1) (distN l n (x :: a) b + l.2.2.1)) (distN l n a b + putB l x y)) (distN l n a.tail b.tail + l.1)
    else min (min (distN l n a (y :: b) + l.2.1) (distN l n (x :: a) b + l.2.2.1)) (distN l n a b + putB l x y)
theorem distN_eq (l : Sl) : ∀ (n : Nat) (a b : List UInt8), a.length + b.length ≤ n → distN l n a b = dist l a b := by
  intro n
  induction n with
  | zero =>
    intro a b h
    match a, b with
    | [], [] => rw [dist_nn]; rfl
    | _ :: _, _ => simp only [List.length_cons] at h; omega
    | [], _ :: _ => simp only [List.length_cons] at h; omega
  | succ n ih =>
    intro a b h
    match a, b with
    | [], [] => rw [dist_nn]; rfl
    | [], y :: b =>
      simp only [List.length_cons, List.length_nil] at h
      rw [dist_nc, distN, ih [] b (by simp only [List.length_nil]; omega)]
    | x :: a, [] =>
      simp only [List.length_cons, List.length_nil] at h
      rw [dist_cn, distN, ih a [] (by simp only [List.length_nil]; omega)]
    | x :: a, y :: b =>
      simp only [List.length_cons] at h
      rw [distN, ih a (y :: b) (by simp only [List.length_cons]; omega), ih (x :: a) b (by simp only [List.length_cons]; omega), ih a b (by omega),
        ih a.tail b.tail (by rw [List.length_tail, List.length_tail]; omega)]
      by_cases hc : x ≠ y ∧ a.head? = some y ∧ b.head? = some x
      · rw [if_pos hc]
        match a, b, hc with
        | y' :: a, x' :: b, ⟨hxy, e1, e2⟩ =>
          injection e1 with e1
          injection e2 with e2
          subst e1 e2
          rw [dist_swap l _ _ a b hxy, dist3]
          rfl
      · rw [if_neg hc, dist_cc l x y a b hc, dist3]
theorem distT_eq (l : Sl) (t m : List UInt8) : distT l t m = distN l (m.length + t.length) m.reverse t.reverse := by
  rw [distN_eq _ _ _ _ (by simp)]
  rfl
abbrev sl1 : Sl := (1, 2, 2, 3, [(97, 101, 1)])
theorem fine1 : fine sl1 := by
  refine ⟨by decide, by decide, by decide, by decide, by decide, by decide, by decide, by decide, ?_⟩
  intro x hx
  have : x = (97, 101, 1) := by simpa using hx
  subst this
  decide
theorem v1 : distT sl1 [98, 97] [97, 98] = 1 := by rw [distT_eq]; decide
theorem v2 : distT sl1 [101, 98] [97, 98] = 1 := by rw [distT_eq]; decide
theorem v3 : distT sl1 [99, 98] [97, 98] = 3 := by rw [distT_eq]; decide
theorem v4 : distT sl1 [97] [97, 98] = 2 := by rw [distT_eq]; decide
theorem v5 : distT sl1 [97, 98, 99] [97, 98] = 2 := by rw [distT_eq]; decide
theorem v6 : distT sl1 [] [] = 0 := by rw [distT_eq]; decide
theorem v7 : nearS sl1 [97, 98] [[97, 98, 99], [97, 98], [98, 97], [122, 122]] 2 = [(1, 0), (2, 1), (0, 2)] := by
  unfold nearS nearL nearAt
  simp only [distT_eq]
  decide
theorem v8 : nearS sl1 [97] [[97]] (-1) = [] := by
  unfold nearS nearL nearAt
  simp only [distT_eq]
  decide
theorem c_sanity : PC env 11 [] .bool true := by
  refine PC.of_PW (m := 2000) env_ok fn_11 rfl rfl rfl rfl (by kernel_rfl) ?_; intro hx; simp only [Try.f11]; simp only [PQ_need, PQ_upd, PQ_imp, PQ_both, PQ_allx, PQ_alln, PQ_exi, PQ_call, PQ_val, PQ_new, PQ_store, PQ_append, PQ_sealed, PQ_hcall, PO_nil, PO_none, PO_some, PH_some, PK_tt, PK_ff, PK_tf, PK_ft, PK_undef, PK_dec_t, PK_dec_f, PB_t, PB_f, PB_dec, PB_ndec, PK_ndec_t, PK_ndec_f, PX_some, PW_nil, PW_blk, PW_inLoop, PW_skip, PW_seq, PW_reg, PW_draw, PW_cond, PW_block, PW_loop, PW_exit, PW_ret, entrySl, entryPV, ivs, argPV, capsOf, List.toList_toArray, forb, madeD, made, madeAt, step1, before, nthL, without, bindsAny, guardDst, nthO, stepF, St.ev, St.get, St.set, St.put, look, mem1, lk, nbeq, nble, nblt, Nat.reduceBEq, cval, kindEq, binO, isShift, binInt, shiftInt, binStr, binEq, negIf, canEq, dep, beqD, boolV, arith, pickO, exitW, HQ, hOK, keepB, newB, flatP, nilB, beq_self_eq_true, St.hret, deadIds, renBl, back_0, back_1, back_2, back_small, retP, retV, rvals, onePV, leBl, leB, leCells, innBl, blkIn, expR, expT, expAll, exp, pk, withR, fstOf, asLit, asSl, asMp, asFnv, asOwn, boxAt, Ty.eq, Ty.cast, evAll, evParts, lenO, intV, appSrc, appendO, lookupO, mapUpdateO, rangeO, nextO, entryO, itEntries, keyT, plainK, Ty.zer, zeroPV, cut, inCut, cutLo, cutHi, sliceO, bound, indexO, loadO, lenEq, storeO, fillO, buildO, elemsO, nthPV, extractD, extractO, callO, hcallO, hcall1, hArgs, hArg, cloO, lastN, chainT, nodupB, innIds, reach, blkIds, passed, fwd, idxOf, PV.ids, PV.idsL, PV.inn, PV.innL, PV.ren, PV.renL, convO, minMax, fieldOff, fieldTy, offOf, fldTy, elemTy, chainLen, arrLen, join, part, widens, cellsOf, Ty.val, PV.cells, aggCells, zeroCells, zeroDen, Ty.cells, Ty.flat, Ty.ok, owns, PV.arrs, PV.arrsL, PV.refs, PV.refsL, PV.kill, PV.killL, PV.sealw, PV.sealL, mapSl, Blk.map, mapBl, dropBl, St.kill, St.sealw, keys, oks, okPs, okP, P0, List.map, List.take, List.drop, List.headD, List.append, List.length, List.cons_append, List.nil_append, Option.bind, cond_true, cond_false, ↓reduceIte, ↓reduceDIte, Bool.not_true, Bool.not_false, Bool.and_true, Bool.true_and, Bool.and_false, Bool.false_and, Bool.false_or, Bool.or_false, Bool.true_or, Bool.or_true, true_implies, Option.some.injEq, decide_true, decide_false, decide_eq_true_eq, decide_eq_false_iff_not, Nat.add_zero, Nat.zero_add, Nat.reduceAdd, Nat.reduceSub, Nat.reduceMul, Nat.reduceLeDiff, Int.toNat_natCast, Nat.lt_irrefl, and_true, true_and, or_false, or_true, true_or, false_or, ← Bool.decide_and, ← Bool.decide_or, ← decide_not, Decidable.not_not, min_i8, max_i8, min_i16, max_i16, min_i32, max_i32, min_i64, max_i64, min_u8, max_u8, min_u16, max_u16, min_u32, max_u32, min_u64, max_u64, Int.reduceLT, Int.reduceLE, Int.cast_ofNat_Int, Int.reduceToNat, Int.toNat_zero, Int.toNat_one, Int.le_refl, and_self, Int.reduceNeg, e_ty1, e_ty2, e_ty3, e_ty4, e_ty5, e_ty6, e_ty7, e_ty8, e_ty9, e_ty10, e_ty11, e_ty12, e_ty13, e_ty14, e_ty21, e_ty22, e_ty23, e_ty24, e_ty25, e_ty26, e_ty27, e_ty28, e_ty29, e_ty30, e_ty31, e_ty32, e_ty33, e_ty34, e_ty35, e_ty36, e_ty37, e_ty38, e_ty39, e_ty40, e_ty41, e_ty42, e_ty43, e_ty44, e_ty45, e_ty46, e_ty47, e_ty48, e_ty49, e_ty50, e_ty51, e_ty52, e_ty53, e_ty54, e_ty55, e_ty56, e_ty57, e_ty58, e_ty59, e_ty60, e_ty61, e_ty62, e_ty63, e_ty64, e_ty65, e_ty66, e_ty67, e_ty68, e_ty69, e_ty70, e_ty71, e_ty72, e_ty73, e_ty74, e_ty75, e_ty76, e_ty77, e_ty79, e_ty80, e_ty81, e_ty83, e_ty84, e_ty85, e_ty86, e_ty87, e_ty88, e_ty89, e_ty90, e_ty91, e_ty93, e_ty96, e_ty97, e_ty103, e_ty104, e_ty105, e_ty106, e_ty108, e_ty109, e_str7, e_str8, e_str13, e_str14, e_str24, e_str25, e_str31, e_str32, e_str45, e_str46, e_str56, e_str57, e_str22, e_str27, e_str43, e_str50, e_str52, e_str59, e_str63, e_cmp7, e_cmp8, e_cmp22, e_cmp43, e_cmp45, e_cmp46, e_cmp50, e_cmp56, e_cmp57, e_cmp59, e_fn2, e_fn3, e_fn4, e_fn5, e_fn6, e_fn7, e_fn8, e_fn9, e_fn10, e_fn11, e_fn12, e_fn13, e_fn14, e_fn15, e_fn16, e_fn17, e_fn18, e_fn19, e_fn20, e_fn21, e_fn22, e_fn24, e_fn27, e_fn28, e_fn29, e_fn30, e_fn31, e_fn32, e_fn33, e_fn36, e_fn37, e_fn46, e_fn47, e_fn49, e_fn23, e_fn26, e_fn34, e_fn25, e_hfn25, e_fn35, e_hfn35, e_fn38, e_hfn38]
  have hb : ∀ l : List UInt8, l.length ≤ 10 → l.length ≤ 1000000 := fun l h => by omega
  refine ⟨_, c_Nearest sl1 [97, 98] [[97, 98, 99], [97, 98], [98, 97], [122, 122]] 2 fine1 (by decide) (by decide) (by decide), fun _ => ?_⟩
  rw [v7]
  refine ⟨_, c_Dist sl1 [98, 97] [97, 98] fine1 (by decide) (by decide), fun _ => ?_⟩
  rw [v1]
  refine ⟨fun _ => ?_, fun h => absurd rfl h⟩
  refine ⟨_, c_Dist sl1 [101, 98] [97, 98] fine1 (by decide) (by decide), fun _ => ?_⟩
  rw [v2]
  refine ⟨fun _ => ?_, fun h => absurd rfl h⟩
  refine ⟨_, c_Dist sl1 [99, 98] [97, 98] fine1 (by decide) (by decide), fun _ => ?_⟩
  rw [v3]
  refine ⟨fun _ => ?_, fun h => absurd rfl h⟩
  refine ⟨_, c_Dist sl1 [97] [97, 98] fine1 (by decide) (by decide), fun _ => ?_⟩
  rw [v4]
  refine ⟨fun _ => ?_, fun h => absurd rfl h⟩
  refine ⟨_, c_Dist sl1 [97, 98, 99] [97, 98] fine1 (by decide) (by decide), fun _ => ?_⟩
  rw [v5]
  refine ⟨fun _ => ?_, fun h => absurd rfl h⟩
  refine ⟨_, c_Dist sl1 [] [] fine1 (by decide) (by decide), fun _ => ?_⟩
  rw [v6]
  refine ⟨fun _ => ?_, fun h => absurd rfl h⟩
  refine ⟨_, c_Same [(1, 0), (2, 1), (0, 2)] [(1, 0), (2, 1), (0, 2)], ?_⟩
  rw [show decide (([(1, 0), (2, 1), (0, 2)] : List (Int × Int)) = [(1, 0), (2, 1), (0, 2)]) = true from by decide]
  simp only [PQ_need, PQ_upd, PQ_imp, PQ_both, PQ_allx, PQ_alln, PQ_exi, PQ_call, PQ_val, PQ_new, PQ_store, PQ_append, PQ_sealed, PQ_hcall, PO_nil, PO_none, PO_some, PH_some, PK_tt, PK_ff, PK_tf, PK_ft, PK_undef, PK_dec_t, PK_dec_f, PB_t, PB_f, PB_dec, PB_ndec, PK_ndec_t, PK_ndec_f, PX_some, PW_nil, PW_blk, PW_inLoop, PW_skip, PW_seq, PW_reg, PW_draw, PW_cond, PW_block, PW_loop, PW_exit, PW_ret, entrySl, entryPV, ivs, argPV, capsOf, List.toList_toArray, forb, madeD, made, madeAt, step1, before, nthL, without, bindsAny, guardDst, nthO, stepF, St.ev, St.get, St.set, St.put, look, mem1, lk, nbeq, nble, nblt, Nat.reduceBEq, cval, kindEq, binO, isShift, binInt, shiftInt, binStr, binEq, negIf, canEq, dep, beqD, boolV, arith, pickO, exitW, HQ, hOK, keepB, newB, flatP, nilB, beq_self_eq_true, St.hret, deadIds, renBl, back_0, back_1, back_2, back_small, retP, retV, rvals, onePV, leBl, leB, leCells, innBl, blkIn, expR, expT, expAll, exp, pk, withR, fstOf, asLit, asSl, asMp, asFnv, asOwn, boxAt, Ty.eq, Ty.cast, evAll, evParts, lenO, intV, appSrc, appendO, lookupO, mapUpdateO, rangeO, nextO, entryO, itEntries, keyT, plainK, Ty.zer, zeroPV, cut, inCut, cutLo, cutHi, sliceO, bound, indexO, loadO, lenEq, storeO, fillO, buildO, elemsO, nthPV, extractD, extractO, callO, hcallO, hcall1, hArgs, hArg, cloO, lastN, chainT, nodupB, innIds, reach, blkIds, passed, fwd, idxOf, PV.ids, PV.idsL, PV.inn, PV.innL, PV.ren, PV.renL, convO, minMax, fieldOff, fieldTy, offOf, fldTy, elemTy, chainLen, arrLen, join, part, widens, cellsOf, Ty.val, PV.cells, aggCells, zeroCells, zeroDen, Ty.cells, Ty.flat, Ty.ok, owns, PV.arrs, PV.arrsL, PV.refs, PV.refsL, PV.kill, PV.killL, PV.sealw, PV.sealL, mapSl, Blk.map, mapBl, dropBl, St.kill, St.sealw, keys, oks, okPs, okP, P0, List.map, List.take, List.drop, List.headD, List.append, List.length, List.cons_append, List.nil_append, Option.bind, cond_true, cond_false, ↓reduceIte, ↓reduceDIte, Bool.not_true, Bool.not_false, Bool.and_true, Bool.true_and, Bool.and_false, Bool.false_and, Bool.false_or, Bool.or_false, Bool.true_or, Bool.or_true, true_implies, Option.some.injEq, decide_true, decide_false, decide_eq_true_eq, decide_eq_false_iff_not, Nat.add_zero, Nat.zero_add, Nat.reduceAdd, Nat.reduceSub, Nat.reduceMul, Nat.reduceLeDiff, Int.toNat_natCast, Nat.lt_irrefl, and_true, true_and, or_false, or_true, true_or, false_or, ← Bool.decide_and, ← Bool.decide_or, ← decide_not, Decidable.not_not, min_i8, max_i8, min_i16, max_i16, min_i32, max_i32, min_i64, max_i64, min_u8, max_u8, min_u16, max_u16, min_u32, max_u32, min_u64, max_u64, Int.reduceLT, Int.reduceLE, Int.cast_ofNat_Int, Int.reduceToNat, Int.toNat_zero, Int.toNat_one, Int.le_refl, and_self, Int.reduceNeg, e_ty1, e_ty2, e_ty3, e_ty4, e_ty5, e_ty6, e_ty7, e_ty8, e_ty9, e_ty10, e_ty11, e_ty12, e_ty13, e_ty14, e_ty21, e_ty22, e_ty23, e_ty24, e_ty25, e_ty26, e_ty27, e_ty28, e_ty29, e_ty30, e_ty31, e_ty32, e_ty33, e_ty34, e_ty35, e_ty36, e_ty37, e_ty38, e_ty39, e_ty40, e_ty41, e_ty42, e_ty43, e_ty44, e_ty45, e_ty46, e_ty47, e_ty48, e_ty49, e_ty50, e_ty51, e_ty52, e_ty53, e_ty54, e_ty55, e_ty56, e_ty57, e_ty58, e_ty59, e_ty60, e_ty61, e_ty62, e_ty63, e_ty64, e_ty65, e_ty66, e_ty67, e_ty68, e_ty69, e_ty70, e_ty71, e_ty72, e_ty73, e_ty74, e_ty75, e_ty76, e_ty77, e_ty79, e_ty80, e_ty81, e_ty83, e_ty84, e_ty85, e_ty86, e_ty87, e_ty88, e_ty89, e_ty90, e_ty91, e_ty93, e_ty96, e_ty97, e_ty103, e_ty104, e_ty105, e_ty106, e_ty108, e_ty109, e_str7, e_str8, e_str13, e_str14, e_str24, e_str25, e_str31, e_str32, e_str45, e_str46, e_str56, e_str57, e_str22, e_str27, e_str43, e_str50, e_str52, e_str59, e_str63, e_cmp7, e_cmp8, e_cmp22, e_cmp43, e_cmp45, e_cmp46, e_cmp50, e_cmp56, e_cmp57, e_cmp59, e_fn2, e_fn3, e_fn4, e_fn5, e_fn6, e_fn7, e_fn8, e_fn9, e_fn10, e_fn11, e_fn12, e_fn13, e_fn14, e_fn15, e_fn16, e_fn17, e_fn18, e_fn19, e_fn20, e_fn21, e_fn22, e_fn24, e_fn27, e_fn28, e_fn29, e_fn30, e_fn31, e_fn32, e_fn33, e_fn36, e_fn37, e_fn46, e_fn47, e_fn49, e_fn23, e_fn26, e_fn34, e_fn25, e_hfn25, e_fn35, e_hfn35, e_fn38, e_hfn38]
  refine ⟨_, c_Valid _, ?_⟩
  rw [show decide (validP (1, 2, 2, 3, [(97, 101, 1)])) = true from by decide]
  simp only [PQ_need, PQ_upd, PQ_imp, PQ_both, PQ_allx, PQ_alln, PQ_exi, PQ_call, PQ_val, PQ_new, PQ_store, PQ_append, PQ_sealed, PQ_hcall, PO_nil, PO_none, PO_some, PH_some, PK_tt, PK_ff, PK_tf, PK_ft, PK_undef, PK_dec_t, PK_dec_f, PB_t, PB_f, PB_dec, PB_ndec, PK_ndec_t, PK_ndec_f, PX_some, PW_nil, PW_blk, PW_inLoop, PW_skip, PW_seq, PW_reg, PW_draw, PW_cond, PW_block, PW_loop, PW_exit, PW_ret, entrySl, entryPV, ivs, argPV, capsOf, List.toList_toArray, forb, madeD, made, madeAt, step1, before, nthL, without, bindsAny, guardDst, nthO, stepF, St.ev, St.get, St.set, St.put, look, mem1, lk, nbeq, nble, nblt, Nat.reduceBEq, cval, kindEq, binO, isShift, binInt, shiftInt, binStr, binEq, negIf, canEq, dep, beqD, boolV, arith, pickO, exitW, HQ, hOK, keepB, newB, flatP, nilB, beq_self_eq_true, St.hret, deadIds, renBl, back_0, back_1, back_2, back_small, retP, retV, rvals, onePV, leBl, leB, leCells, innBl, blkIn, expR, expT, expAll, exp, pk, withR, fstOf, asLit, asSl, asMp, asFnv, asOwn, boxAt, Ty.eq, Ty.cast, evAll, evParts, lenO, intV, appSrc, appendO, lookupO, mapUpdateO, rangeO, nextO, entryO, itEntries, keyT, plainK, Ty.zer, zeroPV, cut, inCut, cutLo, cutHi, sliceO, bound, indexO, loadO, lenEq, storeO, fillO, buildO, elemsO, nthPV, extractD, extractO, callO, hcallO, hcall1, hArgs, hArg, cloO, lastN, chainT, nodupB, innIds, reach, blkIds, passed, fwd, idxOf, PV.ids, PV.idsL, PV.inn, PV.innL, PV.ren, PV.renL, convO, minMax, fieldOff, fieldTy, offOf, fldTy, elemTy, chainLen, arrLen, join, part, widens, cellsOf, Ty.val, PV.cells, aggCells, zeroCells, zeroDen, Ty.cells, Ty.flat, Ty.ok, owns, PV.arrs, PV.arrsL, PV.refs, PV.refsL, PV.kill, PV.killL, PV.sealw, PV.sealL, mapSl, Blk.map, mapBl, dropBl, St.kill, St.sealw, keys, oks, okPs, okP, P0, List.map, List.take, List.drop, List.headD, List.append, List.length, List.cons_append, List.nil_append, Option.bind, cond_true, cond_false, ↓reduceIte, ↓reduceDIte, Bool.not_true, Bool.not_false, Bool.and_true, Bool.true_and, Bool.and_false, Bool.false_and, Bool.false_or, Bool.or_false, Bool.true_or, Bool.or_true, true_implies, Option.some.injEq, decide_true, decide_false, decide_eq_true_eq, decide_eq_false_iff_not, Nat.add_zero, Nat.zero_add, Nat.reduceAdd, Nat.reduceSub, Nat.reduceMul, Nat.reduceLeDiff, Int.toNat_natCast, Nat.lt_irrefl, and_true, true_and, or_false, or_true, true_or, false_or, ← Bool.decide_and, ← Bool.decide_or, ← decide_not, Decidable.not_not, min_i8, max_i8, min_i16, max_i16, min_i32, max_i32, min_i64, max_i64, min_u8, max_u8, min_u16, max_u16, min_u32, max_u32, min_u64, max_u64, Int.reduceLT, Int.reduceLE, Int.cast_ofNat_Int, Int.reduceToNat, Int.toNat_zero, Int.toNat_one, Int.le_refl, and_self, Int.reduceNeg, e_ty1, e_ty2, e_ty3, e_ty4, e_ty5, e_ty6, e_ty7, e_ty8, e_ty9, e_ty10, e_ty11, e_ty12, e_ty13, e_ty14, e_ty21, e_ty22, e_ty23, e_ty24, e_ty25, e_ty26, e_ty27, e_ty28, e_ty29, e_ty30, e_ty31, e_ty32, e_ty33, e_ty34, e_ty35, e_ty36, e_ty37, e_ty38, e_ty39, e_ty40, e_ty41, e_ty42, e_ty43, e_ty44, e_ty45, e_ty46, e_ty47, e_ty48, e_ty49, e_ty50, e_ty51, e_ty52, e_ty53, e_ty54, e_ty55, e_ty56, e_ty57, e_ty58, e_ty59, e_ty60, e_ty61, e_ty62, e_ty63, e_ty64, e_ty65, e_ty66, e_ty67, e_ty68, e_ty69, e_ty70, e_ty71, e_ty72, e_ty73, e_ty74, e_ty75, e_ty76, e_ty77, e_ty79, e_ty80, e_ty81, e_ty83, e_ty84, e_ty85, e_ty86, e_ty87, e_ty88, e_ty89, e_ty90, e_ty91, e_ty93, e_ty96, e_ty97, e_ty103, e_ty104, e_ty105, e_ty106, e_ty108, e_ty109, e_str7, e_str8, e_str13, e_str14, e_str24, e_str25, e_str31, e_str32, e_str45, e_str46, e_str56, e_str57, e_str22, e_str27, e_str43, e_str50, e_str52, e_str59, e_str63, e_cmp7, e_cmp8, e_cmp22, e_cmp43, e_cmp45, e_cmp46, e_cmp50, e_cmp56, e_cmp57, e_cmp59, e_fn2, e_fn3, e_fn4, e_fn5, e_fn6, e_fn7, e_fn8, e_fn9, e_fn10, e_fn11, e_fn12, e_fn13, e_fn14, e_fn15, e_fn16, e_fn17, e_fn18, e_fn19, e_fn20, e_fn21, e_fn22, e_fn24, e_fn27, e_fn28, e_fn29, e_fn30, e_fn31, e_fn32, e_fn33, e_fn36, e_fn37, e_fn46, e_fn47, e_fn49, e_fn23, e_fn26, e_fn34, e_fn25, e_hfn25, e_fn35, e_hfn35, e_fn38, e_hfn38]
  refine ⟨_, c_Valid _, ?_⟩
  rw [show decide (validP (1, 2, 2, 3, [(97, 101, 1), (101, 97, 2)])) = false from by decide]
  simp only [PQ_need, PQ_upd, PQ_imp, PQ_both, PQ_allx, PQ_alln, PQ_exi, PQ_call, PQ_val, PQ_new, PQ_store, PQ_append, PQ_sealed, PQ_hcall, PO_nil, PO_none, PO_some, PH_some, PK_tt, PK_ff, PK_tf, PK_ft, PK_undef, PK_dec_t, PK_dec_f, PB_t, PB_f, PB_dec, PB_ndec, PK_ndec_t, PK_ndec_f, PX_some, PW_nil, PW_blk, PW_inLoop, PW_skip, PW_seq, PW_reg, PW_draw, PW_cond, PW_block, PW_loop, PW_exit, PW_ret, entrySl, entryPV, ivs, argPV, capsOf, List.toList_toArray, forb, madeD, made, madeAt, step1, before, nthL, without, bindsAny, guardDst, nthO, stepF, St.ev, St.get, St.set, St.put, look, mem1, lk, nbeq, nble, nblt, Nat.reduceBEq, cval, kindEq, binO, isShift, binInt, shiftInt, binStr, binEq, negIf, canEq, dep, beqD, boolV, arith, pickO, exitW, HQ, hOK, keepB, newB, flatP, nilB, beq_self_eq_true, St.hret, deadIds, renBl, back_0, back_1, back_2, back_small, retP, retV, rvals, onePV, leBl, leB, leCells, innBl, blkIn, expR, expT, expAll, exp, pk, withR, fstOf, asLit, asSl, asMp, asFnv, asOwn, boxAt, Ty.eq, Ty.cast, evAll, evParts, lenO, intV, appSrc, appendO, lookupO, mapUpdateO, rangeO, nextO, entryO, itEntries, keyT, plainK, Ty.zer, zeroPV, cut, inCut, cutLo, cutHi, sliceO, bound, indexO, loadO, lenEq, storeO, fillO, buildO, elemsO, nthPV, extractD, extractO, callO, hcallO, hcall1, hArgs, hArg, cloO, lastN, chainT, nodupB, innIds, reach, blkIds, passed, fwd, idxOf, PV.ids, PV.idsL, PV.inn, PV.innL, PV.ren, PV.renL, convO, minMax, fieldOff, fieldTy, offOf, fldTy, elemTy, chainLen, arrLen, join, part, widens, cellsOf, Ty.val, PV.cells, aggCells, zeroCells, zeroDen, Ty.cells, Ty.flat, Ty.ok, owns, PV.arrs, PV.arrsL, PV.refs, PV.refsL, PV.kill, PV.killL, PV.sealw, PV.sealL, mapSl, Blk.map, mapBl, dropBl, St.kill, St.sealw, keys, oks, okPs, okP, P0, List.map, List.take, List.drop, List.headD, List.append, List.length, List.cons_append, List.nil_append, Option.bind, cond_true, cond_false, ↓reduceIte, ↓reduceDIte, Bool.not_true, Bool.not_false, Bool.and_true, Bool.true_and, Bool.and_false, Bool.false_and, Bool.false_or, Bool.or_false, Bool.true_or, Bool.or_true, true_implies, Option.some.injEq, decide_true, decide_false, decide_eq_true_eq, decide_eq_false_iff_not, Nat.add_zero, Nat.zero_add, Nat.reduceAdd, Nat.reduceSub, Nat.reduceMul, Nat.reduceLeDiff, Int.toNat_natCast, Nat.lt_irrefl, and_true, true_and, or_false, or_true, true_or, false_or, ← Bool.decide_and, ← Bool.decide_or, ← decide_not, Decidable.not_not, min_i8, max_i8, min_i16, max_i16, min_i32, max_i32, min_i64, max_i64, min_u8, max_u8, min_u16, max_u16, min_u32, max_u32, min_u64, max_u64, Int.reduceLT, Int.reduceLE, Int.cast_ofNat_Int, Int.reduceToNat, Int.toNat_zero, Int.toNat_one, Int.le_refl, and_self, Int.reduceNeg, e_ty1, e_ty2, e_ty3, e_ty4, e_ty5, e_ty6, e_ty7, e_ty8, e_ty9, e_ty10, e_ty11, e_ty12, e_ty13, e_ty14, e_ty21, e_ty22, e_ty23, e_ty24, e_ty25, e_ty26, e_ty27, e_ty28, e_ty29, e_ty30, e_ty31, e_ty32, e_ty33, e_ty34, e_ty35, e_ty36, e_ty37, e_ty38, e_ty39, e_ty40, e_ty41, e_ty42, e_ty43, e_ty44, e_ty45, e_ty46, e_ty47, e_ty48, e_ty49, e_ty50, e_ty51, e_ty52, e_ty53, e_ty54, e_ty55, e_ty56, e_ty57, e_ty58, e_ty59, e_ty60, e_ty61, e_ty62, e_ty63, e_ty64, e_ty65, e_ty66, e_ty67, e_ty68, e_ty69, e_ty70, e_ty71, e_ty72, e_ty73, e_ty74, e_ty75, e_ty76, e_ty77, e_ty79, e_ty80, e_ty81, e_ty83, e_ty84, e_ty85, e_ty86, e_ty87, e_ty88, e_ty89, e_ty90, e_ty91, e_ty93, e_ty96, e_ty97, e_ty103, e_ty104, e_ty105, e_ty106, e_ty108, e_ty109, e_str7, e_str8, e_str13, e_str14, e_str24, e_str25, e_str31, e_str32, e_str45, e_str46, e_str56, e_str57, e_str22, e_str27, e_str43, e_str50, e_str52, e_str59, e_str63, e_cmp7, e_cmp8, e_cmp22, e_cmp43, e_cmp45, e_cmp46, e_cmp50, e_cmp56, e_cmp57, e_cmp59, e_fn2, e_fn3, e_fn4, e_fn5, e_fn6, e_fn7, e_fn8, e_fn9, e_fn10, e_fn11, e_fn12, e_fn13, e_fn14, e_fn15, e_fn16, e_fn17, e_fn18, e_fn19, e_fn20, e_fn21, e_fn22, e_fn24, e_fn27, e_fn28, e_fn29, e_fn30, e_fn31, e_fn32, e_fn33, e_fn36, e_fn37, e_fn46, e_fn47, e_fn49, e_fn23, e_fn26, e_fn34, e_fn25, e_hfn25, e_fn35, e_hfn35, e_fn38, e_hfn38]
  refine ⟨_, c_Valid _, ?_⟩
  rw [show decide (validP (0, 0, 0, 0, [])) = false from by decide]
  simp only [PQ_need, PQ_upd, PQ_imp, PQ_both, PQ_allx, PQ_alln, PQ_exi, PQ_call, PQ_val, PQ_new, PQ_store, PQ_append, PQ_sealed, PQ_hcall, PO_nil, PO_none, PO_some, PH_some, PK_tt, PK_ff, PK_tf, PK_ft, PK_undef, PK_dec_t, PK_dec_f, PB_t, PB_f, PB_dec, PB_ndec, PK_ndec_t, PK_ndec_f, PX_some, PW_nil, PW_blk, PW_inLoop, PW_skip, PW_seq, PW_reg, PW_draw, PW_cond, PW_block, PW_loop, PW_exit, PW_ret, entrySl, entryPV, ivs, argPV, capsOf, List.toList_toArray, forb, madeD, made, madeAt, step1, before, nthL, without, bindsAny, guardDst, nthO, stepF, St.ev, St.get, St.set, St.put, look, mem1, lk, nbeq, nble, nblt, Nat.reduceBEq, cval, kindEq, binO, isShift, binInt, shiftInt, binStr, binEq, negIf, canEq, dep, beqD, boolV, arith, pickO, exitW, HQ, hOK, keepB, newB, flatP, nilB, beq_self_eq_true, St.hret, deadIds, renBl, back_0, back_1, back_2, back_small, retP, retV, rvals, onePV, leBl, leB, leCells, innBl, blkIn, expR, expT, expAll, exp, pk, withR, fstOf, asLit, asSl, asMp, asFnv, asOwn, boxAt, Ty.eq, Ty.cast, evAll, evParts, lenO, intV, appSrc, appendO, lookupO, mapUpdateO, rangeO, nextO, entryO, itEntries, keyT, plainK, Ty.zer, zeroPV, cut, inCut, cutLo, cutHi, sliceO, bound, indexO, loadO, lenEq, storeO, fillO, buildO, elemsO, nthPV, extractD, extractO, callO, hcallO, hcall1, hArgs, hArg, cloO, lastN, chainT, nodupB, innIds, reach, blkIds, passed, fwd, idxOf, PV.ids, PV.idsL, PV.inn, PV.innL, PV.ren, PV.renL, convO, minMax, fieldOff, fieldTy, offOf, fldTy, elemTy, chainLen, arrLen, join, part, widens, cellsOf, Ty.val, PV.cells, aggCells, zeroCells, zeroDen, Ty.cells, Ty.flat, Ty.ok, owns, PV.arrs, PV.arrsL, PV.refs, PV.refsL, PV.kill, PV.killL, PV.sealw, PV.sealL, mapSl, Blk.map, mapBl, dropBl, St.kill, St.sealw, keys, oks, okPs, okP, P0, List.map, List.take, List.drop, List.headD, List.append, List.length, List.cons_append, List.nil_append, Option.bind, cond_true, cond_false, ↓reduceIte, ↓reduceDIte, Bool.not_true, Bool.not_false, Bool.and_true, Bool.true_and, Bool.and_false, Bool.false_and, Bool.false_or, Bool.or_false, Bool.true_or, Bool.or_true, true_implies, Option.some.injEq, decide_true, decide_false, decide_eq_true_eq, decide_eq_false_iff_not, Nat.add_zero, Nat.zero_add, Nat.reduceAdd, Nat.reduceSub, Nat.reduceMul, Nat.reduceLeDiff, Int.toNat_natCast, Nat.lt_irrefl, and_true, true_and, or_false, or_true, true_or, false_or, ← Bool.decide_and, ← Bool.decide_or, ← decide_not, Decidable.not_not, min_i8, max_i8, min_i16, max_i16, min_i32, max_i32, min_i64, max_i64, min_u8, max_u8, min_u16, max_u16, min_u32, max_u32, min_u64, max_u64, Int.reduceLT, Int.reduceLE, Int.cast_ofNat_Int, Int.reduceToNat, Int.toNat_zero, Int.toNat_one, Int.le_refl, and_self, Int.reduceNeg, e_ty1, e_ty2, e_ty3, e_ty4, e_ty5, e_ty6, e_ty7, e_ty8, e_ty9, e_ty10, e_ty11, e_ty12, e_ty13, e_ty14, e_ty21, e_ty22, e_ty23, e_ty24, e_ty25, e_ty26, e_ty27, e_ty28, e_ty29, e_ty30, e_ty31, e_ty32, e_ty33, e_ty34, e_ty35, e_ty36, e_ty37, e_ty38, e_ty39, e_ty40, e_ty41, e_ty42, e_ty43, e_ty44, e_ty45, e_ty46, e_ty47, e_ty48, e_ty49, e_ty50, e_ty51, e_ty52, e_ty53, e_ty54, e_ty55, e_ty56, e_ty57, e_ty58, e_ty59, e_ty60, e_ty61, e_ty62, e_ty63, e_ty64, e_ty65, e_ty66, e_ty67, e_ty68, e_ty69, e_ty70, e_ty71, e_ty72, e_ty73, e_ty74, e_ty75, e_ty76, e_ty77, e_ty79, e_ty80, e_ty81, e_ty83, e_ty84, e_ty85, e_ty86, e_ty87, e_ty88, e_ty89, e_ty90, e_ty91, e_ty93, e_ty96, e_ty97, e_ty103, e_ty104, e_ty105, e_ty106, e_ty108, e_ty109, e_str7, e_str8, e_str13, e_str14, e_str24, e_str25, e_str31, e_str32, e_str45, e_str46, e_str56, e_str57, e_str22, e_str27, e_str43, e_str50, e_str52, e_str59, e_str63, e_cmp7, e_cmp8, e_cmp22, e_cmp43, e_cmp45, e_cmp46, e_cmp50, e_cmp56, e_cmp57, e_cmp59, e_fn2, e_fn3, e_fn4, e_fn5, e_fn6, e_fn7, e_fn8, e_fn9, e_fn10, e_fn11, e_fn12, e_fn13, e_fn14, e_fn15, e_fn16, e_fn17, e_fn18, e_fn19, e_fn20, e_fn21, e_fn22, e_fn24, e_fn27, e_fn28, e_fn29, e_fn30, e_fn31, e_fn32, e_fn33, e_fn36, e_fn37, e_fn46, e_fn47, e_fn49, e_fn23, e_fn26, e_fn34, e_fn25, e_hfn25, e_fn35, e_hfn35, e_fn38, e_hfn38]
  refine ⟨_, c_Nearest sl1 [97] [[97]] (-1) fine1 (by decide) (by decide) (by decide), fun _ => ?_⟩
  rw [v8]
  rfl
end Go.Proofs.Ytahajkiadfgpbaa
namespace Go.Proofs.Ytahajkiadfgpbaa
set_option maxHeartbeats 4000000

inductive Script (l : Sl) : List UInt8 → List UInt8 → Int → Prop
  | nil : Script l [] [] 0
  | drop {a b : List UInt8} {c : Int} (x : UInt8) : Script l a b c → Script l (x :: a) b (c + l.2.1)
  | add {a b : List UInt8} {c : Int} (y : UInt8) : Script l a b c → Script l a (y :: b) (c + l.2.2.1)
  | put {a b : List UInt8} {c : Int} (x y : UInt8) : Script l a b c → Script l (x :: a) (y :: b) (c + putB l x y)
  | swap {a b : List UInt8} {c : Int} (x y : UInt8) : x ≠ y → Script l a b c → Script l (x :: y :: a) (y :: x :: b) (c + l.1)

theorem dist_cc_le (l : Sl) (x y : UInt8) (a b : List UInt8) : dist l (x :: a) (y :: b) ≤ dist3 l x y a b := by
  by_cases hc : x ≠ y ∧ a.head? = some y ∧ b.head? = some x
  · match a, b, hc with
    | y' :: a, x' :: b, ⟨hxy, e1, e2⟩ =>
      injection e1 with e1
      injection e2 with e2
      subst e1 e2
      rw [dist_swap l _ _ a b hxy]
      omega
  · rw [dist_cc l x y a b hc]
    exact Int.le_refl _
theorem dist_le {l : Sl} {a b : List UInt8} {c : Int} (h : Script l a b c) : dist l a b ≤ c := by
  induction h with
  | nil => rw [dist_nn]; exact Int.le_refl _
  | @drop a b c x h ih =>
    match b with
    | [] => rw [dist_cn]; omega
    | y :: b =>
      have := dist_cc_le l x y a b
      unfold dist3 at this
      omega
  | @add a b c y h ih =>
    match a with
    | [] => rw [dist_nc]; omega
    | x :: a =>
      have := dist_cc_le l x y a b
      unfold dist3 at this
      omega
  | @put a b c x y h ih =>
    have := dist_cc_le l x y a b
    unfold dist3 at this
    omega
  | @swap a b c x y hxy h ih =>
    rw [dist_swap l _ _ a b hxy]
    omega
theorem Script.cast {l : Sl} {a b : List UInt8} {c d : Int} (h : Script l a b c) (e : c = d) : Script l a b d := e ▸ h
theorem script_of (l : Sl) : ∀ (n : Nat) (a b : List UInt8), a.length + b.length ≤ n → Script l a b (dist l a b) := by
  intro n
  induction n with
  | zero =>
    intro a b h
    match a, b with
    | [], [] => rw [dist_nn]; exact .nil
    | _ :: _, _ => simp only [List.length_cons] at h; omega
    | [], _ :: _ => simp only [List.length_cons] at h; omega
  | succ n ih =>
    intro a b h
    match a, b with
    | [], [] => rw [dist_nn]; exact .nil
    | [], y :: b =>
      simp only [List.length_cons, List.length_nil] at h
      rw [dist_nc]
      exact .add y (ih [] b (by simp only [List.length_nil]; omega))
    | x :: a, [] =>
      simp only [List.length_cons, List.length_nil] at h
      rw [dist_cn]
      exact .drop x (ih a [] (by simp only [List.length_nil]; omega))
    | x :: a, y :: b =>
      simp only [List.length_cons] at h
      have h1 := Script.drop x (ih a (y :: b) (by simp only [List.length_cons]; omega))
      have h2 := Script.add y (ih (x :: a) b (by simp only [List.length_cons]; omega))
      have h3 := Script.put x y (ih a b (by omega))
      have h0 : Script l (x :: a) (y :: b) (dist3 l x y a b) := by
        unfold dist3
        rcases Int.le_total (min (dist l a (y :: b) + l.2.1) (dist l (x :: a) b + l.2.2.1)) (dist l a b + putB l x y) with g | g
        · rw [Int.min_eq_left g]
          rcases Int.le_total (dist l a (y :: b) + l.2.1) (dist l (x :: a) b + l.2.2.1) with g | g
          · rw [Int.min_eq_left g]; exact h1
          · rw [Int.min_eq_right g]; exact h2
        · rw [Int.min_eq_right g]; exact h3
      by_cases hc : x ≠ y ∧ a.head? = some y ∧ b.head? = some x
      · match a, b, hc with
        | y' :: a, x' :: b, ⟨hxy, e1, e2⟩ =>
          injection e1 with e1
          injection e2 with e2
          subst e1 e2
          rw [dist_swap l _ _ a b hxy]
          rcases Int.le_total (dist3 l x' y' (y' :: a) (x' :: b)) (dist l a b + l.1) with g | g
          · rw [Int.min_eq_left g]; exact h0
          · rw [Int.min_eq_right g]; exact .swap _ _ hxy (ih a b (by simp only [List.length_cons] at h; omega))
      · rw [dist_cc l x y a b hc]
        exact h0
theorem script (l : Sl) (a b : List UInt8) : Script l a b (dist l a b) := script_of l _ a b (Nat.le_refl _)
theorem dist_iff {l : Sl} {a b : List UInt8} {n : Int} (h : ∀ c, Script l a b c → n ≤ c) : n ≤ dist l a b := h _ (script l a b)

theorem Script.append {l : Sl} {a b a' b' : List UInt8} {c c' : Int} (h : Script l a b c) (h' : Script l a' b' c') : Script l (a ++ a') (b ++ b') (c + c') := by
  induction h with
  | nil => exact h'.cast (by omega)
  | drop x _ ih => exact (Script.drop x ih).cast (by omega)
  | add y _ ih => exact (Script.add y ih).cast (by omega)
  | put x y _ ih => exact (Script.put x y ih).cast (by omega)
  | swap x y hxy _ ih => exact (Script.swap x y hxy ih).cast (by omega)
theorem Script.rev {l : Sl} {a b : List UInt8} {c : Int} (h : Script l a b c) : Script l a.reverse b.reverse c := by
  induction h with
  | nil => exact .nil
  | drop x _ ih =>
    have := ih.append (.drop x .nil)
    rw [List.append_nil] at this
    rw [List.reverse_cons]
    exact this.cast (by omega)
  | add y _ ih =>
    have := ih.append (.add y .nil)
    rw [List.append_nil] at this
    rw [List.reverse_cons]
    exact this.cast (by omega)
  | put x y _ ih =>
    rw [List.reverse_cons, List.reverse_cons]
    exact (ih.append (.put x y .nil)).cast (by omega)
  | swap x y hxy _ ih =>
    rw [List.reverse_cons, List.reverse_cons, List.reverse_cons, List.reverse_cons, List.append_assoc, List.append_assoc]
    exact (ih.append (.swap y x (fun e => hxy e.symm) .nil)).cast (by omega)
theorem dist_rev (l : Sl) (a b : List UInt8) : dist l a.reverse b.reverse = dist l a b := by
  refine Int.le_antisymm (dist_le (script l a b).rev) ?_
  have := dist_le (script l a.reverse b.reverse).rev
  rwa [List.reverse_reverse, List.reverse_reverse] at this
theorem distT_dist (l : Sl) (t m : List UInt8) : distT l t m = dist l m t := dist_rev l m t
theorem putB_same (l : Sl) (x : UInt8) : putB l x x = 0 := by unfold putB; rw [putD_eq, if_pos rfl]
theorem Script.same (l : Sl) (a : List UInt8) : Script l a a 0 := by
  induction a with
  | nil => exact .nil
  | cons x a ih => exact (Script.put x x ih).cast (by rw [putB_same]; rfl)
theorem Script.dropAll (l : Sl) (a : List UInt8) : Script l a [] (a.length * l.2.1) := by
  induction a with
  | nil => exact Script.nil.cast (by simp)
  | cons x a ih => exact (Script.drop x ih).cast (by rw [List.length_cons, Int.natCast_add, Int.add_mul]; simp)
theorem Script.addAll (l : Sl) (b : List UInt8) : Script l [] b (b.length * l.2.2.1) := by
  induction b with
  | nil => exact Script.nil.cast (by simp)
  | cons x a ih => exact (Script.add x ih).cast (by rw [List.length_cons, Int.natCast_add, Int.add_mul]; simp)
/-- The costs are at least 1. -/
def dear (l : Sl) : Prop := 1 ≤ l.1 ∧ 1 ≤ l.2.1 ∧ 1 ≤ l.2.2.1 ∧ 1 ≤ l.2.2.2.1 ∧ ∀ x, x ∈ l.2.2.2.2 → 1 ≤ x.2.2
theorem putD_pos (al : List Al) (q : Al → Bool) : ∀ (c : Int), 1 ≤ c → (∀ x, x ∈ al → 1 ≤ x.2.2) → 1 ≤ al.foldl (fun c x => if q x then min c x.2.2 else c) c := by
  induction al with
  | nil => intro c h1 _; exact h1
  | cons e al ih =>
    intro c h1 h
    rw [List.foldl_cons]
    have he := h e (List.mem_cons_self ..)
    refine ih _ ?_ (fun x hx => h x (List.mem_cons_of_mem _ hx))
    split <;> omega
theorem putB_pos {l : Sl} (h : dear l) {x y : UInt8} (hxy : x ≠ y) : 1 ≤ putB l x y := by
  unfold putB
  rw [putD_eq, if_neg]
  · exact putD_pos _ _ _ h.2.2.2.1 h.2.2.2.2
  · intro e
    exact hxy (UInt8.toNat_inj.mp (by omega))
theorem Script.zero {l : Sl} (hd : dear l) {a b : List UInt8} {c : Int} (h : Script l a b c) : 0 ≤ c ∧ (c = 0 → a = b) := by
  obtain ⟨h1, h2, h3, h4, h5⟩ := id hd
  induction h with
  | nil => exact ⟨Int.le_refl _, fun _ => rfl⟩
  | drop x _ ih => exact ⟨by omega, fun e => by omega⟩
  | add y _ ih => exact ⟨by omega, fun e => by omega⟩
  | put x y _ ih =>
    by_cases e : x = y
    · subst e
      rw [putB_same]
      exact ⟨by omega, fun e => by rw [ih.2 (by omega)]⟩
    · have := putB_pos hd e
      exact ⟨by omega, fun e => by omega⟩
  | swap x y _ _ ih => exact ⟨by omega, fun e => by omega⟩
theorem distT_zero {l : Sl} (hd : dear l) (t m : List UInt8) : 0 ≤ distT l t m ∧ (distT l t m = 0 ↔ t = m) := by
  rw [distT_dist]
  have h := Script.zero hd (script l m t)
  refine ⟨h.1, fun e => (h.2 e).symm, fun e => ?_⟩
  subst e
  have := dist_le (Script.same l t)
  omega
theorem distT_same (l : Sl) (hd : dear l) (t : List UInt8) : distT l t t = 0 := (distT_zero hd t t).2.mpr rfl
theorem distT_most (l : Sl) (t m : List UInt8) : distT l t m ≤ m.length * l.2.1 + t.length * l.2.2.1 := by
  rw [distT_dist]
  have := dist_le ((Script.dropAll l m).append (Script.addAll l t))
  rwa [List.append_nil, List.nil_append] at this
end Go.Proofs.Ytahajkiadfgpbaa
namespace Go.Proofs.Ytahajkiadfgpbaa
set_option maxHeartbeats 4000000

theorem madeAls_from (l : List (Int × Int × Int)) : ∀ (acc : List Al), (∀ y, y ∈ acc → ∃ e, y = mkAl e) → ∀ y, y ∈ l.foldl addAl acc → ∃ e, y = mkAl e := by
  induction l with
  | nil => intro acc h; exact h
  | cons e l ih =>
    intro acc h
    rw [List.foldl_cons]
    refine ih _ ?_
    unfold addAl
    split
    · intro y hy
      rcases List.mem_append.mp hy with hy | hy
      · exact h y hy
      · rw [List.mem_singleton] at hy
        exact ⟨e, hy⟩
    · exact h
theorem madeAls_mem {l : List (Int × Int × Int)} {y : Al} (h : y ∈ madeAls l) : ∃ e, y = mkAl e := madeAls_from _ [] (fun y hy => by cases hy) y h
theorem madeAls_len (l : List (Int × Int × Int)) : (madeAls l).length ≤ 5 := by
  have := madeAls_le (l.take 5) []
  unfold madeAls
  rw [List.length_take] at this
  simp only [List.length_nil] at this
  omega
/-- Costs from 1 to 8. -/
def mild (l : Sl) : Prop := (1 ≤ l.1 ∧ l.1 ≤ 8) ∧ (1 ≤ l.2.1 ∧ l.2.1 ≤ 8) ∧ (1 ≤ l.2.2.1 ∧ l.2.2.1 ≤ 8) ∧ (1 ≤ l.2.2.2.1 ∧ l.2.2.2.1 ≤ 8) ∧ ∀ x, x ∈ l.2.2.2.2 → 1 ≤ x.2.2 ∧ x.2.2 ≤ 8
theorem mild_made (x : RawD) : mild (madeS x) := by
  unfold mild madeS
  refine ⟨⟨?_, ?_⟩, ⟨?_, ?_⟩, ⟨?_, ?_⟩, ⟨?_, ?_⟩, fun y hy => ?_⟩ <;> try (dsimp only; omega)
  obtain ⟨e, rfl⟩ := madeAls_mem hy
  unfold mkAl
  dsimp only
  omega
theorem mild.fine {l : Sl} (h : mild l) : fine l := by
  obtain ⟨⟨a, b⟩, ⟨c, d⟩, ⟨e, f⟩, ⟨g, i⟩, j⟩ := h
  exact ⟨by omega, by omega, by omega, by omega, by omega, by omega, by omega, by omega, fun x hx => by have := j x hx; omega⟩
theorem mild.dear {l : Sl} (h : mild l) : dear l := ⟨h.1.1, h.2.1.1, h.2.2.1.1, h.2.2.2.1.1, fun x hx => (h.2.2.2.2 x hx).1⟩
theorem textB_len (l : List Int) (n : Nat) : (textB l n).length ≤ n := by
  unfold textB
  simp
  omega
end Go.Proofs.Ytahajkiadfgpbaa
