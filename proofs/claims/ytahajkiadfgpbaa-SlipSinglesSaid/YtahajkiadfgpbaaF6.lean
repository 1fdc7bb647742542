/- The law SlipSingles holds for every input. No condition. -/
import Derived.Test.YtahajkiadfgpbaaB2
import Derived.Test.YtahajkiadfgpbaaB2
import Derived.Test.YtahajkiadfgpbaaRows
set_option linter.unusedSimpArgs false
set_option linter.unusedVariables false
namespace Go.Proofs.Ytahajkiadfgpbaa
set_option maxHeartbeats 4000000

theorem distT_parts (l : Sl) (a b c d : List UInt8) : distT l (a ++ c) (b ++ d) ≤ distT l a b + distT l c d := by
  rw [distT_dist, distT_dist, distT_dist]
  exact dist_le ((script l b a).append (script l d c))
theorem distT_zero' (l : Sl) (a : List UInt8) : distT l a a ≤ 0 := by rw [distT_dist]; exact dist_le (Script.same l a)
theorem distT_before (l : Sl) (a b c : List UInt8) : distT l (c ++ a) (c ++ b) ≤ distT l a b := by
  have h := distT_parts l c c a b
  have := distT_zero' l c
  omega
theorem distT_behind (l : Sl) (a b c : List UInt8) : distT l (a ++ c) (b ++ c) ≤ distT l a b := by
  have h := distT_parts l a b c c
  have := distT_zero' l c
  omega
theorem distT_back (l : Sl) (a b : List UInt8) : distT l a.reverse b.reverse = distT l a b := by
  rw [distT_dist, distT_dist, dist_rev]
def turned (l : Sl) : Sl := (l.1, l.2.2.1, l.2.1, l.2.2.2.1, l.2.2.2.2)
theorem putB_sym (l : Sl) (x y : UInt8) : putB l x y = putB l y x := by
  unfold putB putD
  rw [Int.min_comm (x.toNat : Int), Int.max_comm (x.toNat : Int)]
  by_cases h : (x.toNat : Int) = y.toNat
  · rw [if_pos h, if_pos h.symm]
  · rw [if_neg h, if_neg fun e => h e.symm]
theorem putB_turned (l : Sl) (x y : UInt8) : putB (turned l) x y = putB l x y := rfl
theorem Script.turn {l : Sl} {a b : List UInt8} {c : Int} (h : Script l a b c) : Script (turned l) b a c := by
  induction h with
  | nil => exact .nil
  | drop x _ ih => exact .add x ih
  | add y _ ih => exact .drop y ih
  | put x y _ ih => exact (Script.put y x ih).cast (by rw [putB_turned, putB_sym])
  | swap x y h _ ih => exact .swap y x (fun e => h e.symm) ih
theorem distT_turned (l : Sl) (a b : List UInt8) : distT (turned l) b a = distT l a b := by
  rw [distT_dist, distT_dist]
  exact Int.le_antisymm (dist_le (script l b a).turn) (dist_le (Script.turn (l := turned l) (script (turned l) a b)))

/-- Greater costs, by at most 3. -/
structure More (l e : Sl) : Prop where
  swap : l.1 ≤ e.1 ∧ e.1 ≤ l.1 + 3
  drop : l.2.1 ≤ e.2.1 ∧ e.2.1 ≤ l.2.1 + 3
  add : l.2.2.1 ≤ e.2.2.1 ∧ e.2.2.1 ≤ l.2.2.1 + 3
  put : ∀ x y, putB l x y ≤ putB e x y ∧ putB e x y ≤ putB l x y + 3
theorem Script.less {l e : Sl} (hm : More l e) {a b : List UInt8} {c : Int} (h : Script e a b c) : dist l a b ≤ c := by
  suffices ∃ d, d ≤ c ∧ Script l a b d from by
    obtain ⟨d, h1, h2⟩ := this
    exact Int.le_trans (dist_le h2) h1
  obtain ⟨h1, h2, h3, h4⟩ := hm
  induction h with
  | nil => exact ⟨0, Int.le_refl _, .nil⟩
  | drop x _ ih => obtain ⟨d, e1, e2⟩ := ih; exact ⟨_, by omega, .drop x e2⟩
  | add y _ ih => obtain ⟨d, e1, e2⟩ := ih; exact ⟨_, by omega, .add y e2⟩
  | put x y _ ih => obtain ⟨d, e1, e2⟩ := ih; have := h4 x y; exact ⟨_, by omega, .put x y e2⟩
  | swap x y h _ ih => obtain ⟨d, e1, e2⟩ := ih; exact ⟨_, by omega, .swap x y h e2⟩
theorem Script.greater {l e : Sl} (hm : More l e) {a b : List UInt8} {c : Int} (h : Script l a b c) : dist e a b ≤ c + 3 * (a.length + b.length) := by
  suffices ∃ d, d ≤ c + 3 * (a.length + b.length : Nat) ∧ Script e a b d from by
    obtain ⟨d, h1, h2⟩ := this
    have := dist_le h2
    omega
  obtain ⟨h1, h2, h3, h4⟩ := hm
  induction h with
  | nil => exact ⟨0, by simp, .nil⟩
  | drop x _ ih => obtain ⟨d, e1, e2⟩ := ih; exact ⟨_, by simp only [List.length_cons]; omega, .drop x e2⟩
  | add y _ ih => obtain ⟨d, e1, e2⟩ := ih; exact ⟨_, by simp only [List.length_cons]; omega, .add y e2⟩
  | put x y _ ih => obtain ⟨d, e1, e2⟩ := ih; have := h4 x y; exact ⟨_, by simp only [List.length_cons]; omega, .put x y e2⟩
  | swap x y h _ ih => obtain ⟨d, e1, e2⟩ := ih; exact ⟨_, by simp only [List.length_cons]; omega, .swap x y h e2⟩
theorem distT_more {l e : Sl} (hm : More l e) (a b : List UInt8) : distT l a b ≤ distT e a b ∧ distT e a b ≤ distT l a b + 3 * (a.length + b.length) := by
  rw [distT_dist, distT_dist]
  have h1 := Script.less hm (script e b a)
  have h2 := Script.greater hm (script l b a)
  exact ⟨h1, by omega⟩
theorem putFold_more (al : List Al) (q : Al → Bool) : ∀ (c d : Int), c ≤ d → d ≤ c + 3 →
    al.foldl (fun c x => if q x then min c x.2.2 else c) c ≤ al.foldl (fun c x => if q x then min c x.2.2 else c) d ∧
    al.foldl (fun c x => if q x then min c x.2.2 else c) d ≤ al.foldl (fun c x => if q x then min c x.2.2 else c) c + 3 := by
  induction al with
  | nil => intro c d h1 h2; exact ⟨h1, h2⟩
  | cons e al ih =>
    intro c d h1 h2
    rw [List.foldl_cons, List.foldl_cons]
    refine ih _ _ ?_ ?_ <;> split <;> omega
theorem more_of (l : Sl) (m : Int × Int × Int × Int) (h1 : 0 ≤ m.1 ∧ m.1 ≤ 3) (h2 : 0 ≤ m.2.1 ∧ m.2.1 ≤ 3) (h3 : 0 ≤ m.2.2.1 ∧ m.2.2.1 ≤ 3) (h4 : 0 ≤ m.2.2.2 ∧ m.2.2.2 ≤ 3) :
    More l (l.1 + m.1, l.2.1 + m.2.1, l.2.2.1 + m.2.2.1, l.2.2.2.1 + m.2.2.2, l.2.2.2.2) := by
  refine ⟨⟨?_, ?_⟩, ⟨?_, ?_⟩, ⟨?_, ?_⟩, fun x y => ?_⟩ <;> try (dsimp only; omega)
  unfold putB
  rw [putD_eq, putD_eq]
  split
  · omega
  · exact putFold_more _ _ _ _ (by dsimp only; omega) (by dsimp only; omega)

def dbl (y : Al) : Al := (y.1, y.2.1, 2 * y.2.2)
def twice (l : Sl) : Sl := (2 * l.1, 2 * l.2.1, 2 * l.2.2.1, 2 * l.2.2.2.1, l.2.2.2.2.map dbl)
theorem putFold_twice (al : List Al) (q : Int → Int → Bool) : ∀ (c : Int),
    (al.map dbl).foldl (fun c x => if q x.1 x.2.1 then min c x.2.2 else c) (2 * c) = 2 * al.foldl (fun c x => if q x.1 x.2.1 then min c x.2.2 else c) c := by
  induction al with
  | nil => intro c; rfl
  | cons e al ih =>
    intro c
    rw [List.map_cons, List.foldl_cons, List.foldl_cons, ← ih]
    congr 1
    show (if q e.1 e.2.1 then min (2 * c) (2 * e.2.2) else 2 * c) = 2 * (if q e.1 e.2.1 then min c e.2.2 else c)
    split <;> omega
theorem putB_twice (l : Sl) (x y : UInt8) : putB (twice l) x y = 2 * putB l x y := by
  unfold putB
  rw [putD_eq, putD_eq]
  split
  · rfl
  · exact putFold_twice l.2.2.2.2 (fun a b => decide ((min a b, max a b) = (min (x.toNat : Int) y.toNat, max (x.toNat : Int) y.toNat))) l.2.2.2.1
theorem Script.dbl {l : Sl} {a b : List UInt8} {c : Int} (h : Script l a b c) : Script (twice l) a b (2 * c) := by
  induction h with
  | nil => exact .nil
  | drop x _ ih => exact (Script.drop x ih).cast (by show _ + 2 * l.2.1 = _; omega)
  | add y _ ih => exact (Script.add y ih).cast (by show _ + 2 * l.2.2.1 = _; omega)
  | put x y _ ih => exact (Script.put x y ih).cast (by rw [putB_twice]; omega)
  | swap x y h _ ih => exact (Script.swap x y h ih).cast (by show _ + 2 * l.1 = _; omega)
theorem Script.half {l : Sl} {a b : List UInt8} {c : Int} (h : Script (twice l) a b c) : 2 * dist l a b ≤ c := by
  suffices ∃ d, c = 2 * d ∧ Script l a b d from by
    obtain ⟨d, h1, h2⟩ := this
    have := dist_le h2
    omega
  induction h with
  | nil => exact ⟨0, rfl, .nil⟩
  | drop x _ ih => obtain ⟨d, e1, e2⟩ := ih; exact ⟨_, by show _ + 2 * l.2.1 = _; omega, .drop x e2⟩
  | add y _ ih => obtain ⟨d, e1, e2⟩ := ih; exact ⟨_, by show _ + 2 * l.2.2.1 = _; omega, .add y e2⟩
  | put x y _ ih => obtain ⟨d, e1, e2⟩ := ih; exact ⟨_, by rw [putB_twice]; omega, .put x y e2⟩
  | swap x y h _ ih => obtain ⟨d, e1, e2⟩ := ih; exact ⟨_, by show _ + 2 * l.1 = _; omega, .swap x y h e2⟩
theorem distT_twice (l : Sl) (a b : List UInt8) : distT (twice l) a b = 2 * distT l a b := by
  rw [distT_dist, distT_dist]
  have h1 := dist_le (script l b a).dbl
  have h2 := Script.half (script (twice l) b a)
  omega
theorem distT_bound {l : Sl} (h : mild l) (t m : List UInt8) (ht : t.length ≤ 12) (hm : m.length ≤ 12) : 0 ≤ distT l t m ∧ distT l t m ≤ 1000000 := by
  have := dist_fine h.fine _ m.reverse t.reverse (Nat.le_refl _)
  rw [List.length_reverse, List.length_reverse] at this
  unfold distT
  omega
end Go.Proofs.Ytahajkiadfgpbaa
namespace Go.Proofs.Ytahajkiadfgpbaa
set_option maxHeartbeats 4000000

theorem distT_mid (l : Sl) (L R t m : List UInt8) : distT l (L ++ t ++ R) (L ++ m ++ R) ≤ distT l t m :=
  Int.le_trans (distT_behind l (L ++ t) (L ++ m) R) (distT_before l t m L)
theorem distT_one_more (l : Sl) (L R : List UInt8) (c : UInt8) : distT l (L ++ [c] ++ R) (L ++ R) ≤ l.2.2.1 := by
  have h := distT_mid l L R [c] []
  rw [List.append_nil] at h
  have : distT l [c] [] ≤ l.2.2.1 := by
    rw [distT_dist]
    exact dist_le ((Script.add c Script.nil).cast (by omega))
  omega
theorem distT_one_less (l : Sl) (L R : List UInt8) (c : UInt8) : distT l (L ++ R) (L ++ [c] ++ R) ≤ l.2.1 := by
  have h := distT_mid l L R [] [c]
  rw [List.append_nil] at h
  have : distT l [] [c] ≤ l.2.1 := by
    rw [distT_dist]
    exact dist_le ((Script.drop c Script.nil).cast (by omega))
  omega
theorem distT_other (l : Sl) (L R : List UInt8) (c d : UInt8) : distT l (L ++ [c] ++ R) (L ++ [d] ++ R) ≤ putB l d c := by
  have h := distT_mid l L R [c] [d]
  have : distT l [c] [d] ≤ putB l d c := by
    rw [distT_dist]
    exact dist_le ((Script.put d c Script.nil).cast (by omega))
  omega
theorem distT_swap (l : Sl) (hs : 0 ≤ l.1) (L R : List UInt8) (x y : UInt8) : distT l (L ++ [y, x] ++ R) (L ++ [x, y] ++ R) ≤ l.1 := by
  by_cases e : x = y
  · subst e
    have := distT_zero' l (L ++ [x, x] ++ R)
    omega
  · have h := distT_mid l L R [y, x] [x, y]
    have : distT l [y, x] [x, y] ≤ l.1 := by
      rw [distT_dist]
      exact dist_le ((Script.swap x y e Script.nil).cast (by omega))
    omega
theorem putFold_le (al : List Al) (q : Al → Bool) : ∀ (c : Int), al.foldl (fun c x => if q x then min c x.2.2 else c) c ≤ c ∧ ∀ y, y ∈ al → q y = true → al.foldl (fun c x => if q x then min c x.2.2 else c) c ≤ y.2.2 := by
  induction al with
  | nil => intro c; exact ⟨Int.le_refl _, fun y hy => by cases hy⟩
  | cons e al ih =>
    intro c
    rw [List.foldl_cons]
    have h := ih (if q e then min c e.2.2 else c)
    refine ⟨?_, fun y hy hq => ?_⟩
    · refine Int.le_trans h.1 ?_
      split <;> omega
    · rcases List.mem_cons.mp hy with rfl | hy
      · have := h.1
        rw [if_pos hq] at this
        rw [if_pos hq]
        omega
      · exact h.2 y hy hq
theorem putB_le {l : Sl} (h : 0 ≤ l.2.2.2.1) (x y : UInt8) : putB l x y ≤ l.2.2.2.1 := by
  unfold putB
  rw [putD_eq]
  split
  · exact h
  · exact (putFold_le _ _ _).1
theorem putB_alike {l : Sl} (h : mild l) {z : Al} (hz : z ∈ l.2.2.2.2) {x y : UInt8} (hx : (x.toNat : Int) = z.1) (hy : (y.toNat : Int) = z.2.1) : putB l x y ≤ min z.2.2 l.2.2.2.1 := by
  have h1 := putB_le (l := l) (by have := h.2.2.2.1; omega) x y
  have h2 := h.2.2.2.2 z hz
  have : putB l x y ≤ z.2.2 := by
    unfold putB
    rw [putD_eq]
    split
    · omega
    · refine (putFold_le _ _ _).2 z hz ?_
      rw [decide_eq_true_eq, hx, hy]
  omega
theorem split_at (a : List UInt8) (i : Nat) (c : UInt8) (h : a[i]? = some c) : a = a.take i ++ [c] ++ a.drop (i + 1) := by
  conv => lhs; rw [← List.take_append_drop i a, drop_cons h]
  simp
theorem made_letters {x : RawD} {z : Al} (hz : z ∈ (madeS x).2.2.2.2) : ((UInt8.ofNat z.1.toNat).toNat : Int) = z.1 ∧ ((UInt8.ofNat z.2.1.toNat).toNat : Int) = z.2.1 := by
  obtain ⟨e, rfl⟩ := madeAls_mem hz
  unfold mkAl
  dsimp only
  rw [UInt8.toNat_ofNat', UInt8.toNat_ofNat']
  omega
theorem split_two (a : List UInt8) (i : Nat) (c d : UInt8) (h : a[i]? = some c) (h' : a[i + 1]? = some d) : a = a.take i ++ [c, d] ++ a.drop (i + 2) := by
  conv => lhs; rw [← List.take_append_drop i a, drop_cons h, drop_cons h']
  simp
end Go.Proofs.Ytahajkiadfgpbaa
namespace Go.Proofs.Ytahajkiadfgpbaa
set_option maxHeartbeats 4000000
set_option maxRecDepth 100000

theorem c_Singles (x : RawD) (l : List Int) (w : Int × Int) : PC env 6 [⟨RawT, x⟩, ⟨.sl (.int .u8), l⟩, ⟨.st (.pair (.int .u8) (.int .u8)), w⟩] .bool true := by
  refine PC.of_PW (m := 2000) env_ok fn_6 rfl rfl rfl rfl (by kernel_rfl) ?_; intro hx; simp only [Try.f6]; simp only [PQ_need, PQ_exi, PQ_call, PQ_val, PQ_new, PQ_store, PQ_append, PQ_sealed, PQ_hcall, PO_nil, PO_none, PO_some, PH_some, PK_tt, PK_ff, PK_tf, PK_ft, PK_undef, PK_dec_t, PK_dec_f, PB_t, PB_f, PB_dec, PB_ndec, PK_ndec_t, PK_ndec_f, PX_some, PW_nil, PW_blk, PW_inLoop, PW_skip, PW_seq, PW_reg, PW_draw, PW_cond, PW_block, PW_loop, PW_exit, PW_ret, entrySl, entryPV, ivs, argPV, capsOf, List.toList_toArray, forb, madeD, made, madeAt, step1, before, nthL, without, bindsAny, guardDst, nthO, stepF, St.ev, St.get, St.set, St.put, look, mem1, lk, nbeq, nble, nblt, Nat.reduceBEq, cval, kindEq, binO, isShift, binInt, shiftInt, binStr, binEq, negIf, canEq, dep, beqD, boolV, arith, pickO, exitW, HQ, hOK, keepB, newB, flatP, nilB, beq_self_eq_true, St.hret, deadIds, renBl, back_0, back_1, back_2, back_small, retP, retV, rvals, onePV, leBl, leB, leCells, innBl, blkIn, expR, expT, expAll, exp, pk, withR, fstOf, asLit, asSl, asMp, asFnv, asOwn, boxAt, Ty.eq, Ty.cast, evAll, evParts, lenO, intV, appendO, cut, inCut, cutLo, cutHi, sliceO, bound, indexO, loadO, lenEq, storeO, fillO, buildO, elemsO, nthPV, extractD, extractO, callO, hcallO, hcall1, hArgs, hArg, cloO, lastN, chainT, nodupB, innIds, reach, blkIds, passed, fwd, idxOf, PV.ids, PV.idsL, PV.inn, PV.innL, PV.ren, PV.renL, convO, minMax, fieldOff, fieldTy, offOf, fldTy, elemTy, chainLen, arrLen, join, part, widens, cellsOf, Ty.val, PV.cells, aggCells, zeroCells, zeroDen, Ty.cells, Ty.flat, Ty.ok, owns, PV.arrs, PV.arrsL, PV.refs, PV.refsL, PV.kill, PV.killL, PV.sealw, PV.sealL, mapSl, Blk.map, mapBl, dropBl, St.kill, St.sealw, keys, oks, okPs, okP, P0, List.map, List.take, List.drop, List.headD, List.append, List.length, List.cons_append, List.nil_append, Option.bind, cond_true, cond_false, ↓reduceIte, ↓reduceDIte, Bool.not_true, Bool.not_false, Bool.and_true, Bool.true_and, Bool.and_false, Bool.false_and, Bool.false_or, Bool.or_false, Bool.true_or, Bool.or_true, true_implies, Option.some.injEq, decide_true, decide_false, decide_eq_true_eq, decide_eq_false_iff_not, Nat.add_zero, Nat.zero_add, Nat.reduceAdd, Nat.reduceSub, Nat.reduceMul, Nat.reduceLeDiff, Int.toNat_natCast, Nat.lt_irrefl, and_true, true_and, or_false, or_true, true_or, false_or, ← Bool.decide_and, ← Bool.decide_or, ← decide_not, Decidable.not_not, min_i8, max_i8, min_i16, max_i16, min_i32, max_i32, min_i64, max_i64, min_u8, max_u8, min_u16, max_u16, min_u32, max_u32, min_u64, max_u64, Int.reduceLT, Int.reduceLE, Int.cast_ofNat_Int, Int.reduceToNat, Int.toNat_zero, Int.toNat_one, Int.le_refl, and_self, Int.reduceNeg, e_ty1, e_ty2, e_ty3, e_ty4, e_ty5, e_ty6, e_ty7, e_ty8, e_ty9, e_ty10, e_ty11, e_ty12, e_ty13, e_ty14, e_ty21, e_ty22, e_ty23, e_ty24, e_ty25, e_ty26, e_ty27, e_ty28, e_ty29, e_ty30, e_ty31, e_ty32, e_ty33, e_ty34, e_ty35, e_ty36, e_ty37, e_ty38, e_ty39, e_ty40, e_ty41, e_ty42, e_ty43, e_ty44, e_ty45, e_ty46, e_ty47, e_ty48, e_ty49, e_ty50, e_ty51, e_ty52, e_ty53, e_ty54, e_ty55, e_ty56, e_ty57, e_ty58, e_ty59, e_ty60, e_ty61, e_ty62, e_ty63, e_ty64, e_ty65, e_ty66, e_ty67, e_ty68, e_ty69, e_ty70, e_ty71, e_ty72, e_ty73, e_ty74, e_ty75, e_ty76, e_ty77, e_ty79, e_ty80, e_ty81, e_ty83, e_ty84, e_ty85, e_ty86, e_ty87, e_ty88, e_ty89, e_ty90, e_ty91, e_ty93, e_ty96, e_ty97, e_ty103, e_ty104, e_ty105, e_ty106, e_ty108, e_ty109, e_str7, e_str8, e_str13, e_str14, e_str24, e_str25, e_str31, e_str32, e_str45, e_str46, e_str56, e_str57, e_str22, e_str27, e_str43, e_str50, e_str52, e_str59, e_str63, e_cmp7, e_cmp8, e_cmp22, e_cmp43, e_cmp45, e_cmp46, e_cmp50, e_cmp56, e_cmp57, e_cmp59, e_fn2, e_fn3, e_fn4, e_fn5, e_fn6, e_fn7, e_fn8, e_fn9, e_fn10, e_fn11, e_fn12, e_fn13, e_fn14, e_fn15, e_fn16, e_fn17, e_fn18, e_fn19, e_fn20, e_fn21, e_fn22, e_fn24, e_fn27, e_fn28, e_fn29, e_fn30, e_fn31, e_fn32, e_fn33, e_fn36, e_fn37, e_fn46, e_fn47, e_fn49, e_fn23, e_fn26, e_fn34, e_fn25, e_hfn25, e_fn35, e_hfn35, e_fn38, e_hfn38]
  have hm := mild_made x
  have ha := textB_len l 12
  refine ⟨_, c_sanity, _, c_Made x, fun _ => ⟨_, c_Text l 12 (by omega), fun _ => ?_⟩⟩
  simp only [PQ_need, PQ_exi, PQ_call, PQ_val, PQ_new, PQ_store, PQ_append, PQ_sealed, PQ_hcall, PO_nil, PO_none, PO_some, PH_some, PK_tt, PK_ff, PK_tf, PK_ft, PK_undef, PK_dec_t, PK_dec_f, PB_t, PB_f, PB_dec, PB_ndec, PK_ndec_t, PK_ndec_f, PX_some, PW_nil, PW_blk, PW_inLoop, PW_skip, PW_seq, PW_reg, PW_draw, PW_cond, PW_block, PW_loop, PW_exit, PW_ret, entrySl, entryPV, ivs, argPV, capsOf, List.toList_toArray, forb, madeD, made, madeAt, step1, before, nthL, without, bindsAny, guardDst, nthO, stepF, St.ev, St.get, St.set, St.put, look, mem1, lk, nbeq, nble, nblt, Nat.reduceBEq, cval, kindEq, binO, isShift, binInt, shiftInt, binStr, binEq, negIf, canEq, dep, beqD, boolV, arith, pickO, exitW, HQ, hOK, keepB, newB, flatP, nilB, beq_self_eq_true, St.hret, deadIds, renBl, back_0, back_1, back_2, back_small, retP, retV, rvals, onePV, leBl, leB, leCells, innBl, blkIn, expR, expT, expAll, exp, pk, withR, fstOf, asLit, asSl, asMp, asFnv, asOwn, boxAt, Ty.eq, Ty.cast, evAll, evParts, lenO, intV, appendO, cut, inCut, cutLo, cutHi, sliceO, bound, indexO, loadO, lenEq, storeO, fillO, buildO, elemsO, nthPV, extractD, extractO, callO, hcallO, hcall1, hArgs, hArg, cloO, lastN, chainT, nodupB, innIds, reach, blkIds, passed, fwd, idxOf, PV.ids, PV.idsL, PV.inn, PV.innL, PV.ren, PV.renL, convO, minMax, fieldOff, fieldTy, offOf, fldTy, elemTy, chainLen, arrLen, join, part, widens, cellsOf, Ty.val, PV.cells, aggCells, zeroCells, zeroDen, Ty.cells, Ty.flat, Ty.ok, owns, PV.arrs, PV.arrsL, PV.refs, PV.refsL, PV.kill, PV.killL, PV.sealw, PV.sealL, mapSl, Blk.map, mapBl, dropBl, St.kill, St.sealw, keys, oks, okPs, okP, P0, List.map, List.take, List.drop, List.headD, List.append, List.length, List.cons_append, List.nil_append, Option.bind, cond_true, cond_false, ↓reduceIte, ↓reduceDIte, Bool.not_true, Bool.not_false, Bool.and_true, Bool.true_and, Bool.and_false, Bool.false_and, Bool.false_or, Bool.or_false, Bool.true_or, Bool.or_true, true_implies, Option.some.injEq, decide_true, decide_false, decide_eq_true_eq, decide_eq_false_iff_not, Nat.add_zero, Nat.zero_add, Nat.reduceAdd, Nat.reduceSub, Nat.reduceMul, Nat.reduceLeDiff, Int.toNat_natCast, Nat.lt_irrefl, and_true, true_and, or_false, or_true, true_or, false_or, ← Bool.decide_and, ← Bool.decide_or, ← decide_not, Decidable.not_not, min_i8, max_i8, min_i16, max_i16, min_i32, max_i32, min_i64, max_i64, min_u8, max_u8, min_u16, max_u16, min_u32, max_u32, min_u64, max_u64, Int.reduceLT, Int.reduceLE, Int.cast_ofNat_Int, Int.reduceToNat, Int.toNat_zero, Int.toNat_one, Int.le_refl, and_self, Int.reduceNeg, e_ty1, e_ty2, e_ty3, e_ty4, e_ty5, e_ty6, e_ty7, e_ty8, e_ty9, e_ty10, e_ty11, e_ty12, e_ty13, e_ty14, e_ty21, e_ty22, e_ty23, e_ty24, e_ty25, e_ty26, e_ty27, e_ty28, e_ty29, e_ty30, e_ty31, e_ty32, e_ty33, e_ty34, e_ty35, e_ty36, e_ty37, e_ty38, e_ty39, e_ty40, e_ty41, e_ty42, e_ty43, e_ty44, e_ty45, e_ty46, e_ty47, e_ty48, e_ty49, e_ty50, e_ty51, e_ty52, e_ty53, e_ty54, e_ty55, e_ty56, e_ty57, e_ty58, e_ty59, e_ty60, e_ty61, e_ty62, e_ty63, e_ty64, e_ty65, e_ty66, e_ty67, e_ty68, e_ty69, e_ty70, e_ty71, e_ty72, e_ty73, e_ty74, e_ty75, e_ty76, e_ty77, e_ty79, e_ty80, e_ty81, e_ty83, e_ty84, e_ty85, e_ty86, e_ty87, e_ty88, e_ty89, e_ty90, e_ty91, e_ty93, e_ty96, e_ty97, e_ty103, e_ty104, e_ty105, e_ty106, e_ty108, e_ty109, e_str7, e_str8, e_str13, e_str14, e_str24, e_str25, e_str31, e_str32, e_str45, e_str46, e_str56, e_str57, e_str22, e_str27, e_str43, e_str50, e_str52, e_str59, e_str63, e_cmp7, e_cmp8, e_cmp22, e_cmp43, e_cmp45, e_cmp46, e_cmp50, e_cmp56, e_cmp57, e_cmp59, e_fn2, e_fn3, e_fn4, e_fn5, e_fn6, e_fn7, e_fn8, e_fn9, e_fn10, e_fn11, e_fn12, e_fn13, e_fn14, e_fn15, e_fn16, e_fn17, e_fn18, e_fn19, e_fn20, e_fn21, e_fn22, e_fn24, e_fn27, e_fn28, e_fn29, e_fn30, e_fn31, e_fn32, e_fn33, e_fn36, e_fn37, e_fn46, e_fn47, e_fn49, e_fn23, e_fn26, e_fn34, e_fn25, e_hfn25, e_fn35, e_hfn35, e_fn38, e_hfn38]
  obtain ⟨_, _, ⟨⟨k1, k2⟩, _⟩⟩ := hx
  have k1 := u8_of k1
  have k2 := u8_of k2
  generalize haa : textB l 12 = a at *
  have hr : 0 ≤ w.1 % ((a.length : Int) + 1) ∧ w.1 % ((a.length : Int) + 1) ≤ a.length := by
    have h1 := Int.emod_nonneg w.1 (show ((a.length : Int) + 1) ≠ 0 by omega)
    have h2 := Int.emod_lt_of_pos w.1 (show (0 : Int) < (a.length : Int) + 1 by omega)
    omega
  obtain ⟨i, hi⟩ : ∃ i : Nat, w.1 % ((a.length : Int) + 1) = i := ⟨_, (Int.toNat_of_nonneg hr.1).symm⟩
  rw [hi] at hr
  have e1 : ((i : Int) + 1).toNat = i + 1 := by omega
  simp only [hi, Int.toNat_natCast, e1]
  generalize UInt8.ofNat (97 + w.2 % 4).toNat = c at *
  have il : i ≤ a.length := by omega
  have t1 : (a.take i).length = i := by rw [List.length_take]; omega
  have t2 : (a.drop i).length = a.length - i := List.length_drop
  have t3 : (a.drop (i + 1)).length = a.length - (i + 1) := List.length_drop
  have t4 : (a.take i ++ [c]).length = i + 1 := by rw [List.length_append, t1]; rfl
  have t5 : (a.take i ++ [c] ++ a.drop i).length ≤ 13 := by rw [List.length_append, t4, t2]; omega
  have t6 : (a.take i ++ [c] ++ a.drop (i + 1)).length ≤ 13 := by rw [List.length_append, t4, t3]; omega
  have dd := fun (u v : List UInt8) (hu : u.length ≤ 13) (hv : v.length ≤ 13) => c_Dist (madeS x) u v hm.fine (by omega) (by omega)
  have hcat : a.take i ++ a.drop i = a := List.take_append_drop i a
  have d1 := distT_one_more (madeS x) (a.take i) (a.drop i) c
  have d2 := distT_one_less (madeS x) (a.take i) (a.drop i) c
  rw [hcat] at d1 d2
  dsimp only [Ty.den] at *
  refine ⟨by omega, by omega, by omega, by omega, by omega, by omega, by omega, by omega, _, dd _ _ t5 (by omega), fun _ => ⟨fun _ => ⟨by omega, by omega, by omega, by omega, _, dd _ _ (by omega) t5, fun _ => ⟨fun h => absurd d2 (by omega), fun _ => ⟨fun _ => trivial, fun hne => ?_⟩⟩⟩, fun h => ?_⟩⟩
  rotate_left
  · exact absurd d1 (by omega)
  obtain ⟨b, hb⟩ := get_of_lt (xs := a) (i := i) (by omega)
  have hput := hm.2.2.2.1
  have d3 : distT (madeS x) (a.take i ++ [c] ++ a.drop (i + 1)) a ≤ (madeS x).2.2.2.1 := by
    have h := distT_other (madeS x) (a.take i) (a.drop (i + 1)) c b
    rw [← split_at a i b hb] at h
    exact Int.le_trans h (putB_le (by omega) b c)
  refine ⟨by omega, by omega, by omega, by omega, by omega, _, dd _ _ t6 (by omega), fun _ => ⟨fun h => absurd d3 (by omega), fun _ => ?_⟩⟩
  refine Walks.loopW (X := Nat) (fun k => ⟨[(12, .iv (.int .i64) (k : Int)), (7, .iv .bool true), (8, .ref 8 0), (9, .iv .str a), (10, .iv (.int .i64) (i : Int))], [(8, .box (slCells (madeS x)))]⟩)
    (fun k => k ≤ (madeS x).2.2.2.2.length) (fun k => (madeS x).2.2.2.2.length - k) 0 ?_ (Nat.zero_le _) ?_
  · exact ⟨⟨Or.inl rfl, Or.inl rfl, Or.inl rfl, Or.inl rfl, Or.inl rfl, trivial⟩, ⟨⟨Or.inl rfl, Or.inl rfl, Or.inl rfl, Or.inl rfl, Or.inl rfl, trivial⟩, trivial⟩, rfl, rfl⟩
  intro k hk back
  refine PW_sound env_ok ⟨_, fn_6, rfl⟩ 2000 _ _ (by kernel_rfl) ?_; simp only [PQ_need, PQ_exi, PQ_call, PQ_val, PQ_new, PQ_store, PQ_append, PQ_sealed, PQ_hcall, PO_nil, PO_none, PO_some, PH_some, PK_tt, PK_ff, PK_tf, PK_ft, PK_undef, PK_dec_t, PK_dec_f, PB_t, PB_f, PB_dec, PB_ndec, PK_ndec_t, PK_ndec_f, PX_some, PW_nil, PW_blk, PW_inLoop, PW_skip, PW_seq, PW_reg, PW_draw, PW_cond, PW_block, PW_loop, PW_exit, PW_ret, entrySl, entryPV, ivs, argPV, capsOf, List.toList_toArray, forb, madeD, made, madeAt, step1, before, nthL, without, bindsAny, guardDst, nthO, stepF, St.ev, St.get, St.set, St.put, look, mem1, lk, nbeq, nble, nblt, Nat.reduceBEq, cval, kindEq, binO, isShift, binInt, shiftInt, binStr, binEq, negIf, canEq, dep, beqD, boolV, arith, pickO, exitW, HQ, hOK, keepB, newB, flatP, nilB, beq_self_eq_true, St.hret, deadIds, renBl, back_0, back_1, back_2, back_small, retP, retV, rvals, onePV, leBl, leB, leCells, innBl, blkIn, expR, expT, expAll, exp, pk, withR, fstOf, asLit, asSl, asMp, asFnv, asOwn, boxAt, Ty.eq, Ty.cast, evAll, evParts, lenO, intV, appendO, cut, inCut, cutLo, cutHi, sliceO, bound, indexO, loadO, lenEq, storeO, fillO, buildO, elemsO, nthPV, extractD, extractO, callO, hcallO, hcall1, hArgs, hArg, cloO, lastN, chainT, nodupB, innIds, reach, blkIds, passed, fwd, idxOf, PV.ids, PV.idsL, PV.inn, PV.innL, PV.ren, PV.renL, convO, minMax, fieldOff, fieldTy, offOf, fldTy, elemTy, chainLen, arrLen, join, part, widens, cellsOf, Ty.val, PV.cells, aggCells, zeroCells, zeroDen, Ty.cells, Ty.flat, Ty.ok, owns, PV.arrs, PV.arrsL, PV.refs, PV.refsL, PV.kill, PV.killL, PV.sealw, PV.sealL, mapSl, Blk.map, mapBl, dropBl, St.kill, St.sealw, keys, oks, okPs, okP, P0, List.map, List.take, List.drop, List.headD, List.append, List.length, List.cons_append, List.nil_append, Option.bind, cond_true, cond_false, ↓reduceIte, ↓reduceDIte, Bool.not_true, Bool.not_false, Bool.and_true, Bool.true_and, Bool.and_false, Bool.false_and, Bool.false_or, Bool.or_false, Bool.true_or, Bool.or_true, true_implies, Option.some.injEq, decide_true, decide_false, decide_eq_true_eq, decide_eq_false_iff_not, Nat.add_zero, Nat.zero_add, Nat.reduceAdd, Nat.reduceSub, Nat.reduceMul, Nat.reduceLeDiff, Int.toNat_natCast, Nat.lt_irrefl, and_true, true_and, or_false, or_true, true_or, false_or, ← Bool.decide_and, ← Bool.decide_or, ← decide_not, Decidable.not_not, min_i8, max_i8, min_i16, max_i16, min_i32, max_i32, min_i64, max_i64, min_u8, max_u8, min_u16, max_u16, min_u32, max_u32, min_u64, max_u64, Int.reduceLT, Int.reduceLE, Int.cast_ofNat_Int, Int.reduceToNat, Int.toNat_zero, Int.toNat_one, Int.le_refl, and_self, Int.reduceNeg, e_ty1, e_ty2, e_ty3, e_ty4, e_ty5, e_ty6, e_ty7, e_ty8, e_ty9, e_ty10, e_ty11, e_ty12, e_ty13, e_ty14, e_ty21, e_ty22, e_ty23, e_ty24, e_ty25, e_ty26, e_ty27, e_ty28, e_ty29, e_ty30, e_ty31, e_ty32, e_ty33, e_ty34, e_ty35, e_ty36, e_ty37, e_ty38, e_ty39, e_ty40, e_ty41, e_ty42, e_ty43, e_ty44, e_ty45, e_ty46, e_ty47, e_ty48, e_ty49, e_ty50, e_ty51, e_ty52, e_ty53, e_ty54, e_ty55, e_ty56, e_ty57, e_ty58, e_ty59, e_ty60, e_ty61, e_ty62, e_ty63, e_ty64, e_ty65, e_ty66, e_ty67, e_ty68, e_ty69, e_ty70, e_ty71, e_ty72, e_ty73, e_ty74, e_ty75, e_ty76, e_ty77, e_ty79, e_ty80, e_ty81, e_ty83, e_ty84, e_ty85, e_ty86, e_ty87, e_ty88, e_ty89, e_ty90, e_ty91, e_ty93, e_ty96, e_ty97, e_ty103, e_ty104, e_ty105, e_ty106, e_ty108, e_ty109, e_str7, e_str8, e_str13, e_str14, e_str24, e_str25, e_str31, e_str32, e_str45, e_str46, e_str56, e_str57, e_str22, e_str27, e_str43, e_str50, e_str52, e_str59, e_str63, e_cmp7, e_cmp8, e_cmp22, e_cmp43, e_cmp45, e_cmp46, e_cmp50, e_cmp56, e_cmp57, e_cmp59, e_fn2, e_fn3, e_fn4, e_fn5, e_fn6, e_fn7, e_fn8, e_fn9, e_fn10, e_fn11, e_fn12, e_fn13, e_fn14, e_fn15, e_fn16, e_fn17, e_fn18, e_fn19, e_fn20, e_fn21, e_fn22, e_fn24, e_fn27, e_fn28, e_fn29, e_fn30, e_fn31, e_fn32, e_fn33, e_fn36, e_fn37, e_fn46, e_fn47, e_fn49, e_fn23, e_fn26, e_fn34, e_fn25, e_hfn25, e_fn35, e_hfn35, e_fn38, e_hfn38]
  simp only [Int.toNat_natCast, e1]
  have hlen := madeAls_len x.2
  have hal : (madeS x).2.2.2.2 = madeAls x.2 := rfl
  refine ⟨fun g => ?_, fun g => ?_⟩
  · obtain ⟨z, hz⟩ := get_of_lt (xs := (madeS x).2.2.2.2) (i := k) (by omega)
    have hzm := List.mem_of_getElem? hz
    have hz2 := hm.2.2.2.2 z hzm
    have hl := made_letters hzm
    have u1 : ∀ q : UInt8, (a.take i ++ [q]).length = i + 1 := fun q => by rw [List.length_append, t1]; rfl
    have u2 : ∀ q : UInt8, (a.take i ++ [q] ++ a.drop (i + 1)).length ≤ 13 := fun q => by rw [List.length_append, u1, t3]; omega
    have v1 := u1 (UInt8.ofNat z.1.toNat)
    have v2 := u1 (UInt8.ofNat z.2.1.toNat)
    have d4 : distT (madeS x) (a.take i ++ [UInt8.ofNat z.2.1.toNat] ++ a.drop (i + 1)) (a.take i ++ [UInt8.ofNat z.1.toNat] ++ a.drop (i + 1)) ≤ min z.2.2 (madeS x).2.2.2.1 :=
      Int.le_trans (distT_other _ _ _ _ _) (putB_alike hm hzm hl.1 hl.2)
    rw [hal] at g
    refine ⟨by omega, z, hz, by omega, by omega, by omega, by omega, by omega, by omega, by omega, by omega, by omega, by omega, _, dd _ _ (u2 _) (u2 _), fun _ => ⟨fun h => absurd d4 (by omega), fun _ => ⟨by omega, ?_⟩⟩⟩
    refine back _ (k + 1) ?_ (by rw [hal]; omega) (by rw [hal]; omega)
    exact ⟨⟨Or.inl rfl, Or.inl rfl, Or.inl rfl, Or.inl rfl, Or.inl rfl, trivial⟩, ⟨⟨Or.inl rfl, Or.inl rfl, Or.inl rfl, Or.inl rfl, Or.inl rfl, trivial⟩, trivial⟩, rfl, rfl⟩
  · refine ⟨by omega, fun _ => trivial, fun hn2 => ?_⟩
    obtain ⟨d, hd⟩ := get_of_lt (xs := a) (i := i + 1) (by omega)
    have e2 : ((i : Int) + 2).toNat = i + 2 := by omega
    have e3 : i + 2 - (i + 1) = 1 := by omega
    have e4 : i + 1 - i = 1 := by omega
    have w1 : (a.drop (i + 1)).take 1 = [d] := by rw [drop_cons hd]; rfl
    have w2 : (a.drop i).take 1 = [b] := by rw [drop_cons hb]; rfl
    simp only [e2, e3, e4, w1, w2]
    have d5 : distT (madeS x) (a.take i ++ [d] ++ [b] ++ a.drop (i + 2)) a ≤ (madeS x).1 := by
      have h := distT_swap (madeS x) (by have := hm.1; omega) (a.take i) (a.drop (i + 2)) b d
      rw [← split_two a i b d hb hd] at h
      have e : a.take i ++ [d] ++ [b] ++ a.drop (i + 2) = a.take i ++ [d, b] ++ a.drop (i + 2) := by simp
      rw [e]
      exact h
    have t7 : (a.drop (i + 2)).length = a.length - (i + 2) := List.length_drop
    have t8 : (a.take i ++ [d]).length = i + 1 := by rw [List.length_append, t1]; rfl
    have t9 : (a.take i ++ [d] ++ [b]).length = i + 2 := by rw [List.length_append, t8]; rfl
    have t10 : (a.take i ++ [d] ++ [b] ++ a.drop (i + 2)).length ≤ 13 := by rw [List.length_append, t9, t7]; omega
    have t11 : [d].length = 1 := rfl
    have t12 : [b].length = 1 := rfl
    refine ⟨by omega, by omega, by omega, by omega, by omega, by omega, by omega, by omega, by omega, by omega, by omega, _, dd _ _ t10 (by omega), fun _ => d5⟩
end Go.Proofs.Ytahajkiadfgpbaa
namespace Go.Proofs.Ytahajkiadfgpbaa
open Go.ChangeShapes Go.WideShapes Go.ChangeAt Go.RowKit
theorem own_none : ownKnob Try.prog.godebug = none := by kernel_rfl
theorem laid_out : laidOutB env.P = true := by kernel_rfl
theorem singles_all (xs : List (Sigma Ty.den)) (h : xs.map (·.1) = [RawT, .sl (.int .u8), .st (.pair (.int .u8) (.int .u8))]) : PC env 6 xs .bool true := by
  match xs, h with
  | [⟨_, y0⟩, ⟨_, y1⟩, ⟨_, y2⟩], h =>
    injection h with h1 h
    injection h with h2 h
    injection h with h3 h
    dsimp only at h1 h2 h3
    subst h1 h2 h3
    exact c_Singles y0 y1 y2
set_option maxRecDepth 100000 in
theorem singles_lifted (os : Os) (started : os.Started) (H : Type) (enc : TypeId × Value → H) :
    ReturnsInHanded {} Try.checked os 6 .any (Rows.slipSinglesSpec.pre6 enc Try.prog Try.f6 Rows.slipSinglesRow.domain false) (Rows.slipSinglesSpec.post enc Try.prog Try.f6 false true false false) := by
  refine returnsInHanded_of_change (C := Try.checked) own_none started (by kernel_rfl) fn_6
    (ChangeSpec.witness6 (enc := enc) (C := Try.checked) false ⟨#[], #[.agg #[.int .u8 0, .int .u8 0, .int .u8 0, .int .u8 0, .slice none 0 0], .slice none 0 0, .agg #[.int .u8 0, .int .u8 0]], []⟩ 8 (by kernel_rfl) (by kernel_rfl) (by kernel_rfl) (by kernel_rfl)) ?_
  intro W base args ds gs before hval hW _ _
  refine law_calls (E := env) (b0 := base) (Ts := [RawT, .sl (.int .u8), .st (.pair (.int .u8) (.int .u8))]) (tb := 4) env_ok laid_out (of_decide_eq_true (by kernel_rfl)) rfl rfl rfl (by kernel_rfl) rfl ?_ singles_all hval hW
  intro ds hds
  match ds, hds with
  | [d0, d1, d2], _ => rfl
theorem singles_holds : Rows.SlipSinglesSaid :=
  OpenClaim.holds_of_wide 6 Try.f6 rfl rfl rfl rfl rfl rfl rfl ⟨rfl, rfl, rfl, rfl, rfl⟩ rfl rfl rfl rfl rfl (by kernel_rfl) fn_6 (by kernel_rfl)
    (of_decide_eq_true (by kernel_rfl)) (by unfold Func.isWrapper; first | (rw [if_pos (by decide +kernel)]; kernel_rfl) | (rw [if_neg (by decide +kernel)]; exact ⟨rfl, rfl⟩))
    (fun os started H enc _ => singles_lifted os started H enc)
end Go.Proofs.Ytahajkiadfgpbaa
