/-
  An environment from lists, and its check by computing. A function's contract from its computed walk. Nothing here is trusted; no condition.
-/
import Derived.Test.YtaphmhdgpdhpiaaA7
set_option linter.unusedSimpArgs false
set_option linter.unusedVariables false
namespace Go.Proofs.Ytaphmhdgpdhpiaa

/-- Which operations come before each, whatever the order. -/
def preAt (P : List (List Nat)) : List Edge → List Nat
  | [] => [] | e :: r => (match bindsAny e with | true => e.on :: nthL P e.on | false => []) ++ preAt P r
def presL : List (List Nat) → List Oper → List (List Nat)
  | acc, [] => acc | acc, o :: os => presL (acc ++ [nub (preAt acc o.after.toList)]) os
def isStoreOp (o : Oper) : Bool := match o.op with | .store _ _ _ => true | _ => false
def opReads (o : Oper) : List Operand := match o.op with
  | .store _ x y => [x, y]
  | _ => match freeReads' o with | some rs => rs | none => []
def tmpsOf : List Operand → List Nat
  | [] => [] | .tmp t :: r => t :: tmpsOf r | _ :: r => tmpsOf r
/-- The slots that an operation looks at. -/
def readSlots (all : List Oper) (o : Oper) : List Nat := tmpsOf (opReads o) ++ (match o.guard with | some (j, _) => (match guardDst all j with | some d => [d] | none => []) | none => [])
def ordB (P : List (List Nat)) (i j : Nat) : Bool := mem1 j (nthL P i) || mem1 i (nthL P j)
def pairB (all : List Oper) (P : List (List Nat)) (F : Reg) (i : Nat) (o : Oper) (j : Nat) (q : Oper) : Bool :=
  Nat.beq i j ||
    ((match q.dst with
      | some t => (match mem1 t (readSlots all o) with | true => ordB P i j | false => true) && (match o.dst with | some u => !(Nat.beq u t) | none => true)
      | none => true) &&
     (match isStoreOp q with | true => ordB P i j || (slotReads o).isSome || ((stG all q).any fun g => mem1 g F.h && (match o.dst with | some d => !(Nat.beq d g) | none => true)) | false => true) &&
     (match makes q, q.dst with
      | true, some d => mem1 j (nthL P i) || mem1 d F.h
      | _, _ => true))
def pairsB (all : List Oper) (P : List (List Nat)) (F : Reg) (i : Nat) (o : Oper) : Nat → List Oper → Bool
  | _, [] => true | j, q :: r => pairB all P F i o j q && pairsB all P F i o (j + 1) r
def oneB (all A : List Oper) (P : List (List Nat)) (F : Reg) (i : Nat) (o : Oper) : Bool :=
  drawn o && (match o.guard with | none => true | some (j, _) => (guardDst A j).isSome) &&
  (o.after.toList.all fun e => !(bindsAny e) || Nat.blt e.on i) &&
  ((nthL P i).all fun j => Nat.blt j i && o.after.toList.any fun e => bindsAny e && (Nat.beq e.on j || mem1 j (nthL P e.on))) &&
  pairsB all P F i o 0 A
def onesB (all A : List Oper) (P : List (List Nat)) (N : List Nat) : List (List Nat) → Nat → List Oper → Bool
  | _, _, [] => true | acc, i, o :: r => oneB all A P (forb all N acc o) i o && onesB all A P N (step1 N acc o) (i + 1) r
/-- An operation that comes behind all that stand before it. -/
def tailB (P : List (List Nat)) (i : Nat) (o : Oper) : Bool :=
  (o.after.toList.all fun e => !(bindsAny e) || Nat.blt e.on i) &&
  ((nthL P i).all fun j => Nat.blt j i && o.after.toList.any fun e => bindsAny e && (Nat.beq e.on j || mem1 j (nthL P e.on))) &&
  ((List.range i).all fun j => mem1 j (nthL P i))
def tailsB (P : List (List Nat)) : Nat → List Oper → Bool
  | _, [] => true | i, o :: r => tailB P i o && tailsB P (i + 1) r
def frontD : List Oper → List Oper
  | [] => [] | o :: r => match drawn o with | true => o :: frontD r | false => []
def backD : List Oper → List Oper
  | [] => [] | o :: r => match drawn o with | true => backD r | false => o :: r
theorem front_back : ∀ (l : List Oper), frontD l ++ backD l = l
  | [] => rfl
  | o :: r => by
    unfold frontD backD
    cases drawn o with
    | true => simp [front_back r]
    | false => rfl
/-- THE CHECK. -/
def drB (all : List Oper) : Bool := onesB all (frontD all) (presL [] all) (madeD all) [] 0 (frontD all) && tailsB (presL [] all) (frontD all).length (backD all)

theorem onesB_at {all A : List Oper} {P : List (List Nat)} {N : List Nat} : ∀ {os : List Oper} {acc : List (List Nat)} {i : Nat}, onesB all A P N acc i os = true → ∀ (k : Nat) (o : Oper), os[k]? = some o → oneB all A P (forb all N (accAt N acc os k) o) (i + k) o = true
  | [], acc, i, _, k, o, ho => by simp at ho
  | o :: os, acc, i, h, k, o', ho' => by
    simp only [onesB, Bool.and_eq_true] at h
    cases k with
    | zero =>
      simp only [List.getElem?_cons_zero, Option.some.injEq] at ho'
      subst ho'
      exact h.1
    | succ k =>
      rw [List.getElem?_cons_succ] at ho'
      have := onesB_at h.2 k o' ho'
      rw [show i + 1 + k = i + (k + 1) from by omega] at this
      exact this
theorem pairsB_at {all : List Oper} {P : List (List Nat)} {F : Reg} {i : Nat} {o : Oper} : ∀ {os : List Oper} {j : Nat}, pairsB all P F i o j os = true → ∀ (k : Nat) (q : Oper), os[k]? = some q → pairB all P F i o (j + k) q = true
  | [], j, _, k, q, hq => by simp at hq
  | o' :: os, j, h, k, q, hq => by
    simp only [pairsB, Bool.and_eq_true] at h
    cases k with
    | zero =>
      simp only [List.getElem?_cons_zero, Option.some.injEq] at hq
      subst hq
      exact h.1
    | succ k =>
      rw [List.getElem?_cons_succ] at hq
      have := pairsB_at h.2 k q hq
      rw [show j + 1 + k = j + (k + 1) from by omega] at this
      exact this

/-- What the check says of two operations. -/
structure PairOK (all : List Oper) (P : List (List Nat)) (F : Reg) (i : Nat) (o : Oper) (j : Nat) (q : Oper) : Prop where
  reads : ∀ t, q.dst = some t → mem1 t (readSlots all o) = true → ordB P i j = true
  dst : ∀ t u, q.dst = some t → o.dst = some u → u ≠ t
  store : isStoreOp q = true → ordB P i j = true ∨ (slotReads o).isSome = true ∨ ∃ g, g ∈ stG all q ∧ mem1 g F.h = true ∧ ∀ d, o.dst = some d → d ≠ g
  hide : ∀ d, makes q = true → q.dst = some d → mem1 j (nthL P i) = true ∨ mem1 d F.h = true
theorem pairB_spec {all : List Oper} {P : List (List Nat)} {F : Reg} {i : Nat} {o : Oper} {j : Nat} {q : Oper} (hij : i ≠ j) (h : pairB all P F i o j q = true) : PairOK all P F i o j q := by
  unfold pairB at h
  rw [beq_ne' hij, Bool.false_or] at h
  simp only [Bool.and_eq_true] at h
  obtain ⟨⟨h1, h2⟩, h3⟩ := h
  refine ⟨fun t ht hm => ?_, fun t u ht hu e => ?_, fun hs => ?_, fun d hm hd => ?_⟩
  · rw [ht] at h1
    simp only [Bool.and_eq_true, hm] at h1
    exact h1.1
  · rw [ht] at h1
    simp only [Bool.and_eq_true, hu] at h1
    subst e
    simp at h1
  · rw [hs] at h2
    simp only [Bool.or_eq_true] at h2
    rcases h2 with (h2 | h2) | h2
    · exact .inl h2
    · exact .inr (.inl h2)
    · obtain ⟨g, h4, h5⟩ := List.any_eq_true.1 h2
      simp only [Bool.and_eq_true] at h5
      refine .inr (.inr ⟨g, h4, h5.1, fun d hd e => ?_⟩)
      rw [hd] at h5
      subst e
      simp at h5
  · rw [hm, hd] at h3
    simpa [Bool.or_eq_true] using h3
structure OneOK (all A : List Oper) (P : List (List Nat)) (F : Reg) (i : Nat) (o : Oper) : Prop where
  drawn : drawn o = true
  guard : ∀ j w, o.guard = some (j, w) → ∃ d, guardDst A j = some d
  back : ∀ e, e ∈ o.after → bindsAny e = true → e.on < i
  pre : ∀ j, mem1 j (nthL P i) = true → j < i ∧ ∃ e, e ∈ o.after ∧ bindsAny e = true ∧ (e.on = j ∨ mem1 j (nthL P e.on) = true)
  pair : ∀ j q, A[j]? = some q → i ≠ j → PairOK all P F i o j q
theorem oneB_spec {all A : List Oper} {P : List (List Nat)} {F : Reg} {i : Nat} {o : Oper} (h : oneB all A P F i o = true) : OneOK all A P F i o := by
  unfold oneB at h
  simp only [Bool.and_eq_true] at h
  obtain ⟨⟨⟨⟨h1, h2⟩, h3⟩, h4⟩, h5⟩ := h
  refine ⟨h1, fun j w hg => ?_, fun e he hb => ?_, fun j hj => ?_, fun j q hq hij => ?_⟩
  · rw [hg] at h2
    exact Option.isSome_iff_exists.1 h2
  · rw [List.all_eq_true] at h3
    have := h3 e (by simpa using he)
    rw [hb] at this
    simpa using this
  · rw [List.all_eq_true] at h4
    have := h4 j (mem1_iff.1 hj)
    simp only [Bool.and_eq_true, Nat.blt_eq, List.any_eq_true, Bool.or_eq_true] at this
    obtain ⟨a1, e, a2, a3, a4⟩ := this
    refine ⟨a1, e, by simpa using a2, a3, ?_⟩
    rcases a4 with a4 | a4
    · exact .inl (Nat.eq_of_beq_eq_true a4)
    · exact .inr a4
  · have := pairsB_at h5 j q hq
    rw [Nat.zero_add] at this
    exact pairB_spec hij this

theorem binds_any {e : Edge} : Region.binds .any e = bindsAny e := by
  unfold Region.binds bindsAny
  cases e.ground <;> rfl
theorem mem_tmpsOf {t : Nat} : ∀ {xs : List Operand}, Operand.tmp t ∈ xs → mem1 t (tmpsOf xs) = true
  | [], h => by cases h
  | x :: r, h => by
    rcases List.mem_cons.1 h with h | h
    · subst h; simp [tmpsOf, mem1]
    · have ih := mem_tmpsOf h
      cases x with
      | tmp u => simp only [tmpsOf, mem1, ih]; cases Nat.beq t u <;> rfl
      | _ => exact ih
theorem mem1_app {i : Nat} {l r : List Nat} : mem1 i (l ++ r) = (mem1 i l || mem1 i r) := by
  induction l with
  | nil => simp [mem1]
  | cons x l ih => simp only [List.cons_append, mem1, ih]; cases Nat.beq i x <;> rfl

/-- Different numbers below n are at most n. -/
theorem nodup_le : ∀ (n : Nat) (l : List Nat), l.Nodup → (∀ x, x ∈ l → x < n) → l.length ≤ n
  | 0, l, _, h => by
    cases l with
    | nil => exact Nat.le_refl _
    | cons x r => have := h x (List.mem_cons_self ..); omega
  | n + 1, l, hnd, h => by
    have h1 := nodup_le n (l.erase n) (hnd.erase n) (fun x hx => by
      have h2 := h x (List.mem_of_mem_erase hx)
      have h3 : x ≠ n := fun e => by
        subst e
        exact (hnd.mem_erase_iff.1 hx).1 rfl
      omega)
    by_cases hn : n ∈ l
    · rw [List.length_erase_of_mem hn] at h1; omega
    · rw [List.erase_of_not_mem hn] at h1; omega

theorem mem_plus2 {g : Nat} : ∀ {l : List Nat}, g ∈ l → mem1 (2000000000 + g) (plus2 l) = true
  | [], h => by cases h
  | x :: r, h => by
    rcases List.mem_cons.1 h with h | h
    · subst h; simp [plus2, mem1]
    · simp only [plus2, mem1, mem_plus2 h]; cases Nat.beq (2000000000 + g) (2000000000 + x) <;> rfl
theorem guardDst_app {A B : List Oper} {j d : Nat} (h : guardDst A j = some d) : guardDst (A ++ B) j = some d := by
  unfold guardDst at h ⊢
  rw [nthO_eq] at h ⊢
  split at h
  · rename_i o ho
    have hlt : j < A.length := (List.getElem?_eq_some_iff.1 ho).1
    rw [List.getElem?_append_left hlt, ho]
    exact h
  · cases h
theorem guardDst_lt' {A : List Oper} {j d : Nat} (h : guardDst A j = some d) : j < A.length := by
  unfold guardDst at h
  rw [nthO_eq] at h
  split at h
  · rename_i o ho
    exact (List.getElem?_eq_some_iff.1 ho).1
  · cases h
theorem draw_front {E : Env} (hE : EnvOK E) {G : Goal} {w0 : World} {S0 : Cx} {all A B : List Oper} {K : St → Prop} {s : St} {a : Act} {w : World} (hAB : all = A ++ B) (hdr : onesB all A (presL [] all) (madeD all) [] 0 A = true) (hall : A.all (opOK G.n) = true) (hruns : runs E all (madeD all) [] A s K) (hrel : Rel G.n w0 S0 s a w) :
    wpAny E.P .any A.toArray (RegQ G w0 S0 K) A.length (Array.replicate A.length false) a { w with drawn := w.drawn + 1 } := by
  have hgd : ∀ j d, guardDst A j = some d → guardDst all j = some d := fun j d h => by rw [hAB]; exact guardDst_app h
  have hone : ∀ (k : Nat) (o : Oper), A[k]? = some o → OneOK all A (presL [] all) (forb all (madeD all) (accAt (madeD all) [] A k) o) k o := fun k o ho => by
    have := onesB_at hdr k o ho
    rw [Nat.zero_add] at this
    exact oneB_spec this
  have hdrawn : A.all drawn = true := by
    rw [List.all_eq_true]
    intro o ho
    obtain ⟨k, hk⟩ := List.getElem?_of_mem ho
    exact (hone k o hk).drawn
  obtain ⟨rs, htr⟩ := runs_trace (w0 := w0) (S0 := S0) hE A [] s a w hall hdrawn hruns hrel
  obtain ⟨hlen, hfine, ⟨sf, hsf, hKf⟩, hat⟩ := trace_at hdrawn htr
  have key : ∀ (k : Nat) (p : Option Nat × Res), rs[k]? = some p → ∃ o, A[k]? = some o ∧ p.1 = o.dst ∧ (∀ x, p.2.blk p.1 = some x → (makes o = true ∧ o.dst = some x.1) ∨ (isStoreOp o = true ∧ (∀ g, g ∈ stG all o → x.1 = g) ∧ mem1 x.1 (forb all (madeD all) (accAt (madeD all) [] A k) o).h = false)) ∧ ((slotReads o).isSome = true → p.2.blk p.1 = none) := by
    intro k p hp
    have hk : k < A.length := by rw [← hlen]; exact (List.getElem?_eq_some_iff.1 hp).1
    obtain ⟨r, sk, h1, _, h3⟩ := hat k A[k] (List.getElem?_eq_getElem hk)
    rw [hp] at h1
    injection h1 with h1
    subst h1
    obtain ⟨_, h5, h6⟩ := step1_fine forb_e (hone k _ (List.getElem?_eq_getElem hk)).drawn h3
    refine ⟨A[k], List.getElem?_eq_getElem hk, rfl, fun x hx => ?_, h6⟩
    rcases h5 x hx with h | ⟨⟨t, y, z, h⟩, h7⟩
    · exact .inl h
    · refine .inr ⟨by simp [isStoreOp, h], fun g hg => ?_, h7.2⟩
      refine stOK_mem ?_ h7.1
      show mem1 (2000000000 + g) (without _ _ ++ (looseH all _ ++ (earlyO all _ _ ++ plus2 (stG all A[k])))) = true
      rw [mem1_app, mem1_app, mem1_app, mem_plus2 hg]
      simp
  -- the invariant
  have main : ∀ (fuel : Nat) (listed : Array Bool) (a : Act) (w : World) (D : Nat → Bool), listed.size = A.length → (∀ k, k < A.length → listed.getD k true = D k ∧ listed.getD k false = D k) → (∀ k, A.length ≤ k → D k = false) →
      (∀ k, D k = true → ∀ j, mem1 j (nthL (presL [] all) k) = true → D j = true) → (∃ l : List Nat, l.Nodup ∧ l.length + fuel = A.length ∧ ∀ k, k ∈ l ↔ D k = true) → Rel G.n w0 S0 (stD rs D 0 s) a w →
      wpAny E.P .any A.toArray (RegQ G w0 S0 K) fuel listed a w := by
    have done : ∀ (listed : Array Bool) (a : Act) (w : World) (D : Nat → Bool), (∀ k, k < A.length → listed.getD k true = D k ∧ listed.getD k false = D k) → Region.ready .any A.toArray listed = [] → Rel G.n w0 S0 (stD rs D 0 s) a w → RegQ G w0 S0 K .normal a w := by
      intro listed a w D hl hrd hr
      have hallD : ∀ k, k < A.length → D k = true := by
        intro k
        induction k using Nat.strongRecOn with
        | _ k ih =>
          intro hk
          cases hd : D k with
          | true => rfl
          | false =>
            exfalso
            have hmem : k ∈ Region.ready .any A.toArray listed := by
              rw [mem_ready]
              refine ⟨by rw [(hl k hk).1, hd], A[k], by simp [hk], fun e he hb => ?_⟩
              rw [binds_any] at hb
              have hlt := (hone k _ (List.getElem?_eq_getElem hk)).back e he hb
              rw [(hl e.on (by omega)).2]
              exact ih e.on hlt (by omega)
            rw [hrd] at hmem
            cases hmem
      have e : stD rs D 0 s = stD rs (fun k => D k || !(Nat.blt k A.length)) 0 s := by
        have gen : ∀ (l : List (Option Nat × Res)) (i : Nat) (u : St), i + l.length ≤ A.length → stD l D i u = stD l (fun k => D k || !(Nat.blt k A.length)) i u := by
          intro l
          induction l with
          | nil => intro i u _; rfl
          | cons p r ih =>
            intro i u hi
            simp only [List.length_cons] at hi
            simp only [stD]
            have : Nat.blt i A.length = true := by rw [Nat.blt_eq]; omega
            rw [this, Bool.not_true, Bool.or_false]
            exact ih _ _ (by omega)
        exact gen rs 0 s (by omega)
      rw [e] at hr
      have e2 : (fun k => D k || !(Nat.blt k A.length)) = fun _ => true := by
        funext k
        by_cases hk : k < A.length
        · simp [hallD k hk]
        · have : Nat.blt k A.length = false := by
            cases hb : Nat.blt k A.length with
            | false => rfl
            | true => rw [Nat.blt_eq] at hb; exact absurd hb hk
          simp [this]
      rw [e2] at hr
      exact ⟨sf, hKf, Rel.same hsf.symm hr⟩
    intro fuel
    induction fuel with
    | zero =>
      intro listed a w D hsz hl hout hcl hcount hr
      obtain ⟨l, hnd, hll, hlm⟩ := hcount
      have hallD : ∀ k, k < A.length → D k = true := by
        intro k hk
        -- a list without repetition of A.length numbers below A.length has them all
        rw [← hlm]
        have hsub : ∀ x, x ∈ l → x ∈ List.range A.length := fun x hx => by
          rw [List.mem_range]
          rcases Nat.lt_or_ge x A.length with h | h
          · exact h
          · have := (hlm x).1 hx; rw [hout x h] at this; cases this
        by_cases hkl : k ∈ l
        · exact hkl
        · have := nodup_le A.length (k :: l) (List.nodup_cons.2 ⟨hkl, hnd⟩) (fun x hx => by
            rcases List.mem_cons.1 hx with rfl | hx
            · exact hk
            · exact List.mem_range.1 (hsub x hx))
          simp only [List.length_cons] at this
          omega
      have hrd : Region.ready .any A.toArray listed = [] := by
        rw [List.eq_nil_iff_forall_not_mem]
        intro k hk
        rw [mem_ready] at hk
        obtain ⟨h1, o, h2, _⟩ := hk
        have hk' : k < A.length := by
          have := (Array.getElem?_eq_some_iff.1 h2).1
          simpa using this
        rw [(hl k hk').1, hallD k hk'] at h1
        cases h1
      exact ⟨hrd, done listed a w D hl hrd hr⟩
    | succ fuel ih =>
      intro listed a w D hsz hl hout hcl hcount hr
      refine ⟨fun hrd => done listed a w D hl hrd hr, fun i hi => ?_⟩
      rw [mem_ready] at hi
      obtain ⟨h1, o, h2, h3⟩ := hi
      have hilt : i < A.length := by
        have := (Array.getElem?_eq_some_iff.1 h2).1
        simpa using this
      have ho : A[i]? = some o := by simpa using h2
      have hDi : D i = false := by rw [← (hl i hilt).1]; exact h1
      have hOK := hone i o ho
      have hready : ∀ e, e ∈ o.after → bindsAny e = true → D e.on = true := fun e he hb => by
        have := h3 e he (by rw [binds_any]; exact hb)
        have hlt := hOK.back e he hb
        rw [(hl e.on (by omega)).2] at this
        exact this
      have hpre : ∀ j, mem1 j (nthL (presL [] all) i) = true → D j = true := fun j hj => by
        obtain ⟨_, e, he, hb, h⟩ := hOK.pre j hj
        rcases h with h | h
        · rw [← h]; exact hready e he hb
        · exact hcl e.on (hready e he hb) j h
      -- what is done here and not there, or there and not here, is in no order with i
      have hord : ∀ k q, A[k]? = some q → D k ≠ Nat.blt k i → i ≠ k ∧ ordB (presL [] all) i k = false := by
        intro k q hq hne
        have hik : i ≠ k := by
          rintro rfl
          have : Nat.blt i i = false := by cases hb : Nat.blt i i with
            | false => rfl
            | true => rw [Nat.blt_eq] at hb; omega
          rw [hDi, this] at hne
          exact hne rfl
        refine ⟨hik, ?_⟩
        unfold ordB
        cases h1 : mem1 k (nthL (presL [] all) i) with
        | true =>
          have := (hOK.pre k h1).1
          have hb : Nat.blt k i = true := by rw [Nat.blt_eq]; exact this
          rw [hpre k h1, hb] at hne
          exact (hne rfl).elim
        | false =>
          cases h2 : mem1 i (nthL (presL [] all) k) with
          | false => rfl
          | true =>
            have hik' := ((hone k q hq).pre i h2).1
            have hb : Nat.blt k i = false := by cases hb : Nat.blt k i with
              | false => rfl
              | true => rw [Nat.blt_eq] at hb; omega
            cases hDk : D k with
            | true => have := hcl k hDk i h2; rw [hDi] at this; cases this
            | false => rw [hDk, hb] at hne; exact (hne rfl).elim
      obtain ⟨r, sk, hrs, hsk, hstep⟩ := hat i o ho
      -- the slots that it looks at
      have hget : ∀ t, mem1 t (readSlots all o) = true → (stD rs D 0 s).get t = (stD rs (fun j => Nat.blt j i) 0 s).get t := by
        intro t ht
        refine stD_get hfine (fun k p hp hne hpt => ?_) rfl
        rw [Nat.zero_add] at hne
        obtain ⟨q, hq, hqd, _⟩ := key k p hp
        obtain ⟨hik, hno⟩ := hord k q hq hne
        have := (hOK.pair k q hq hik).reads t (by rw [← hqd]; exact hpt) ht
        rw [hno] at this
        cases this
      have hev : ∀ x, x ∈ opReads o → (stD rs D 0 s).ev x = sk.ev x := by
        intro x hx
        rw [hsk.ev x]
        cases x with
        | tmp t => exact hget t (by unfold readSlots; rw [mem1_app, mem_tmpsOf hx]; rfl)
        | _ => rfl
      have hF : (forb all (madeD all) (accAt (madeD all) [] A i) o).e = false := rfl
      have hsame : stepF E (forb all (madeD all) (accAt (madeD all) [] A i) o) (stD rs D 0 s) o = stepF E (forb all (madeD all) (accAt (madeD all) [] A i) o) sk o := by
        cases hsl : slotReads o with
        | some rs' =>
          refine stepF_slots hsl fun x hx => hev x ?_
          have hfr : freeReads' o = some rs' := by
            unfold slotReads at hsl
            unfold freeReads' freeReads
            split at hsl <;> simp_all
            all_goals (split at hsl <;> simp_all)
          unfold opReads
          split
          · rename_i t y z hop
            rw [show slotReads o = none from by unfold slotReads; rw [hop]] at hsl
            cases hsl
          · rw [hfr]; exact hx
        | none =>
          have hlk : ∀ id, lk (forb all (madeD all) (accAt (madeD all) [] A i) o) (stD rs D 0 s).bl id = lk (forb all (madeD all) (accAt (madeD all) [] A i) o) sk.bl id := by
            intro id
            unfold lk
            cases hm : mem1 id (forb all (madeD all) (accAt (madeD all) [] A i) o).h with
            | true => rfl
            | false =>
              simp only [cond_false]
              rw [hsk.blk]
              refine stD_blk hfine (fun k p hp hne x hx => ?_) rfl
              rw [Nat.zero_add] at hne
              obtain ⟨q, hq, hqd, hqb, hqs⟩ := key k p hp
              obtain ⟨hik, hno⟩ := hord k q hq hne
              rcases hqb x hx with ⟨hmk, hdx⟩ | hst
              · rcases (hOK.pair k q hq hik).hide x.1 hmk hdx with h | h
                · unfold ordB at hno
                  rw [h] at hno
                  simp at hno
                · rintro rfl
                  rw [hm] at h; cases h
              · rcases (hOK.pair k q hq hik).store hst.1 with h | h | ⟨g, hg, hgF, _⟩
                · rw [hno] at h; cases h
                · rw [hsl] at h; cases h
                · rw [hst.2.1 g hg]
                  rintro rfl
                  rw [hm] at hgF; cases hgF
          have hld : ∀ d, o.dst = some d → look d (stD rs D 0 s).bl = look d sk.bl := by
            intro d hd
            rw [hsk.blk]
            refine stD_blk hfine (fun k p hp hne x hx => ?_) rfl
            rw [Nat.zero_add] at hne
            obtain ⟨q, hq, hqd, hqb, hqs⟩ := key k p hp
            obtain ⟨hik, hno⟩ := hord k q hq hne
            rcases hqb x hx with ⟨hmk, hdx⟩ | hst
            · exact fun e => (hOK.pair k q hq hik).dst x.1 d hdx hd e.symm
            · rcases (hOK.pair k q hq hik).store hst.1 with h | h | ⟨g, hg, _, hgd⟩
              · rw [hno] at h; cases h
              · rw [hsl] at h; cases h
              · rw [hst.2.1 g hg]
                exact fun e => hgd d hd e.symm
          have hdr := hOK.drawn
          cases hfr : freeReads' o with
          | some rs' =>
            refine stepF_congr' hE hF hfr (fun x hx => hev x ?_) hlk hld
            unfold opReads
            split
            · rename_i t y z hop
              unfold freeReads' freeReads at hfr
              rw [hop] at hfr
              cases hfr
            · rw [hfr]; exact hx
          | none =>
            unfold drawn at hdr
            rw [hfr] at hdr
            simp only [Option.isSome_none, Bool.false_or] at hdr
            split at hdr
            · rename_i t y z hop hd
              refine stepF_store hE hop (hev y ?_) (hev z ?_) hlk
              · unfold opReads; rw [hop]; simp
              · unfold opReads; rw [hop]; simp
            · cases hdr
      -- the state behind it
      have hins : Same (stD rs (fun k => D k || Nat.beq k i) 0 s) ((stD rs D 0 s).app o.dst r) := by
        refine stD_insert (j := i) (p := (o.dst, r)) hDi (by simp) (fun m hm => by simp [beq_ne' hm]) hfine (Nat.zero_le _) (by simpa using hrs) (fun k p hk hp hDk => ?_)
        rw [Nat.zero_add] at hk hDk
        obtain ⟨q, hq, hqd, hqb, hqs⟩ := key k p hp
        obtain ⟨o', ho', hod, hob, hos⟩ := key i (o.dst, r) hrs
        rw [ho] at ho'
        injection ho' with ho'
        subst ho'
        have hb : Nat.blt k i = false := by cases hb : Nat.blt k i with
          | false => rfl
          | true => rw [Nat.blt_eq] at hb; omega
        obtain ⟨hik, hno⟩ := hord k q hq (by rw [hDk, hb]; simp)
        have hno' : ordB (presL [] all) k i = false := by unfold ordB at hno ⊢; rw [Bool.or_comm]; exact hno
        have hp1 := hOK.pair k q hq hik
        have hp2 := (hone k q hq).pair i o ho (fun e => hik e.symm)
        have slot_dst : ∀ (d : Option Nat) (r : Res) (x : Nat × PV), r.slot d = some x → d = some x.1 := by
          intro d r x hs
          cases r with
          | skip => cases d <;> simp [Res.slot] at hs; rw [← hs]
          | done l => cases l <;> cases d <;> simp [Res.slot] at hs <;> rw [← hs]
        refine ⟨fun x y hx hy => ?_, fun x y hx hy => ?_⟩
        · exact hp1.dst y.1 x.1 (by rw [← hqd]; exact slot_dst _ _ _ hy) (slot_dst _ _ _ hx)
        · rcases hob x hx with ⟨hm1, hd1⟩ | hs1
          · rcases hqb y hy with ⟨hm2, hd2⟩ | hs2
            · exact hp1.dst y.1 x.1 hd2 hd1
            · rcases hp1.store hs2.1 with h | h | ⟨g, hg, _, hgd⟩
              · rw [hno] at h; cases h
              · have := hos h; rw [this] at hx; cases hx
              · rw [hs2.2.1 g hg]
                exact hgd _ hd1
          · rcases hp2.store hs1.1 with h | h | ⟨g, hg, hgF, hgd⟩
            · rw [hno'] at h; cases h
            · have := hqs h; rw [this] at hy; cases hy
            · rw [hs1.2.1 g hg]
              rcases hqb y hy with ⟨hm2, hd2⟩ | hs2
              · exact fun e => hgd _ hd2 e.symm
              · intro e
                rw [← e, hgF] at hs2
                exact absurd hs2.2.2 (by simp)
      have next : ∀ a' w', Rel G.n w0 S0 ((stD rs D 0 s).app o.dst r) a' w' → wpAny E.P .any A.toArray (RegQ G w0 S0 K) fuel (listed.setIfInBounds i true) a' w' := by
        intro a' w' hr'
        refine ih (listed.setIfInBounds i true) a' w' (fun k => D k || Nat.beq k i) (by simp [hsz]) (fun k hk => ?_) (fun k hk => ?_) (fun k hk j hj => ?_) ?_ (Rel.same hins.symm hr')
        · by_cases hki : k = i
          · subst hki
            have : k < listed.size := by omega
            simp [Array.getD_eq_getD_getElem?, this]
          · have h := hl k hk
            have e : ∀ d : Bool, (listed.setIfInBounds i true).getD k d = listed.getD k d := fun d => getD_set_ne d (fun e => hki e.symm)
            rw [e, e, h.1, h.2, beq_ne' hki, Bool.or_false]
            exact ⟨rfl, rfl⟩
        · have : k ≠ i := by omega
          rw [hout k hk, beq_ne' this]; rfl
        · simp only [Bool.or_eq_true] at hk ⊢
          rcases hk with hk | hk
          · exact .inl (hcl k hk j hj)
          · have := Nat.eq_of_beq_eq_true hk
            subst this
            exact .inl (hpre j hj)
        · obtain ⟨l, hnd, hll, hlm⟩ := hcount
          refine ⟨i :: l, List.nodup_cons.2 ⟨fun h => ?_, hnd⟩, by simp only [List.length_cons]; omega, fun k => ?_⟩
          · have := (hlm i).1 h; rw [hDi] at this; cases this
          · simp only [List.mem_cons, Bool.or_eq_true, hlm k]
            constructor
            · rintro (rfl | h)
              · exact .inr (by simp)
              · exact .inl h
            · rintro (h | h)
              · exact .inr h
              · exact .inl (Nat.eq_of_beq_eq_true h)
      -- the operation itself
      unfold wpOp
      rw [h2]
      simp only
      have hopOK : opOK G.n o = true := by
        rw [List.all_eq_true] at hall
        exact hall o (List.mem_of_getElem? ho)
      have hout1 : ∀ l, Comes1 E (stepF E (forb all (madeD all) (accAt (madeD all) [] A i) o) sk o) l → OutK E (stepF E (forb all (madeD all) (accAt (madeD all) [] A i) o) (stD rs D 0 s) o) (fun l' => l' = l) := by
        intro l hc
        rw [hsame]
        exact hc.outK
      have hg : match o.guard with
          | none => OutK E (stepF E (forb all (madeD all) (accAt (madeD all) [] A i) o) (stD rs D 0 s) o) (fun l => (stD rs D 0 s).fin o.dst l = (stD rs D 0 s).app o.dst r)
          | some (j, want) => ∃ d, guardDst A j = some d ∧ (((stD rs D 0 s).get d = .iv .bool want ∧ OutK E (stepF E (forb all (madeD all) (accAt (madeD all) [] A i) o) (stD rs D 0 s) o) (fun l => (stD rs D 0 s).fin o.dst l = (stD rs D 0 s).app o.dst r)) ∨
              (((stD rs D 0 s).get d = .iv .bool (!want) ∨ (stD rs D 0 s).get d = .tup []) ∧ r = .skip)) := by
        unfold Step1 at hstep
        split at hstep
        · rename_i hgn
          obtain ⟨l, rfl, hc⟩ := hstep
          simp only [hgn]
          exact OutK_mono (fun l' hl' => by rw [hl']; rfl) _ (hout1 l hc)
        · rename_i j want hgs
          obtain ⟨d, hd, hcase⟩ := hstep
          simp only [hgs]
          have hrd : mem1 d (readSlots all o) = true := by
            unfold readSlots
            rw [mem1_app, hgs]
            simp only [hd, mem1, Nat.beq_refl]
            simp
          have hgd' : (stD rs D 0 s).get d = sk.get d := by rw [hget d hrd, hsk.get]
          refine ⟨d, ?_, ?_⟩
          · obtain ⟨d', hd'⟩ := hOK.guard j want hgs
            have := hgd j d' hd'
            rw [hd] at this
            rw [hd', this]
          rcases hcase with ⟨h1, l, rfl, hc⟩ | ⟨h1, h2⟩
          · exact .inl ⟨by rw [hgd']; exact h1, OutK_mono (fun l' hl' => by rw [hl']; rfl) _ (hout1 l hc)⟩
          · exact .inr ⟨by rw [hgd']; exact h1, h2⟩
      obtain ⟨ν, S, hf⟩ := hr.full
      have run : OutK E (stepF E (forb all (madeD all) (accAt (madeD all) [] A i) o) (stD rs D 0 s) o) (fun l => (stD rs D 0 s).fin o.dst l = (stD rs D 0 s).app o.dst r) → o.wp E.P a w (fun a' w' => wpAny E.P .any A.toArray (RegQ G w0 S0 K) fuel (listed.setIfInBounds i true) a' w') (RegQ G w0 S0 K) := by
        intro h
        have := op_sound (Q := RegQ G w0 S0 K) (K := fun s' => s' = (stD rs D 0 s).app o.dst r) hE hf hopOK h
        exact Oper.wp_mono (fun a' w' ⟨s', e, hr'⟩ => next a' w' (e ▸ hr')) this
      have skip : r = .skip → wpAny E.P .any A.toArray (RegQ G w0 S0 K) fuel (listed.setIfInBounds i true) (a.put o.dst undef) w := by
        intro hr'
        refine next _ _ ?_
        rw [hr']
        exact (hf.put (opOK_dst hopOK) PRel_undef).rel
      split at hg
      · rename_i hgn
        have hw : Region.wanted o (yielded A.toArray a.tmps) = true := by simp [Region.wanted, hgn]
        rw [if_pos hw]
        exact .inl (run hg)
      · rename_i j want hgs
        obtain ⟨d, hd, hcase⟩ := hg
        have hdlt := guardDst_lt hall hd
        rcases hcase with ⟨hb, hrun⟩ | ⟨hb, hrs'⟩
        · have hy := guarded hf hd hdlt hb
          have hw : Region.wanted o (yielded A.toArray a.tmps) = true := by simp [Region.wanted, hgs, hy]
          rw [if_pos hw]
          exact .inl (run hrun)
        · have hw : ¬ Region.wanted o (yielded A.toArray a.tmps) = true := by
            rcases hb with hb | hb
            · have hy := guarded hf hd hdlt hb
              simp [Region.wanted, hgs, hy]
            · have hy := guarded_undef hf hd hb
              simp [Region.wanted, hgs, hy]
          rw [if_neg hw]
          exact skip hrs'
  have hnone : ∀ (l : List (Option Nat × Res)) (i : Nat) (u : St), stD l (fun _ => false) i u = u := by
    intro l
    induction l with
    | nil => intro i u; rfl
    | cons p r ih => intro i u; exact ih _ _
  refine main A.length _ a _ (fun _ => false) (by simp) (fun k hk => ?_) (fun _ _ => rfl) (fun k hk => by cases hk) ⟨[], List.nodup_nil, by simp, fun k => by simp⟩ ?_
  · simp [Array.getD_eq_getD_getElem?, hk]
  · rw [hnone]
    obtain ⟨ν, S, hf⟩ := hrel.full
    exact hf.drew.rel

/-! ### What stands behind: one after the other -/

structure TailOK (P : List (List Nat)) (i : Nat) (o : Oper) : Prop where
  back : ∀ e, e ∈ o.after → bindsAny e = true → e.on < i
  pre : ∀ j, mem1 j (nthL P i) = true → j < i ∧ ∃ e, e ∈ o.after ∧ bindsAny e = true ∧ (e.on = j ∨ mem1 j (nthL P e.on) = true)
  full : ∀ j, j < i → mem1 j (nthL P i) = true
theorem tailB_spec {P : List (List Nat)} {i : Nat} {o : Oper} (h : tailB P i o = true) : TailOK P i o := by
  unfold tailB at h
  simp only [Bool.and_eq_true] at h
  obtain ⟨⟨h3, h4⟩, h5⟩ := h
  refine ⟨fun e he hb => ?_, fun j hj => ?_, fun j hj => ?_⟩
  · rw [List.all_eq_true] at h3
    have := h3 e (by simpa using he)
    rw [hb] at this
    simpa using this
  · rw [List.all_eq_true] at h4
    have := h4 j (mem1_iff.1 hj)
    simp only [Bool.and_eq_true, Nat.blt_eq, List.any_eq_true, Bool.or_eq_true] at this
    obtain ⟨a1, e, a2, a3, a4⟩ := this
    refine ⟨a1, e, by simpa using a2, a3, ?_⟩
    rcases a4 with a4 | a4
    · exact .inl (Nat.eq_of_beq_eq_true a4)
    · exact .inr a4
  · rw [List.all_eq_true] at h5
    exact h5 j (List.mem_range.2 hj)
theorem tailsB_at {P : List (List Nat)} : ∀ {os : List Oper} {i : Nat}, tailsB P i os = true → ∀ (k : Nat) (o : Oper), os[k]? = some o → TailOK P (i + k) o
  | [], i, _, k, o, ho => by simp at ho
  | o :: os, i, h, k, o', ho' => by
    simp only [tailsB, Bool.and_eq_true] at h
    cases k with
    | zero =>
      simp only [List.getElem?_cons_zero, Option.some.injEq] at ho'
      subst ho'
      exact tailB_spec h.1
    | succ k =>
      rw [List.getElem?_cons_succ] at ho'
      have := tailsB_at h.2 k o' ho'
      rw [show i + 1 + k = i + (k + 1) from by omega] at this
      exact this
theorem runs_append {E : Env} {all : List Oper} {N : List Nat} {K : St → Prop} {B : List Oper} : ∀ {A : List Oper} {acc : List (List Nat)} {s : St}, runs E all N acc (A ++ B) s K → runs E all N acc A s (fun s' => runs E all N (accAt N acc A A.length) B s' K)
  | [], acc, s, h => h
  | o :: A, acc, s, h => by
    unfold runs
    rw [List.cons_append] at h
    unfold runs at h
    split at h
    · exact OutK_mono (fun l hl => runs_append hl) _ h
    · split at h
      · split at h
        · exact ⟨fun e => OutK_mono (fun l hl => runs_append hl) _ (h.1 e), fun e => runs_append (h.2 e)⟩
        · exact runs_append h
        · exact h.elim
      · exact h.elim
theorem cover_le : ∀ (n : Nat) (l : List Nat), (∀ x, x < n → x ∈ l) → n ≤ l.length
  | 0, _, _ => Nat.zero_le _
  | n + 1, l, h => by
    have h1 := cover_le n (l.erase n) (fun x hx => (List.mem_erase_of_ne (by omega)).2 (h x (by omega)))
    rw [List.length_erase_of_mem (h n (by omega))] at h1
    have := List.length_pos_of_mem (h n (by omega))
    omega
theorem wp_monoQ {P : Program} {o : Oper} {a : Act} {w : World} {K : Act → World → Prop} {Q Q' : Exit → Act → World → Prop} (h : ∀ e a w, e ≠ .normal → Q e a w → Q' e a w) (hh : o.wp P a w K Q) : o.wp P a w K Q' := by
  have hlo : LetsOut Q → LetsOut Q' := fun ⟨a, w, h'⟩ => ⟨a, w, h _ _ _ (by intro e; cases e) h'⟩
  unfold Oper.wp at *
  generalize (execOp a.eval o).run P w = r at *
  cases r with
  | ok n w' =>
    cases n <;> simp only [Oper.upon] at hh ⊢ <;>
      first
        | exact hh
        | exact Calls.mono hh (fun e w'' he => by cases e <;> first | exact he | exact h _ _ _ (by intro e; cases e) he | exact hlo he)
  | halt x w' =>
    cases x <;> simp only [Oper.upon] at hh ⊢
    exact h _ _ _ (by intro e; cases e) hh

/-- The front first, whatever its order; then what is left to do. -/
theorem any_split {P : Program} {A B : List Oper} {PL : List (List Nat)} {Q Q' : Exit → Act → World → Prop} (hQ : ∀ e a w, e ≠ .normal → Q' e a w → Q e a w)
    (hA : ∀ i o, A[i]? = some o → ((∀ j w, o.guard = some (j, w) → j < A.length) ∧ ∀ e, e ∈ o.after → bindsAny e = true → e.on < i) ∧ ∀ j, mem1 j (nthL PL i) = true → ∃ e, e ∈ o.after ∧ bindsAny e = true ∧ (e.on = j ∨ mem1 j (nthL PL e.on) = true))
    (hB : ∀ i o, B[i]? = some o → TailOK PL (A.length + i) o)
    (hn : ∀ a w listed, Q' .normal a w → listed.size = (A ++ B).length → (∀ k, listed.getD k false = Nat.blt k A.length) → (∀ k, k < (A ++ B).length → listed.getD k true = Nat.blt k A.length) → wpAny P .any (A ++ B).toArray Q B.length listed a w) :
    ∀ (fuel : Nat) (la listed : Array Bool) (a : Act) (w : World) (D : Nat → Bool), la.size = A.length → listed.size = (A ++ B).length → (∀ k, la.getD k false = D k) → (∀ k, listed.getD k false = D k) → (∀ k, k < A.length → la.getD k true = D k) → (∀ k, k < (A ++ B).length → listed.getD k true = D k) → (∀ k, A.length ≤ k → D k = false) →
      (∀ k, D k = true → ∀ j, mem1 j (nthL PL k) = true → D j = true) → (∃ l : List Nat, l.Nodup ∧ l.length + fuel = A.length ∧ ∀ k, k ∈ l ↔ D k = true) → wpAny P .any A.toArray Q' fuel la a w → wpAny P .any (A ++ B).toArray Q (fuel + B.length) listed a w := by
  intro fuel
  induction fuel with
  | zero =>
    intro la listed a w D hsa hsl ha1 hl1 ha2 hl2 hout hcl hcount h
    obtain ⟨l, hnd, hll, hlm⟩ := hcount
    have hallD : ∀ k, D k = Nat.blt k A.length := by
      intro k
      rcases Nat.lt_or_ge k A.length with hk | hk
      · have hb : Nat.blt k A.length = true := by rw [Nat.blt_eq]; exact hk
        rw [hb, ← hlm]
        have hlt : ∀ x, x ∈ l → x < A.length := fun x hx => by
          rcases Nat.lt_or_ge x A.length with h | h
          · exact h
          · have := (hlm x).1 hx; rw [hout x h] at this; cases this
        by_cases hkl : k ∈ l
        · exact hkl
        · have := nodup_le A.length (k :: l) (List.nodup_cons.2 ⟨hkl, hnd⟩) (fun x hx => by
            rcases List.mem_cons.1 hx with rfl | hx
            · exact hk
            · exact hlt x hx)
          simp only [List.length_cons] at this
          omega
      · rw [hout k hk]
        cases hb : Nat.blt k A.length with
        | false => rfl
        | true => rw [Nat.blt_eq] at hb; omega
    rw [Nat.zero_add]
    exact hn a w listed h.2 hsl (fun k => by rw [hl1, hallD]) (fun k hk => by rw [hl2 k hk, hallD])
  | succ fuel ih =>
    intro la listed a w D hsa hsl ha1 hl1 ha2 hl2 hout hcl hcount h
    obtain ⟨l, hnd, hll, hlm⟩ := hcount
    have hnot : ¬ ∀ j, j < A.length → D j = true := fun hd => by
      have := cover_le A.length l fun x hx => (hlm x).2 (hd x hx)
      omega
    rw [show fuel + 1 + B.length = (fuel + B.length) + 1 from by omega]
    -- what is ready is of the front, and ready there
    have hrdy : ∀ i, i ∈ Region.ready .any (A ++ B).toArray listed → i < A.length ∧ i ∈ Region.ready .any A.toArray la := by
      intro i hi
      rw [mem_ready] at hi
      obtain ⟨h1, o, h2, h3⟩ := hi
      have ho : (A ++ B)[i]? = some o := by simpa using h2
      have hilt : i < (A ++ B).length := (List.getElem?_eq_some_iff.1 ho).1
      rcases Nat.lt_or_ge i A.length with hlt | hge
      · refine ⟨hlt, ?_⟩
        rw [mem_ready]
        rw [List.getElem?_append_left hlt] at ho
        refine ⟨by rw [ha2 i hlt, ← hl2 i hilt]; exact h1, o, by simpa using ho, fun e he hb => ?_⟩
        rw [ha1, ← hl1]
        exact h3 e he hb
      · exfalso
        rw [List.getElem?_append_right hge] at ho
        have hT := hB _ o ho
        rw [show A.length + (i - A.length) = i from by omega] at hT
        refine hnot fun j hj => ?_
        obtain ⟨_, e, he, hb, hor⟩ := hT.pre j (hT.full j (by omega))
        have hDe : D e.on = true := by
          rw [← hl1]
          exact h3 e he (by rw [binds_any]; exact hb)
        rcases hor with h | h
        · rw [← h]; exact hDe
        · exact hcl _ hDe j h
    refine ⟨fun hrd => ?_, fun i hi => ?_⟩
    · -- the front is not at its end: by its own count something is ready
      exfalso
      have hA0 : Region.ready .any A.toArray la = [] := by
        rw [List.eq_nil_iff_forall_not_mem]
        intro i hi
        rw [mem_ready] at hi
        obtain ⟨h1, o, h2, h3⟩ := hi
        have ho : A[i]? = some o := by simpa using h2
        have hlt : i < A.length := (List.getElem?_eq_some_iff.1 ho).1
        have : i ∈ Region.ready .any (A ++ B).toArray listed := by
          rw [mem_ready]
          have hlt' : i < (A ++ B).length := by rw [List.length_append]; omega
          refine ⟨by rw [hl2 i hlt', ← ha2 i hlt]; exact h1, o, ?_, fun e he hb => ?_⟩
          · have : (A ++ B)[i]? = some o := by rw [List.getElem?_append_left hlt]; exact ho
            simpa using this
          · rw [hl1, ← ha1]; exact h3 e he hb
        rw [hrd] at this
        cases this
      refine hnot fun j => ?_
      induction j using Nat.strongRecOn with
      | _ j ihj =>
        intro hj
        cases hd : D j with
        | true => rfl
        | false =>
          exfalso
          have hmem : j ∈ Region.ready .any A.toArray la := by
            rw [mem_ready]
            refine ⟨by rw [ha2 j hj, hd], A[j], by simp [hj], fun e he hb => ?_⟩
            rw [binds_any] at hb
            have hlt := (hA j _ (List.getElem?_eq_getElem hj)).1.2 e he hb
            rw [ha1]
            exact ihj e.on hlt (by omega)
          rw [hA0] at hmem
          cases hmem
    · obtain ⟨hlt, hir⟩ := hrdy i hi
      have hstep := h.2 i hir
      rw [mem_ready] at hi
      obtain ⟨h1, o, h2, h3⟩ := hi
      have ho : (A ++ B)[i]? = some o := by simpa using h2
      have ho' : A[i]? = some o := by rw [List.getElem?_append_left hlt] at ho; exact ho
      have hilt : i < (A ++ B).length := by rw [List.length_append]; omega
      have hDi : D i = false := by rw [← hl2 i hilt]; exact h1
      have next : ∀ a' w', wpAny P .any A.toArray Q' fuel (la.setIfInBounds i true) a' w' → wpAny P .any (A ++ B).toArray Q (fuel + B.length) (listed.setIfInBounds i true) a' w' := by
        intro a' w' h'
        have set1 : ∀ (x : Array Bool) (d : Bool), i < x.size → (∀ k, k ≠ i → x.getD k d = D k) → ∀ k, (k ≠ i ∨ True) → (x.setIfInBounds i true).getD k d = (D k || Nat.beq k i) := by
          intro x d hx hk k _
          by_cases hki : k = i
          · subst hki
            simp [Array.getD_eq_getD_getElem?, hx]
          · rw [getD_set_ne d (fun e => hki e.symm), hk k hki, beq_ne' hki, Bool.or_false]
        refine ih (la.setIfInBounds i true) (listed.setIfInBounds i true) a' w' (fun k => D k || Nat.beq k i) (by simp [hsa]) (by rw [Array.size_setIfInBounds]; exact hsl) (fun k => set1 la false (by omega) (fun k _ => ha1 k) k (.inr trivial)) (fun k => set1 listed false (by omega) (fun k _ => hl1 k) k (.inr trivial)) (fun k hk => ?_) (fun k hk => ?_) (fun k hk => ?_) (fun k hk j hj => ?_) ?_ h'
        · by_cases hki : k = i
          · subst hki
            have : k < la.size := by omega
            simp [Array.getD_eq_getD_getElem?, this]
          · rw [getD_set_ne true (fun e => hki e.symm), ha2 k hk, beq_ne' hki, Bool.or_false]
        · by_cases hki : k = i
          · subst hki
            have : k < listed.size := by omega
            simp [Array.getD_eq_getD_getElem?, this]
          · rw [getD_set_ne true (fun e => hki e.symm), hl2 k hk, beq_ne' hki, Bool.or_false]
        · have : k ≠ i := by omega
          rw [hout k hk, beq_ne' this]; rfl
        · simp only [Bool.or_eq_true] at hk ⊢
          rcases hk with hk | hk
          · exact .inl (hcl k hk j hj)
          · have := Nat.eq_of_beq_eq_true hk
            subst this
            obtain ⟨e, he, hb, hor⟩ := (hA k o ho').2 j hj
            have hDe : D e.on = true := by rw [← hl1]; exact h3 e he (by rw [binds_any]; exact hb)
            rcases hor with h | h
            · exact .inl (by rw [← h]; exact hDe)
            · exact .inl (hcl _ hDe j h)
        · refine ⟨i :: l, List.nodup_cons.2 ⟨fun h => ?_, hnd⟩, by simp only [List.length_cons]; omega, fun k => ?_⟩
          · have := (hlm i).1 h; rw [hDi] at this; cases this
          · simp only [List.mem_cons, Bool.or_eq_true, hlm k]
            constructor
            · rintro (rfl | h)
              · exact .inr (by simp)
              · exact .inl h
            · rintro (h | h)
              · exact .inr h
              · exact .inl (Nat.eq_of_beq_eq_true h)
      have hw : Region.wanted o (yielded (A ++ B).toArray a.tmps) = Region.wanted o (yielded A.toArray a.tmps) := by
        unfold Region.wanted
        cases hg : o.guard with
        | none => rfl
        | some jw =>
          obtain ⟨j, want⟩ := jw
          have hj := (hA i o ho').1.1 j want hg
          have : yielded (A ++ B).toArray a.tmps j = yielded A.toArray a.tmps j := by
            unfold yielded
            have : (A ++ B).toArray[j]? = A.toArray[j]? := by simp [List.getElem?_append_left hj]
            rw [this]
          simp only [this]
      unfold wpOp at hstep ⊢
      rw [h2]
      have h2' : A.toArray[i]? = some o := by simpa using ho'
      rw [h2'] at hstep
      simp only at hstep ⊢
      rw [hw]
      split
      · rename_i hwt
        rw [if_pos hwt] at hstep
        rcases hstep with hs | ⟨hs, a0, w0, hl0⟩
        · exact .inl (Oper.wp_mono next (wp_monoQ hQ hs))
        · exact .inr ⟨hs, a0, w0, hQ _ _ _ (by intro e; cases e) hl0⟩
      · rename_i hwt
        rw [if_neg hwt] at hstep
        exact next _ _ hstep

/-- The tail, one operation after the other. -/
theorem tail_runs {E : Env} (hE : EnvOK E) {G : Goal} {w0 : World} {S0 : Cx} {all : List Oper} {PL : List (List Nat)} {N : List Nat} {K : St → Prop} (hall : all.all (opOK G.n) = true) :
    ∀ (os pre : List Oper) (acc : List (List Nat)) (s : St) (a : Act) (w : World) (listed : Array Bool), all = pre ++ os → (∀ i o, os[i]? = some o → TailOK PL (pre.length + i) o) → listed.size = all.length → (∀ k, listed.getD k false = Nat.blt k pre.length) → (∀ k, k < all.length → listed.getD k true = Nat.blt k pre.length) →
      (∀ k, k < pre.length → ∀ j, mem1 j (nthL PL k) = true → j < pre.length) → runs E all N acc os s K → Rel G.n w0 S0 s a w → wpAny E.P .any all.toArray (RegQ G w0 S0 K) os.length listed a w := by
  have blt_f : ∀ {a b : Nat}, ¬ a < b → Nat.blt a b = false := fun {a b} h => by
    cases hb : Nat.blt a b with
    | false => rfl
    | true => rw [Nat.blt_eq] at hb; omega
  have blt_t : ∀ {a b : Nat}, a < b → Nat.blt a b = true := fun {a b} h => by rw [Nat.blt_eq]; exact h
  intro os
  induction os with
  | nil =>
    intro pre acc s a w listed hap _ hsz hl1 hl2 _ hruns hr
    refine ⟨?_, s, hruns, hr⟩
    rw [List.eq_nil_iff_forall_not_mem]
    intro i hi
    rw [mem_ready] at hi
    obtain ⟨h1, o, h2, _⟩ := hi
    have hilt : i < all.length := by
      have := (Array.getElem?_eq_some_iff.1 h2).1
      simpa using this
    rw [hl2 i hilt] at h1
    rw [hap, List.append_nil] at hilt
    rw [blt_t hilt] at h1
    cases h1
  | cons o os ih =>
    intro pre acc s a w listed hap hT hsz hl1 hl2 hcl hruns hr
    have hlen : all.length = pre.length + (os.length + 1) := by rw [hap]; simp
    have ho : all[pre.length]? = some o := by rw [hap]; simp
    have hT0 := hT 0 o rfl
    rw [Nat.add_zero] at hT0
    refine ⟨fun hrd => ?_, fun i hi => ?_⟩
    · exfalso
      have : pre.length ∈ Region.ready .any all.toArray listed := by
        rw [mem_ready]
        refine ⟨by rw [hl2 _ (by omega)]; exact blt_f (by omega), o, by simpa using ho, fun e he hb => ?_⟩
        rw [hl1]
        exact blt_t (hT0.back e he (by rw [binds_any] at hb; exact hb))
      rw [hrd] at this
      cases this
    · have hip : i = pre.length := by
        rw [mem_ready] at hi
        obtain ⟨h1, o', h2, h3⟩ := hi
        have ho' : all[i]? = some o' := by simpa using h2
        have hilt : i < all.length := (List.getElem?_eq_some_iff.1 ho').1
        rw [hl2 i hilt] at h1
        have hge : pre.length ≤ i := by
          rcases Nat.lt_or_ge i pre.length with h | h
          · rw [blt_t h] at h1; cases h1
          · exact h
        rcases Nat.lt_or_ge pre.length i with hgt | h
        · exfalso
          have hTi := hT (i - pre.length) o' (by rw [hap, List.getElem?_append_right hge] at ho'; exact ho')
          rw [show pre.length + (i - pre.length) = i from by omega] at hTi
          obtain ⟨_, e, he, hb, hor⟩ := hTi.pre pre.length (hTi.full _ hgt)
          have hDe : e.on < pre.length := by
            have := h3 e he (by rw [binds_any]; exact hb)
            rw [hl1, Nat.blt_eq] at this
            exact this
          rcases hor with h | h
          · omega
          · have := hcl _ hDe _ h; omega
        · omega
      subst hip
      have hopOK : opOK G.n o = true := by
        rw [List.all_eq_true] at hall
        exact hall o (List.mem_of_getElem? ho)
      have hbig : pre.length < listed.size := by omega
      have next : ∀ a' w', (∃ s', runs E all N (step1 N acc o) os s' K ∧ Rel G.n w0 S0 s' a' w') → wpAny E.P .any all.toArray (RegQ G w0 S0 K) os.length (listed.setIfInBounds pre.length true) a' w' := by
        rintro a' w' ⟨s', h1, h2⟩
        have hb : ∀ k, (Nat.blt k (pre ++ [o]).length) = (Nat.blt k pre.length || Nat.beq k pre.length) := by
          intro k
          rw [List.length_append, List.length_singleton]
          by_cases hk : k = pre.length
          · subst hk
            rw [blt_t (by omega)]; simp
          · rw [beq_ne' hk, Bool.or_false]
            by_cases hk' : k < pre.length
            · rw [blt_t hk', blt_t (by omega)]
            · rw [blt_f hk', blt_f (by omega)]
        refine ih (pre ++ [o]) _ s' a' w' _ (by rw [hap]; simp) (fun i q hq => ?_) (by rw [Array.size_setIfInBounds]; exact hsz) (fun k => ?_) (fun k hk => ?_) (fun k hk j hj => ?_) h1 h2
        · have := hT (i + 1) q (by rw [List.getElem?_cons_succ]; exact hq)
          rw [List.length_append, List.length_singleton, show pre.length + 1 + i = pre.length + (i + 1) from by omega]
          exact this
        · rw [hb]
          by_cases hki : k = pre.length
          · subst hki
            simp [Array.getD_eq_getD_getElem?, hbig]
          · rw [getD_set_ne false (fun e => hki e.symm), hl1, beq_ne' hki, Bool.or_false]
        · rw [hb]
          by_cases hki : k = pre.length
          · subst hki
            simp [Array.getD_eq_getD_getElem?, hbig]
          · rw [getD_set_ne true (fun e => hki e.symm), hl2 k hk, beq_ne' hki, Bool.or_false]
        · rw [List.length_append, List.length_singleton] at hk ⊢
          rcases Nat.lt_or_ge k pre.length with h | h
          · have := hcl k h j hj; omega
          · have hk' : k = pre.length := by omega
            subst hk'
            have := (hT0.pre j hj).1
            omega
      unfold wpOp
      rw [show all.toArray[pre.length]? = some o from by simpa using ho]
      simp only
      unfold runs at hruns
      have keyop := one_op (Q := RegQ G w0 S0 K) (F := forb all N acc o) (K := fun s' => runs E all N (step1 N acc o) os s' K) hE hall hopOK hr hruns
      split
      · rename_i hw
        rw [if_pos hw] at keyop
        exact .inl (Oper.wp_mono next keyop)
      · rename_i hw
        rw [if_neg hw] at keyop
        exact next _ _ keyop

theorem draw_sound {E : Env} (hE : EnvOK E) : DrawSound E drB := by
  intro G w0 S0 all K s a w hdr hall hruns hrel _
  unfold drB at hdr
  simp only [Bool.and_eq_true] at hdr
  obtain ⟨hd1, hd2⟩ := hdr
  generalize hAe : frontD all = A at hd1 hd2
  generalize hBe : backD all = B at hd2
  have hab : all = A ++ B := by rw [← hAe, ← hBe, front_back]
  have hallA : A.all (opOK G.n) = true := by
    rw [hab, List.all_append, Bool.and_eq_true] at hall
    exact hall.1
  have hruns' : runs E all (madeD all) [] (A ++ B) s K := (congrArg (fun l => runs E all (madeD all) [] l s K) hab).mp hruns
  have hr2 := runs_append hruns'
  have hfront := draw_front hE hab hd1 hallA hr2 hrel
  have hone : ∀ (k : Nat) (o : Oper), A[k]? = some o → OneOK all A (presL [] all) (forb all (madeD all) (accAt (madeD all) [] A k) o) k o := fun k o ho => by
    have := onesB_at hd1 k o ho
    rw [Nat.zero_add] at this
    exact oneB_spec this
  have hB : ∀ i o, B[i]? = some o → TailOK (presL [] all) (A.length + i) o := fun i o ho => tailsB_at hd2 i o ho
  have hlen : all.length = A.length + B.length := by rw [hab]; simp
  have key := any_split (P := E.P) (A := A) (B := B) (PL := presL [] all) (Q := RegQ G w0 S0 K) (Q' := RegQ G w0 S0 (fun s' => runs E all (madeD all) (accAt (madeD all) [] A A.length) B s' K))
    (fun e a w he h => by cases e <;> first | exact (he rfl).elim | exact h)
    (fun i o ho => ⟨⟨fun j w hg => by
        obtain ⟨d, hd⟩ := (hone i o ho).guard j w hg
        exact guardDst_lt' hd, (hone i o ho).back⟩, fun j hj => ((hone i o ho).pre j hj).2⟩)
    hB
    (fun a w listed hq hsz h1 h2 => by
      obtain ⟨s', hs', hr'⟩ := hq
      rw [← hab]
      refine tail_runs (PL := presL [] all) hE hall B A _ s' a w listed hab hB (by rw [hsz, ← hab]) h1 (by rw [hab]; exact h2) (fun k hk j hj => ?_) hs' hr'
      have := ((hone k A[k] (List.getElem?_eq_getElem hk)).pre j hj).1
      omega)
    A.length (Array.replicate A.length false) (Array.replicate all.length false) a { w with drawn := w.drawn + 1 } (fun _ => false) (by simp) (by rw [hab]; simp) (fun k => by simp [Array.getD_eq_getD_getElem?, Array.getElem?_replicate]; split <;> rfl) (fun k => by simp [Array.getD_eq_getD_getElem?, Array.getElem?_replicate]; split <;> rfl) (fun k hk => by simp [Array.getD_eq_getD_getElem?, hk]) (fun k hk => by rw [← hab] at hk; simp [Array.getD_eq_getD_getElem?, hk]) (fun _ _ => rfl) (fun k hk => by cases hk) ⟨[], List.nodup_nil, by simp, fun k => by simp⟩ hfront
  rw [← hab, ← hlen] at key
  simpa using key
end Go.Proofs.Ytaphmhdgpdhpiaa
namespace Go.Proofs.Ytaphmhdgpdhpiaa

def tysOK (P : Program) (ty : Nat → Option Ty) (str : Nat → Bool) : List (Nat × Ty) → Bool
  | [] => true | p :: r => tyOK P ty str p.1 p.2 && tysOK P ty str r
def cmpsOK (P : Program) (ty : Nat → Option Ty) (str cmp : Nat → Bool) : List Nat → Bool
  | [] => true | t :: r => cmpOK P ty str cmp t && cmpsOK P ty str cmp r
def fnsOK (P : Program) : List (Nat × (List Ty × Ty)) → Bool
  | [] => true | p :: r => fnOK P p.1 p.2.1 && Nat.beq (owns p.2.2) 0 && fnsOK P r
def hfnsOK (P : Program) : List (Nat × List (Option Ty)) → Bool
  | [] => true | p :: r => fnOK P p.1 (p.2.filterMap id) && hfnsOK P r
/-- Where a literal slice is never written: (slot, type). -/
def roAt : List (Nat × Nat) → Nat → Nat → Bool
  | [], _, _ => false | (a, b) :: r, d, t => match Nat.beq d a with | true => (match Nat.beq t b with | true => true | false => roAt r d t) | false => roAt r d t
def mkEnv (P : Program) (tys : List (Nat × Ty)) (strs cmps : List Nat) (fns : List (Nat × (List Ty × Ty))) (hfns : List (Nat × List (Option Ty))) (keys ros : List (Nat × Nat)) (tm : Bool) (bts : List Nat := []) (els : List (Nat × Nat) := []) (nds : List Nat := []) : Env :=
  ⟨P, fun t => look t tys, fun t => mem1 t strs, fun t => mem1 t cmps, fun f => look f fns, fun f => look f hfns, fun t => look t keys, fun d t => roAt ros d t, tm, fun t => mem1 t bts, fun t => look t els, fun f => mem1 f nds⟩
def keysOK (P : Program) : List (Nat × Nat) → Bool
  | [] => true | p :: r => keyOK P p.1 p.2 && keysOK P r
def elmsOK (P : Program) : List (Nat × Nat) → Bool
  | [] => true | p :: r => (match P.underlying p.1 with | some (.slice e) => Nat.beq e p.2 | _ => false) && elmsOK P r
theorem elmsOK_at {P : Program} : ∀ {l : List (Nat × Nat)}, elmsOK P l = true → ∀ {t e}, look t l = some e → P.underlying t = some (.slice e) := by
  intro l
  induction l with
  | nil => intro _ t k h; cases h
  | cons p r ih =>
    obtain ⟨u, U⟩ := p
    intro h t k ht
    simp only [elmsOK, Bool.and_eq_true] at h
    unfold look at ht
    cases hb : Nat.beq t u with
    | true =>
      rw [hb] at ht; have := Nat.eq_of_beq_eq_true hb; subst this; injection ht with ht; subst ht
      have h1 := h.1
      split at h1
      · rename_i e he
        rw [he, Nat.eq_of_beq_eq_true h1]
      · cases h1
    | false => rw [hb] at ht; exact ih h.2 ht
theorem keysOK_at {P : Program} : ∀ {l : List (Nat × Nat)}, keysOK P l = true → ∀ {t k}, look t l = some k → keyOK P t k = true := by
  intro l
  induction l with
  | nil => intro _ t k h; cases h
  | cons p r ih =>
    obtain ⟨u, U⟩ := p
    intro h t k ht
    simp only [keysOK, Bool.and_eq_true] at h
    unfold look at ht
    cases hb : Nat.beq t u with
    | true => rw [hb] at ht; have := Nat.eq_of_beq_eq_true hb; subst this; injection ht with ht; subst ht; exact h.1
    | false => rw [hb] at ht; exact ih h.2 ht

theorem tysOK_at {P : Program} {ty : Nat → Option Ty} {str : Nat → Bool} : ∀ {l : List (Nat × Ty)}, tysOK P ty str l = true → ∀ {t T}, look t l = some T → tyOK P ty str t T = true := by
  intro l
  induction l with
  | nil => intro _ t T h; cases h
  | cons p r ih =>
    obtain ⟨u, U⟩ := p
    intro h t T ht
    simp only [tysOK, Bool.and_eq_true] at h
    unfold look at ht
    cases hb : Nat.beq t u with
    | true => rw [hb] at ht; have := Nat.eq_of_beq_eq_true hb; subst this; injection ht with ht; subst ht; exact h.1
    | false => rw [hb] at ht; exact ih h.2 ht
theorem fnsOK_at {P : Program} : ∀ {l : List (Nat × (List Ty × Ty))}, fnsOK P l = true → ∀ {f As T}, look f l = some (As, T) → fnOK P f As = true ∧ owns T = 0 := by
  intro l
  induction l with
  | nil => intro _ t As T h; cases h
  | cons p r ih =>
    obtain ⟨u, U⟩ := p
    intro h t As T ht
    simp only [fnsOK, Bool.and_eq_true] at h
    unfold look at ht
    cases hb : Nat.beq t u with
    | true => rw [hb] at ht; have := Nat.eq_of_beq_eq_true hb; subst this; injection ht with ht; subst ht; exact ⟨h.1.1, Nat.eq_of_beq_eq_true h.1.2⟩
    | false => rw [hb] at ht; exact ih h.2 ht
theorem hfnsOK_at {P : Program} : ∀ {l : List (Nat × List (Option Ty))}, hfnsOK P l = true → ∀ {f As}, look f l = some As → fnOK P f (As.filterMap id) = true := by
  intro l
  induction l with
  | nil => intro _ t As h; cases h
  | cons p r ih =>
    obtain ⟨u, U⟩ := p
    intro h t As ht
    simp only [hfnsOK, Bool.and_eq_true] at h
    unfold look at ht
    cases hb : Nat.beq t u with
    | true => rw [hb] at ht; have := Nat.eq_of_beq_eq_true hb; subst this; injection ht with ht; subst ht; exact h.1
    | false => rw [hb] at ht; exact ih h.2 ht
theorem cmpsOK_at {P : Program} {ty : Nat → Option Ty} {str cmp : Nat → Bool} : ∀ {l : List Nat}, cmpsOK P ty str cmp l = true → ∀ {t}, mem1 t l = true → cmpOK P ty str cmp t = true := by
  intro l
  induction l with
  | nil => intro _ t h; cases h
  | cons u r ih =>
    intro h t ht
    simp only [cmpsOK, Bool.and_eq_true] at h
    unfold mem1 at ht
    cases hb : Nat.beq t u with
    | true => have := Nat.eq_of_beq_eq_true hb; subst this; exact h.1
    | false => rw [hb] at ht; exact ih h.2 ht
theorem mkEnv_ok {P : Program} {tys : List (Nat × Ty)} {strs cmps : List Nat} {fns : List (Nat × (List Ty × Ty))} {hfns : List (Nat × List (Option Ty))} {keys ros : List (Nat × Nat)} {tm : Bool} {bts : List Nat} {els : List (Nat × Nat)} {nds : List Nat}
    (h1 : tysOK P (fun t => look t tys) (fun t => mem1 t strs) tys = true) (h2 : fnsOK P fns = true) (h2' : hfnsOK P hfns = true)
    (h3 : cmpsOK P (fun t => look t tys) (fun t => mem1 t strs) (fun t => mem1 t cmps) cmps = true) (h5 : keysOK P keys = true) (h4 : P.follows .mixedOrders = true) (h6 : elmsOK P els = true) : EnvOK (mkEnv P tys strs cmps fns hfns keys ros tm bts els nds) :=
  ⟨fun _ _ h => tysOK_at h1 h, fun _ _ _ h => (fnsOK_at h2 h).1, fun _ _ _ h => (fnsOK_at h2 h).2, fun _ _ h => hfnsOK_at h2' h, fun _ h => cmpsOK_at h3 h, fun _ _ h => keysOK_at h5 h, h4, fun _ _ h => elmsOK_at h6 h⟩
end Go.Proofs.Ytaphmhdgpdhpiaa
