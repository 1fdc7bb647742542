/-
  Regions that draw their order,in the orders that are named: the check is sound. Nothing here is trusted; no condition.
-/
import Derived.Test.YtefpgfdemmllpaaA7
set_option linter.unusedSimpArgs false
set_option linter.unusedVariables false
namespace Go.Proofs.Ytefpgfdemmllpaa

def preAt (P:List (List Nat)):List Edge → List Nat
  | [] => [] | e :: r => (match bindsAny e with | true => e.on :: nthL P e.on | false => []) ++ preAt P r
def presL:List (List Nat) → List Oper → List (List Nat)
  | acc,[] => acc | acc,o :: os => presL (acc ++ [nub (preAt acc o.after.toList)]) os
def isStoreOp (o:Oper):Bool:=match o.op with | .store _ _ _ => true | _ => false
def opReads (o:Oper):List Operand:=match o.op with
  | .store _ x y => [x,y]
  | _ => match freeReads' o with | some rs => rs | none => []
def tmpsOf:List Operand → List Nat
  | [] => [] | .tmp t :: r => t :: tmpsOf r | _ :: r => tmpsOf r
def readSlots (all:List Oper) (o:Oper):List Nat:=tmpsOf (opReads o) ++ (match o.guard with | some (j,_) => (match guardDst all j with | some d => [d] | none => []) | none => [])
def ordB (P:List (List Nat)) (i j:Nat):Bool:=mem1 j (nthL P i) || mem1 i (nthL P j)
def pairB (all:List Oper) (P:List (List Nat)) (F:Reg) (i:Nat) (o:Oper) (j:Nat) (q:Oper):Bool :=
  Nat.beq i j ||
    ((match q.dst with
      | some t => (match mem1 t (readSlots all o) with | true => ordB P i j | false => true) && (match o.dst with | some u => !(Nat.beq u t) | none => true)
      | none => true) &&
     (match isStoreOp q with | true => ordB P i j || (slotReads o).isSome || ((stG all q).any fun g => mem1 g F.h && (match o.dst with | some d => !(Nat.beq d g) | none => true)) | false => true) &&
     (match makes q,q.dst with
      | true,some d => mem1 j (nthL P i) || mem1 d F.h
      | _,_ => true))
def pairsB (all:List Oper) (P:List (List Nat)) (F:Reg) (i:Nat) (o:Oper):Nat → List Oper → Bool
  | _,[] => true | j,q :: r => pairB all P F i o j q && pairsB all P F i o (j + 1) r
def oneB (all A:List Oper) (P:List (List Nat)) (F:Reg) (i:Nat) (o:Oper):Bool :=
  drawn o && (match o.guard with | none => true | some (j,_) => (guardDst A j).isSome) &&
  (o.after.toList.all fun e => !(bindsAny e) || Nat.blt e.on i) &&
  ((nthL P i).all fun j => Nat.blt j i && o.after.toList.any fun e => bindsAny e && (Nat.beq e.on j || mem1 j (nthL P e.on))) &&
  pairsB all P F i o 0 A
def onesB (all A:List Oper) (P:List (List Nat)) (N:List Nat):List (List Nat) → Nat → List Oper → Bool
  | _,_,[] => true | acc,i,o :: r => oneB all A P (forb all N acc o) i o && onesB all A P N (step1 N acc o) (i + 1) r
def tailB (P:List (List Nat)) (i:Nat) (o:Oper):Bool :=
  (o.after.toList.all fun e => !(bindsAny e) || Nat.blt e.on i) &&
  ((nthL P i).all fun j => Nat.blt j i && o.after.toList.any fun e => bindsAny e && (Nat.beq e.on j || mem1 j (nthL P e.on))) &&
  ((List.range i).all fun j => mem1 j (nthL P i))
def tailsB (P:List (List Nat)):Nat → List Oper → Bool
  | _,[] => true | i,o :: r => tailB P i o && tailsB P (i + 1) r
def frontD:List Oper → List Oper
  | [] => [] | o :: r => match drawn o with | true => o :: frontD r | false => []
def backD:List Oper → List Oper
  | [] => [] | o :: r => match drawn o with | true => backD r | false => o :: r
theorem front_back:∀ (l:List Oper),frontD l ++ backD l = l
  | [] => rfl
  | o :: r => by
    unfold frontD backD
    cases drawn o with
    | true => simp [front_back r]
    | false => rfl
def drB (all:List Oper):Bool:=onesB all (frontD all) (presL [] all) (madeD all) [] 0 (frontD all) && tailsB (presL [] all) (frontD all).length (backD all)

theorem onesB_at {all A:List Oper} {P:List (List Nat)} {N:List Nat}:∀ {os:List Oper} {acc:List (List Nat)} {i:Nat},onesB all A P N acc i os = true → ∀ (k:Nat) (o:Oper),os[k]? = some o → oneB all A P (forb all N (accAt N acc os k) o) (i + k) o = true
  | [],acc,i,_,k,o,ho => by simp at ho
  | o :: os,acc,i,h,k,o',ho' => by
    simp only [onesB,Bool.and_eq_true] at h
    cases k with
    | zero =>
      simp only [List.getElem?_cons_zero,Option.some.injEq] at ho'
      subst ho'
      exact h.1
    | succ k =>
      rw [List.getElem?_cons_succ] at ho'
      have:=onesB_at h.2 k o' ho'
      rw [show i + 1 + k = i + (k + 1) from by omega] at this
      exact this
theorem pairsB_at {all:List Oper} {P:List (List Nat)} {F:Reg} {i:Nat} {o:Oper}:∀ {os:List Oper} {j:Nat},pairsB all P F i o j os = true → ∀ (k:Nat) (q:Oper),os[k]? = some q → pairB all P F i o (j + k) q = true
  | [],j,_,k,q,hq => by simp at hq
  | o' :: os,j,h,k,q,hq => by
    simp only [pairsB,Bool.and_eq_true] at h
    cases k with
    | zero =>
      simp only [List.getElem?_cons_zero,Option.some.injEq] at hq
      subst hq
      exact h.1
    | succ k =>
      rw [List.getElem?_cons_succ] at hq
      have:=pairsB_at h.2 k q hq
      rw [show j + 1 + k = j + (k + 1) from by omega] at this
      exact this

structure PairOK (all:List Oper) (P:List (List Nat)) (F:Reg) (i:Nat) (o:Oper) (j:Nat) (q:Oper):Prop where
  reads:∀ t,q.dst = some t → mem1 t (readSlots all o) = true → ordB P i j = true
  dst:∀ t u,q.dst = some t → o.dst = some u → u ≠ t
  store:isStoreOp q = true → ordB P i j = true ∨ (slotReads o).isSome = true ∨ ∃ g,g ∈ stG all q ∧ mem1 g F.h = true ∧ ∀ d,o.dst = some d → d ≠ g
  hide:∀ d,makes q = true → q.dst = some d → mem1 j (nthL P i) = true ∨ mem1 d F.h = true
theorem pairB_spec {all:List Oper} {P:List (List Nat)} {F:Reg} {i:Nat} {o:Oper} {j:Nat} {q:Oper} (hij:i ≠ j) (h:pairB all P F i o j q = true):PairOK all P F i o j q:=by
  unfold pairB at h
  rw [beq_ne' hij,Bool.false_or] at h
  simp only [Bool.and_eq_true] at h
  obtain ⟨⟨h1,h2⟩,h3⟩:=h
  refine ⟨fun t ht hm => ?_,fun t u ht hu e => ?_,fun hs => ?_,fun d hm hd => ?_⟩
  · rw [ht] at h1
    simp only [Bool.and_eq_true,hm] at h1
    exact h1.1
  · rw [ht] at h1
    simp only [Bool.and_eq_true,hu] at h1
    subst e
    simp at h1
  · rw [hs] at h2
    simp only [Bool.or_eq_true] at h2
    rcases h2 with (h2 | h2) | h2
    · exact .inl h2
    · exact .inr (.inl h2)
    · obtain ⟨g,h4,h5⟩:=List.any_eq_true.1 h2
      simp only [Bool.and_eq_true] at h5
      refine .inr (.inr ⟨g,h4,h5.1,fun d hd e => ?_⟩)
      rw [hd] at h5
      subst e
      simp at h5
  · rw [hm,hd] at h3
    simpa [Bool.or_eq_true] using h3
structure OneOK (all A:List Oper) (P:List (List Nat)) (F:Reg) (i:Nat) (o:Oper):Prop where
  drawn:drawn o = true
  guard:∀ j w,o.guard = some (j,w) → ∃ d,guardDst A j = some d
  back:∀ e,e ∈ o.after → bindsAny e = true → e.on < i
  pre:∀ j,mem1 j (nthL P i) = true → j < i ∧ ∃ e,e ∈ o.after ∧ bindsAny e = true ∧ (e.on = j ∨ mem1 j (nthL P e.on) = true)
  pair:∀ j q,A[j]? = some q → i ≠ j → PairOK all P F i o j q
theorem oneB_spec {all A:List Oper} {P:List (List Nat)} {F:Reg} {i:Nat} {o:Oper} (h:oneB all A P F i o = true):OneOK all A P F i o:=by
  unfold oneB at h
  simp only [Bool.and_eq_true] at h
  obtain ⟨⟨⟨⟨h1,h2⟩,h3⟩,h4⟩,h5⟩:=h
  refine ⟨h1,fun j w hg => ?_,fun e he hb => ?_,fun j hj => ?_,fun j q hq hij => ?_⟩
  · rw [hg] at h2
    exact Option.isSome_iff_exists.1 h2
  · rw [List.all_eq_true] at h3
    have:=h3 e (by simpa using he)
    rw [hb] at this
    simpa using this
  · rw [List.all_eq_true] at h4
    have:=h4 j (mem1_iff.1 hj)
    simp only [Bool.and_eq_true,Nat.blt_eq,List.any_eq_true,Bool.or_eq_true] at this
    obtain ⟨a1,e,a2,a3,a4⟩:=this
    refine ⟨a1,e,by simpa using a2,a3,?_⟩
    rcases a4 with a4 | a4
    · exact .inl (Nat.eq_of_beq_eq_true a4)
    · exact .inr a4
  · have:=pairsB_at h5 j q hq
    rw [Nat.zero_add] at this
    exact pairB_spec hij this

theorem binds_any {e:Edge}:Region.binds .any e = bindsAny e:=by
  unfold Region.binds bindsAny
  cases e.ground <;> rfl
theorem mem_tmpsOf {t:Nat}:∀ {xs:List Operand},Operand.tmp t ∈ xs → mem1 t (tmpsOf xs) = true
  | [],h => by cases h
  | x :: r,h => by
    rcases List.mem_cons.1 h with h | h
    · subst h; simp [tmpsOf,mem1]
    · have ih:=mem_tmpsOf h
      cases x with
      | tmp u => simp only [tmpsOf,mem1,ih]; cases Nat.beq t u <;> rfl
      | _ => exact ih
theorem mem1_app {i:Nat} {l r:List Nat}:mem1 i (l ++ r) = (mem1 i l || mem1 i r):=by
  induction l with
  | nil => simp [mem1]
  | cons x l ih => simp only [List.cons_append,mem1,ih]; cases Nat.beq i x <;> rfl

theorem nodup_le:∀ (n:Nat) (l:List Nat),l.Nodup → (∀ x,x ∈ l → x < n) → l.length ≤ n
  | 0,l,_,h => by
    cases l with
    | nil => exact Nat.le_refl _
    | cons x r => have:=h x (List.mem_cons_self ..); omega
  | n + 1,l,hnd,h => by
    have h1:=nodup_le n (l.erase n) (hnd.erase n) (fun x hx => by
      have h2:=h x (List.mem_of_mem_erase hx)
      have h3:x ≠ n:=fun e => by
        subst e
        exact (hnd.mem_erase_iff.1 hx).1 rfl
      omega)
    by_cases hn:n ∈ l
    · rw [List.length_erase_of_mem hn] at h1; omega
    · rw [List.erase_of_not_mem hn] at h1; omega

theorem mem_plus2 {g:Nat}:∀ {l:List Nat},g ∈ l → mem1 (2000000000 + g) (plus2 l) = true
  | [],h => by cases h
  | x :: r,h => by
    rcases List.mem_cons.1 h with h | h
    · subst h; simp [plus2,mem1]
    · simp only [plus2,mem1,mem_plus2 h]; cases Nat.beq (2000000000 + g) (2000000000 + x) <;> rfl
theorem guardDst_app {A B:List Oper} {j d:Nat} (h:guardDst A j = some d):guardDst (A ++ B) j = some d:=by
  unfold guardDst at h ⊢
  rw [nthO_eq] at h ⊢
  split at h
  · rename_i o ho
    have hlt:j < A.length:=(List.getElem?_eq_some_iff.1 ho).1
    rw [List.getElem?_append_left hlt,ho]
    exact h
  · cases h
theorem guardDst_lt' {A:List Oper} {j d:Nat} (h:guardDst A j = some d):j < A.length:=by
  unfold guardDst at h
  rw [nthO_eq] at h
  split at h
  · rename_i o ho
    exact (List.getElem?_eq_some_iff.1 ho).1
  · cases h
theorem draw_front {E:Env} (hE:EnvOK E) {G:Goal} {w0:World} {S0:Cx} {all A B:List Oper} {K:St → Prop} {s:St} {a:Act} {w:World} (hAB:all = A ++ B) (hdr:onesB all A (presL [] all) (madeD all) [] 0 A = true) (hall:A.all (opOK G.n) = true) (hruns:runs E G all (madeD all) [] A s K) (hrel:Rel G.n w0 S0 s a w) :
    wpAny E.P .any A.toArray (RegQ G w0 S0 K) A.length (Array.replicate A.length false) a { w with drawn:=w.drawn + 1 }:=by
  have hgd:∀ j d,guardDst A j = some d → guardDst all j = some d:=fun j d h => by rw [hAB]; exact guardDst_app h
  have hone:∀ (k:Nat) (o:Oper),A[k]? = some o → OneOK all A (presL [] all) (forb all (madeD all) (accAt (madeD all) [] A k) o) k o:=fun k o ho => by
    have:=onesB_at hdr k o ho
    rw [Nat.zero_add] at this
    exact oneB_spec this
  have hdrawn:A.all drawn = true:=by
    rw [List.all_eq_true]
    intro o ho
    obtain ⟨k,hk⟩:=List.getElem?_of_mem ho
    exact (hone k o hk).drawn
  obtain ⟨rs,htr⟩:=runs_trace (w0:=w0) (S0:=S0) hE A [] s a w hall hdrawn hruns hrel
  obtain ⟨hlen,hfine,⟨sf,hsf,hKf⟩,hat⟩:=trace_at hdrawn htr
  have key:∀ (k:Nat) (p:Option Nat × Res),rs[k]? = some p → ∃ o,A[k]? = some o ∧ p.1 = o.dst ∧ (∀ x,p.2.blk p.1 = some x → (makes o = true ∧ o.dst = some x.1) ∨ (isStoreOp o = true ∧ (∀ g,g ∈ stG all o → x.1 = g) ∧ mem1 x.1 (forb all (madeD all) (accAt (madeD all) [] A k) o).h = false)) ∧ ((slotReads o).isSome = true → p.2.blk p.1 = none):=by
    intro k p hp
    have hk:k < A.length:=by rw [← hlen]; exact (List.getElem?_eq_some_iff.1 hp).1
    obtain ⟨r,sk,h1,_,h3⟩:=hat k A[k] (List.getElem?_eq_getElem hk)
    rw [hp] at h1
    injection h1 with h1
    subst h1
    obtain ⟨_,h5,h6⟩:=step1_fine forb_e (hone k _ (List.getElem?_eq_getElem hk)).drawn h3
    refine ⟨A[k],List.getElem?_eq_getElem hk,rfl,fun x hx => ?_,h6⟩
    rcases h5 x hx with h | ⟨⟨t,y,z,h⟩,h7⟩
    · exact .inl h
    · refine .inr ⟨by simp [isStoreOp,h],fun g hg => ?_,h7.2⟩
      refine stOK_mem ?_ h7.1
      show mem1 (2000000000 + g) (without _ _ ++ (looseH all _ ++ (earlyO all _ _ ++ plus2 (stG all A[k])))) = true
      rw [mem1_app,mem1_app,mem1_app,mem_plus2 hg]
      simp
  -- the invariant
  have main:∀ (fuel:Nat) (listed:Array Bool) (a:Act) (w:World) (D:Nat → Bool),listed.size = A.length → (∀ k,k < A.length → listed.getD k true = D k ∧ listed.getD k false = D k) → (∀ k,A.length ≤ k → D k = false) →
      (∀ k,D k = true → ∀ j,mem1 j (nthL (presL [] all) k) = true → D j = true) → (∃ l:List Nat,l.Nodup ∧ l.length + fuel = A.length ∧ ∀ k,k ∈ l ↔ D k = true) → Rel G.n w0 S0 (stD rs D 0 s) a w →
      wpAny E.P .any A.toArray (RegQ G w0 S0 K) fuel listed a w:=by
    have done:∀ (listed:Array Bool) (a:Act) (w:World) (D:Nat → Bool),(∀ k,k < A.length → listed.getD k true = D k ∧ listed.getD k false = D k) → Region.ready .any A.toArray listed = [] → Rel G.n w0 S0 (stD rs D 0 s) a w → RegQ G w0 S0 K .normal a w:=by
      intro listed a w D hl hrd hr
      have hallD:∀ k,k < A.length → D k = true:=by
        intro k
        induction k using Nat.strongRecOn with
        | _ k ih =>
          intro hk
          cases hd:D k with
          | true => rfl
          | false =>
            exfalso
            have hmem:k ∈ Region.ready .any A.toArray listed:=by
              rw [mem_ready]
              refine ⟨by rw [(hl k hk).1,hd],A[k],by simp [hk],fun e he hb => ?_⟩
              rw [binds_any] at hb
              have hlt:=(hone k _ (List.getElem?_eq_getElem hk)).back e he hb
              rw [(hl e.on (by omega)).2]
              exact ih e.on hlt (by omega)
            rw [hrd] at hmem
            cases hmem
      have e:stD rs D 0 s = stD rs (fun k => D k || !(Nat.blt k A.length)) 0 s:=by
        have gen:∀ (l:List (Option Nat × Res)) (i:Nat) (u:St),i + l.length ≤ A.length → stD l D i u = stD l (fun k => D k || !(Nat.blt k A.length)) i u:=by
          intro l
          induction l with
          | nil => intro i u _; rfl
          | cons p r ih =>
            intro i u hi
            simp only [List.length_cons] at hi
            simp only [stD]
            have:Nat.blt i A.length = true:=by rw [Nat.blt_eq]; omega
            rw [this,Bool.not_true,Bool.or_false]
            exact ih _ _ (by omega)
        exact gen rs 0 s (by omega)
      rw [e] at hr
      have e2:(fun k => D k || !(Nat.blt k A.length)) = fun _ => true:=by
        funext k
        by_cases hk:k < A.length
        · simp [hallD k hk]
        · have:Nat.blt k A.length = false:=by
            cases hb:Nat.blt k A.length with
            | false => rfl
            | true => rw [Nat.blt_eq] at hb; exact absurd hb hk
          simp [this]
      rw [e2] at hr
      exact ⟨sf,hKf,Rel.same hsf.symm hr⟩
    intro fuel
    induction fuel with
    | zero =>
      intro listed a w D hsz hl hout hcl hcount hr
      obtain ⟨l,hnd,hll,hlm⟩:=hcount
      have hallD:∀ k,k < A.length → D k = true:=by
        intro k hk
        -- a list without repetition of A.length numbers below A.length has them all
        rw [← hlm]
        have hsub:∀ x,x ∈ l → x ∈ List.range A.length:=fun x hx => by
          rw [List.mem_range]
          rcases Nat.lt_or_ge x A.length with h | h
          · exact h
          · have:=(hlm x).1 hx; rw [hout x h] at this; cases this
        by_cases hkl:k ∈ l
        · exact hkl
        · have:=nodup_le A.length (k :: l) (List.nodup_cons.2 ⟨hkl,hnd⟩) (fun x hx => by
            rcases List.mem_cons.1 hx with rfl | hx
            · exact hk
            · exact List.mem_range.1 (hsub x hx))
          simp only [List.length_cons] at this
          omega
      have hrd:Region.ready .any A.toArray listed = []:=by
        rw [List.eq_nil_iff_forall_not_mem]
        intro k hk
        rw [mem_ready] at hk
        obtain ⟨h1,o,h2,_⟩:=hk
        have hk':k < A.length:=by
          have:=(Array.getElem?_eq_some_iff.1 h2).1
          simpa using this
        rw [(hl k hk').1,hallD k hk'] at h1
        cases h1
      exact ⟨hrd,done listed a w D hl hrd hr⟩
    | succ fuel ih =>
      intro listed a w D hsz hl hout hcl hcount hr
      refine ⟨fun hrd => done listed a w D hl hrd hr,fun i hi => ?_⟩
      rw [mem_ready] at hi
      obtain ⟨h1,o,h2,h3⟩:=hi
      have hilt:i < A.length:=by
        have:=(Array.getElem?_eq_some_iff.1 h2).1
        simpa using this
      have ho:A[i]? = some o:=by simpa using h2
      have hDi:D i = false:=by rw [← (hl i hilt).1]; exact h1
      have hOK:=hone i o ho
      have hready:∀ e,e ∈ o.after → bindsAny e = true → D e.on = true:=fun e he hb => by
        have:=h3 e he (by rw [binds_any]; exact hb)
        have hlt:=hOK.back e he hb
        rw [(hl e.on (by omega)).2] at this
        exact this
      have hpre:∀ j,mem1 j (nthL (presL [] all) i) = true → D j = true:=fun j hj => by
        obtain ⟨_,e,he,hb,h⟩:=hOK.pre j hj
        rcases h with h | h
        · rw [← h]; exact hready e he hb
        · exact hcl e.on (hready e he hb) j h
      -- what is done here and not there,or there and not here,is in no order with i
      have hord:∀ k q,A[k]? = some q → D k ≠ Nat.blt k i → i ≠ k ∧ ordB (presL [] all) i k = false:=by
        intro k q hq hne
        have hik:i ≠ k:=by
          rintro rfl
          have:Nat.blt i i = false:=by cases hb:Nat.blt i i with
            | false => rfl
            | true => rw [Nat.blt_eq] at hb; omega
          rw [hDi,this] at hne
          exact hne rfl
        refine ⟨hik,?_⟩
        unfold ordB
        cases h1:mem1 k (nthL (presL [] all) i) with
        | true =>
          have:=(hOK.pre k h1).1
          have hb:Nat.blt k i = true:=by rw [Nat.blt_eq]; exact this
          rw [hpre k h1,hb] at hne
          exact (hne rfl).elim
        | false =>
          cases h2:mem1 i (nthL (presL [] all) k) with
          | false => rfl
          | true =>
            have hik':=((hone k q hq).pre i h2).1
            have hb:Nat.blt k i = false:=by cases hb:Nat.blt k i with
              | false => rfl
              | true => rw [Nat.blt_eq] at hb; omega
            cases hDk:D k with
            | true => have:=hcl k hDk i h2; rw [hDi] at this; cases this
            | false => rw [hDk,hb] at hne; exact (hne rfl).elim
      obtain ⟨r,sk,hrs,hsk,hstep⟩:=hat i o ho
      -- the slots that it looks at
      have hget:∀ t,mem1 t (readSlots all o) = true → (stD rs D 0 s).get t = (stD rs (fun j => Nat.blt j i) 0 s).get t:=by
        intro t ht
        refine stD_get hfine (fun k p hp hne hpt => ?_) rfl
        rw [Nat.zero_add] at hne
        obtain ⟨q,hq,hqd,_⟩:=key k p hp
        obtain ⟨hik,hno⟩:=hord k q hq hne
        have:=(hOK.pair k q hq hik).reads t (by rw [← hqd]; exact hpt) ht
        rw [hno] at this
        cases this
      have hev:∀ x,x ∈ opReads o → (stD rs D 0 s).ev x = sk.ev x:=by
        intro x hx
        rw [hsk.ev x]
        cases x with
        | tmp t => exact hget t (by unfold readSlots; rw [mem1_app,mem_tmpsOf hx]; rfl)
        | _ => rfl
      have hF:(forb all (madeD all) (accAt (madeD all) [] A i) o).e = false:=rfl
      have hsame:stepF E (forb all (madeD all) (accAt (madeD all) [] A i) o) (stD rs D 0 s) o = stepF E (forb all (madeD all) (accAt (madeD all) [] A i) o) sk o:=by
        cases hsl:slotReads o with
        | some rs' =>
          refine stepF_slots hsl fun x hx => hev x ?_
          have hfr:freeReads' o = some rs':=by
            unfold slotReads at hsl
            unfold freeReads' freeReads
            split at hsl <;> simp_all
            all_goals (split at hsl <;> simp_all)
          unfold opReads
          split
          · rename_i t y z hop
            rw [show slotReads o = none from by unfold slotReads; rw [hop]] at hsl
            cases hsl
          · rw [hfr]; exact hx
        | none =>
          have hlk:∀ id,lk (forb all (madeD all) (accAt (madeD all) [] A i) o) (stD rs D 0 s).bl id = lk (forb all (madeD all) (accAt (madeD all) [] A i) o) sk.bl id:=by
            intro id
            unfold lk
            cases hm:mem1 id (forb all (madeD all) (accAt (madeD all) [] A i) o).h with
            | true => rfl
            | false =>
              simp only [cond_false]
              rw [hsk.blk]
              refine stD_blk hfine (fun k p hp hne x hx => ?_) rfl
              rw [Nat.zero_add] at hne
              obtain ⟨q,hq,hqd,hqb,hqs⟩:=key k p hp
              obtain ⟨hik,hno⟩:=hord k q hq hne
              rcases hqb x hx with ⟨hmk,hdx⟩ | hst
              · rcases (hOK.pair k q hq hik).hide x.1 hmk hdx with h | h
                · unfold ordB at hno
                  rw [h] at hno
                  simp at hno
                · rintro rfl
                  rw [hm] at h; cases h
              · rcases (hOK.pair k q hq hik).store hst.1 with h | h | ⟨g,hg,hgF,_⟩
                · rw [hno] at h; cases h
                · rw [hsl] at h; cases h
                · rw [hst.2.1 g hg]
                  rintro rfl
                  rw [hm] at hgF; cases hgF
          have hld:∀ d,o.dst = some d → look d (stD rs D 0 s).bl = look d sk.bl:=by
            intro d hd
            rw [hsk.blk]
            refine stD_blk hfine (fun k p hp hne x hx => ?_) rfl
            rw [Nat.zero_add] at hne
            obtain ⟨q,hq,hqd,hqb,hqs⟩:=key k p hp
            obtain ⟨hik,hno⟩:=hord k q hq hne
            rcases hqb x hx with ⟨hmk,hdx⟩ | hst
            · exact fun e => (hOK.pair k q hq hik).dst x.1 d hdx hd e.symm
            · rcases (hOK.pair k q hq hik).store hst.1 with h | h | ⟨g,hg,_,hgd⟩
              · rw [hno] at h; cases h
              · rw [hsl] at h; cases h
              · rw [hst.2.1 g hg]
                exact fun e => hgd d hd e.symm
          have hdr:=hOK.drawn
          cases hfr:freeReads' o with
          | some rs' =>
            refine stepF_congr' hE hF hfr (fun x hx => hev x ?_) hlk hld
            unfold opReads
            split
            · rename_i t y z hop
              unfold freeReads' freeReads at hfr
              rw [hop] at hfr
              cases hfr
            · rw [hfr]; exact hx
          | none =>
            unfold drawn at hdr
            rw [hfr] at hdr
            simp only [Option.isSome_none,Bool.false_or] at hdr
            split at hdr
            · rename_i t y z hop hd
              refine stepF_store hE forb_e hop (hev y ?_) (hev z ?_) hlk
              · unfold opReads; rw [hop]; simp
              · unfold opReads; rw [hop]; simp
            · cases hdr
      -- the state behind it
      have hins:Same (stD rs (fun k => D k || Nat.beq k i) 0 s) ((stD rs D 0 s).app o.dst r):=by
        refine stD_insert (j:=i) (p:=(o.dst,r)) hDi (by simp) (fun m hm => by simp [beq_ne' hm]) hfine (Nat.zero_le _) (by simpa using hrs) (fun k p hk hp hDk => ?_)
        rw [Nat.zero_add] at hk hDk
        obtain ⟨q,hq,hqd,hqb,hqs⟩:=key k p hp
        obtain ⟨o',ho',hod,hob,hos⟩:=key i (o.dst,r) hrs
        rw [ho] at ho'
        injection ho' with ho'
        subst ho'
        have hb:Nat.blt k i = false:=by cases hb:Nat.blt k i with
          | false => rfl
          | true => rw [Nat.blt_eq] at hb; omega
        obtain ⟨hik,hno⟩:=hord k q hq (by rw [hDk,hb]; simp)
        have hno':ordB (presL [] all) k i = false:=by unfold ordB at hno ⊢; rw [Bool.or_comm]; exact hno
        have hp1:=hOK.pair k q hq hik
        have hp2:=(hone k q hq).pair i o ho (fun e => hik e.symm)
        have slot_dst:∀ (d:Option Nat) (r:Res) (x:Nat × PV),r.slot d = some x → d = some x.1:=by
          intro d r x hs
          cases r with
          | skip => cases d <;> simp [Res.slot] at hs; rw [← hs]
          | done l => cases l <;> cases d <;> simp [Res.slot] at hs <;> rw [← hs]
        refine ⟨fun x y hx hy => ?_,fun x y hx hy => ?_⟩
        · exact hp1.dst y.1 x.1 (by rw [← hqd]; exact slot_dst _ _ _ hy) (slot_dst _ _ _ hx)
        · rcases hob x hx with ⟨hm1,hd1⟩ | hs1
          · rcases hqb y hy with ⟨hm2,hd2⟩ | hs2
            · exact hp1.dst y.1 x.1 hd2 hd1
            · rcases hp1.store hs2.1 with h | h | ⟨g,hg,_,hgd⟩
              · rw [hno] at h; cases h
              · have:=hos h; rw [this] at hx; cases hx
              · rw [hs2.2.1 g hg]
                exact hgd _ hd1
          · rcases hp2.store hs1.1 with h | h | ⟨g,hg,hgF,hgd⟩
            · rw [hno'] at h; cases h
            · have:=hqs h; rw [this] at hy; cases hy
            · rw [hs1.2.1 g hg]
              rcases hqb y hy with ⟨hm2,hd2⟩ | hs2
              · exact fun e => hgd _ hd2 e.symm
              · intro e
                rw [← e,hgF] at hs2
                exact absurd hs2.2.2 (by simp)
      have next:∀ a' w',Rel G.n w0 S0 ((stD rs D 0 s).app o.dst r) a' w' → wpAny E.P .any A.toArray (RegQ G w0 S0 K) fuel (listed.setIfInBounds i true) a' w':=by
        intro a' w' hr'
        refine ih (listed.setIfInBounds i true) a' w' (fun k => D k || Nat.beq k i) (by simp [hsz]) (fun k hk => ?_) (fun k hk => ?_) (fun k hk j hj => ?_) ?_ (Rel.same hins.symm hr')
        · by_cases hki:k = i
          · subst hki
            have:k < listed.size:=by omega
            simp [Array.getD_eq_getD_getElem?,this]
          · have h:=hl k hk
            have e:∀ d:Bool,(listed.setIfInBounds i true).getD k d = listed.getD k d:=fun d => getD_set_ne d (fun e => hki e.symm)
            rw [e,e,h.1,h.2,beq_ne' hki,Bool.or_false]
            exact ⟨rfl,rfl⟩
        · have:k ≠ i:=by omega
          rw [hout k hk,beq_ne' this]; rfl
        · simp only [Bool.or_eq_true] at hk ⊢
          rcases hk with hk | hk
          · exact .inl (hcl k hk j hj)
          · have:=Nat.eq_of_beq_eq_true hk
            subst this
            exact .inl (hpre j hj)
        · obtain ⟨l,hnd,hll,hlm⟩:=hcount
          refine ⟨i :: l,List.nodup_cons.2 ⟨fun h => ?_,hnd⟩,by simp only [List.length_cons]; omega,fun k => ?_⟩
          · have:=(hlm i).1 h; rw [hDi] at this; cases this
          · simp only [List.mem_cons,Bool.or_eq_true,hlm k]
            constructor
            · rintro (rfl | h)
              · exact .inr (by simp)
              · exact .inl h
            · rintro (h | h)
              · exact .inr h
              · exact .inl (Nat.eq_of_beq_eq_true h)
      -- the operation itself
      unfold wpOp
      rw [h2]
      simp only
      have hopOK:opOK G.n o = true:=by
        rw [List.all_eq_true] at hall
        exact hall o (List.mem_of_getElem? ho)
      have hout1:∀ l,Comes1 E (stepF E (forb all (madeD all) (accAt (madeD all) [] A i) o) sk o) l → OutK E (stepF E (forb all (madeD all) (accAt (madeD all) [] A i) o) (stD rs D 0 s) o) (fun l' => l' = l):=by
        intro l hc
        rw [hsame]
        exact hc.outK
      have hg:match o.guard with
          | none => OutK E (stepF E (forb all (madeD all) (accAt (madeD all) [] A i) o) (stD rs D 0 s) o) (fun l => (stD rs D 0 s).fin o.dst l = (stD rs D 0 s).app o.dst r)
          | some (j,want) => ∃ d,guardDst A j = some d ∧ (((stD rs D 0 s).get d = .iv .bool want ∧ OutK E (stepF E (forb all (madeD all) (accAt (madeD all) [] A i) o) (stD rs D 0 s) o) (fun l => (stD rs D 0 s).fin o.dst l = (stD rs D 0 s).app o.dst r)) ∨
              (((stD rs D 0 s).get d = .iv .bool (!want) ∨ (stD rs D 0 s).get d = .tup []) ∧ r = .skip)):=by
        unfold Step1 at hstep
        split at hstep
        · rename_i hgn
          obtain ⟨l,rfl,hc⟩:=hstep
          simp only [hgn]
          exact OutK_mono (fun l' hl' => by rw [hl']; rfl) _ (hout1 l hc)
        · rename_i j want hgs
          obtain ⟨d,hd,hcase⟩:=hstep
          simp only [hgs]
          have hrd:mem1 d (readSlots all o) = true:=by
            unfold readSlots
            rw [mem1_app,hgs]
            simp only [hd,mem1,Nat.beq_refl]
            simp
          have hgd':(stD rs D 0 s).get d = sk.get d:=by rw [hget d hrd,hsk.get]
          refine ⟨d,?_,?_⟩
          · obtain ⟨d',hd'⟩:=hOK.guard j want hgs
            have:=hgd j d' hd'
            rw [hd] at this
            rw [hd',this]
          rcases hcase with ⟨h1,l,rfl,hc⟩ | ⟨h1,h2⟩
          · exact .inl ⟨by rw [hgd']; exact h1,OutK_mono (fun l' hl' => by rw [hl']; rfl) _ (hout1 l hc)⟩
          · exact .inr ⟨by rw [hgd']; exact h1,h2⟩
      obtain ⟨ν,S,hf⟩:=hr.full
      have run:OutK E (stepF E (forb all (madeD all) (accAt (madeD all) [] A i) o) (stD rs D 0 s) o) (fun l => (stD rs D 0 s).fin o.dst l = (stD rs D 0 s).app o.dst r) → o.wp E.P a w (fun a' w' => wpAny E.P .any A.toArray (RegQ G w0 S0 K) fuel (listed.setIfInBounds i true) a' w') (RegQ G w0 S0 K):=by
        intro h
        have:=op_sound (Q:=RegQ G w0 S0 K) (K:=fun s' => s' = (stD rs D 0 s).app o.dst r) hE hf hopOK h
        exact Oper.wp_mono (fun a' w' ⟨s',e,hr'⟩ => next a' w' (e ▸ hr')) this
      have skip:r = .skip → wpAny E.P .any A.toArray (RegQ G w0 S0 K) fuel (listed.setIfInBounds i true) (a.put o.dst undef) w:=by
        intro hr'
        refine next _ _ ?_
        rw [hr']
        exact (hf.put (opOK_dst hopOK) PRel_undef).rel
      split at hg
      · rename_i hgn
        have hw:Region.wanted o (yielded A.toArray a.tmps) = true:=by simp [Region.wanted,hgn]
        rw [if_pos hw]
        exact .inl (run hg)
      · rename_i j want hgs
        obtain ⟨d,hd,hcase⟩:=hg
        have hdlt:=guardDst_lt hall hd
        rcases hcase with ⟨hb,hrun⟩ | ⟨hb,hrs'⟩
        · have hy:=guarded hf hd hdlt hb
          have hw:Region.wanted o (yielded A.toArray a.tmps) = true:=by simp [Region.wanted,hgs,hy]
          rw [if_pos hw]
          exact .inl (run hrun)
        · have hw:¬ Region.wanted o (yielded A.toArray a.tmps) = true:=by
            rcases hb with hb | hb
            · have hy:=guarded hf hd hdlt hb
              simp [Region.wanted,hgs,hy]
            · have hy:=guarded_undef hf hd hb
              simp [Region.wanted,hgs,hy]
          rw [if_neg hw]
          exact skip hrs'
  have hnone:∀ (l:List (Option Nat × Res)) (i:Nat) (u:St),stD l (fun _ => false) i u = u:=by
    intro l
    induction l with
    | nil => intro i u; rfl
    | cons p r ih => intro i u; exact ih _ _
  refine main A.length _ a _ (fun _ => false) (by simp) (fun k hk => ?_) (fun _ _ => rfl) (fun k hk => by cases hk) ⟨[],List.nodup_nil,by simp,fun k => by simp⟩ ?_
  · simp [Array.getD_eq_getD_getElem?,hk]
  · rw [hnone]
    obtain ⟨ν,S,hf⟩:=hrel.full
    exact hf.drew.rel

/-! ### What stands behind: one after the other -/

structure TailOK (P:List (List Nat)) (i:Nat) (o:Oper):Prop where
  back:∀ e,e ∈ o.after → bindsAny e = true → e.on < i
  pre:∀ j,mem1 j (nthL P i) = true → j < i ∧ ∃ e,e ∈ o.after ∧ bindsAny e = true ∧ (e.on = j ∨ mem1 j (nthL P e.on) = true)
  full:∀ j,j < i → mem1 j (nthL P i) = true
theorem tailB_spec {P:List (List Nat)} {i:Nat} {o:Oper} (h:tailB P i o = true):TailOK P i o:=by
  unfold tailB at h
  simp only [Bool.and_eq_true] at h
  obtain ⟨⟨h3,h4⟩,h5⟩:=h
  refine ⟨fun e he hb => ?_,fun j hj => ?_,fun j hj => ?_⟩
  · rw [List.all_eq_true] at h3
    have:=h3 e (by simpa using he)
    rw [hb] at this
    simpa using this
  · rw [List.all_eq_true] at h4
    have:=h4 j (mem1_iff.1 hj)
    simp only [Bool.and_eq_true,Nat.blt_eq,List.any_eq_true,Bool.or_eq_true] at this
    obtain ⟨a1,e,a2,a3,a4⟩:=this
    refine ⟨a1,e,by simpa using a2,a3,?_⟩
    rcases a4 with a4 | a4
    · exact .inl (Nat.eq_of_beq_eq_true a4)
    · exact .inr a4
  · rw [List.all_eq_true] at h5
    exact h5 j (List.mem_range.2 hj)
theorem tailsB_at {P:List (List Nat)}:∀ {os:List Oper} {i:Nat},tailsB P i os = true → ∀ (k:Nat) (o:Oper),os[k]? = some o → TailOK P (i + k) o
  | [],i,_,k,o,ho => by simp at ho
  | o :: os,i,h,k,o',ho' => by
    simp only [tailsB,Bool.and_eq_true] at h
    cases k with
    | zero =>
      simp only [List.getElem?_cons_zero,Option.some.injEq] at ho'
      subst ho'
      exact tailB_spec h.1
    | succ k =>
      rw [List.getElem?_cons_succ] at ho'
      have:=tailsB_at h.2 k o' ho'
      rw [show i + 1 + k = i + (k + 1) from by omega] at this
      exact this
theorem runs_append {E:Env} {G:Goal} {all:List Oper} {N:List Nat} {K:St → Prop} {B:List Oper}:∀ {A:List Oper} {acc:List (List Nat)} {s:St},runs E G all N acc (A ++ B) s K → runs E G all N acc A s (fun s' => runs E G all N (accAt N acc A A.length) B s' K)
  | [],acc,s,h => h
  | o :: A,acc,s,h => by
    unfold runs
    rw [List.cons_append] at h
    unfold runs at h
    split at h
    · exact h.imp (fun h => OutK_mono (fun l hl => runs_append hl) _ h) id
    · split at h
      · split at h
        · exact ⟨fun e => OutK_mono (fun l hl => runs_append hl) _ (h.1 e),fun e => runs_append (h.2 e)⟩
        · exact runs_append h
        · exact h.elim
      · exact h.elim
theorem cover_le:∀ (n:Nat) (l:List Nat),(∀ x,x < n → x ∈ l) → n ≤ l.length
  | 0,_,_ => Nat.zero_le _
  | n + 1,l,h => by
    have h1:=cover_le n (l.erase n) (fun x hx => (List.mem_erase_of_ne (by omega)).2 (h x (by omega)))
    rw [List.length_erase_of_mem (h n (by omega))] at h1
    have:=List.length_pos_of_mem (h n (by omega))
    omega
theorem wp_monoQ {P:Program} {o:Oper} {a:Act} {w:World} {K:Act → World → Prop} {Q Q':Exit → Act → World → Prop} (h:∀ e a w,e ≠ .normal → Q e a w → Q' e a w) (hh:o.wp P a w K Q):o.wp P a w K Q':=by
  have hlo:LetsOut Q → LetsOut Q':=fun ⟨a,w,h'⟩ => ⟨a,w,h _ _ _ (by intro e; cases e) h'⟩
  unfold Oper.wp at *
  generalize (execOp a.eval o).run P w = r at *
  cases r with
  | ok n w' =>
    cases n <;> simp only [Oper.upon] at hh ⊢ <;>
      first
        | exact hh
        | exact Calls.mono hh (fun e w'' he => by cases e <;> first | exact he | exact h _ _ _ (by intro e; cases e) he | exact hlo he)
  | halt x w' =>
    cases x <;> simp only [Oper.upon] at hh ⊢
    exact h _ _ _ (by intro e; cases e) hh

theorem any_split {P:Program} {A B:List Oper} {PL:List (List Nat)} {Q Q':Exit → Act → World → Prop} (hQ:∀ e a w,e ≠ .normal → Q' e a w → Q e a w)
    (hA:∀ i o,A[i]? = some o → ((∀ j w,o.guard = some (j,w) → j < A.length) ∧ ∀ e,e ∈ o.after → bindsAny e = true → e.on < i) ∧ ∀ j,mem1 j (nthL PL i) = true → ∃ e,e ∈ o.after ∧ bindsAny e = true ∧ (e.on = j ∨ mem1 j (nthL PL e.on) = true))
    (hB:∀ i o,B[i]? = some o → TailOK PL (A.length + i) o)
    (hn:∀ a w listed,Q' .normal a w → listed.size = (A ++ B).length → (∀ k,listed.getD k false = Nat.blt k A.length) → (∀ k,k < (A ++ B).length → listed.getD k true = Nat.blt k A.length) → wpAny P .any (A ++ B).toArray Q B.length listed a w) :
    ∀ (fuel:Nat) (la listed:Array Bool) (a:Act) (w:World) (D:Nat → Bool),la.size = A.length → listed.size = (A ++ B).length → (∀ k,la.getD k false = D k) → (∀ k,listed.getD k false = D k) → (∀ k,k < A.length → la.getD k true = D k) → (∀ k,k < (A ++ B).length → listed.getD k true = D k) → (∀ k,A.length ≤ k → D k = false) →
      (∀ k,D k = true → ∀ j,mem1 j (nthL PL k) = true → D j = true) → (∃ l:List Nat,l.Nodup ∧ l.length + fuel = A.length ∧ ∀ k,k ∈ l ↔ D k = true) → wpAny P .any A.toArray Q' fuel la a w → wpAny P .any (A ++ B).toArray Q (fuel + B.length) listed a w:=by
  intro fuel
  induction fuel with
  | zero =>
    intro la listed a w D hsa hsl ha1 hl1 ha2 hl2 hout hcl hcount h
    obtain ⟨l,hnd,hll,hlm⟩:=hcount
    have hallD:∀ k,D k = Nat.blt k A.length:=by
      intro k
      rcases Nat.lt_or_ge k A.length with hk | hk
      · have hb:Nat.blt k A.length = true:=by rw [Nat.blt_eq]; exact hk
        rw [hb,← hlm]
        have hlt:∀ x,x ∈ l → x < A.length:=fun x hx => by
          rcases Nat.lt_or_ge x A.length with h | h
          · exact h
          · have:=(hlm x).1 hx; rw [hout x h] at this; cases this
        by_cases hkl:k ∈ l
        · exact hkl
        · have:=nodup_le A.length (k :: l) (List.nodup_cons.2 ⟨hkl,hnd⟩) (fun x hx => by
            rcases List.mem_cons.1 hx with rfl | hx
            · exact hk
            · exact hlt x hx)
          simp only [List.length_cons] at this
          omega
      · rw [hout k hk]
        cases hb:Nat.blt k A.length with
        | false => rfl
        | true => rw [Nat.blt_eq] at hb; omega
    rw [Nat.zero_add]
    exact hn a w listed h.2 hsl (fun k => by rw [hl1,hallD]) (fun k hk => by rw [hl2 k hk,hallD])
  | succ fuel ih =>
    intro la listed a w D hsa hsl ha1 hl1 ha2 hl2 hout hcl hcount h
    obtain ⟨l,hnd,hll,hlm⟩:=hcount
    have hnot:¬ ∀ j,j < A.length → D j = true:=fun hd => by
      have:=cover_le A.length l fun x hx => (hlm x).2 (hd x hx)
      omega
    rw [show fuel + 1 + B.length = (fuel + B.length) + 1 from by omega]
    -- what is ready is of the front,and ready there
    have hrdy:∀ i,i ∈ Region.ready .any (A ++ B).toArray listed → i < A.length ∧ i ∈ Region.ready .any A.toArray la:=by
      intro i hi
      rw [mem_ready] at hi
      obtain ⟨h1,o,h2,h3⟩:=hi
      have ho:(A ++ B)[i]? = some o:=by simpa using h2
      have hilt:i < (A ++ B).length:=(List.getElem?_eq_some_iff.1 ho).1
      rcases Nat.lt_or_ge i A.length with hlt | hge
      · refine ⟨hlt,?_⟩
        rw [mem_ready]
        rw [List.getElem?_append_left hlt] at ho
        refine ⟨by rw [ha2 i hlt,← hl2 i hilt]; exact h1,o,by simpa using ho,fun e he hb => ?_⟩
        rw [ha1,← hl1]
        exact h3 e he hb
      · exfalso
        rw [List.getElem?_append_right hge] at ho
        have hT:=hB _ o ho
        rw [show A.length + (i - A.length) = i from by omega] at hT
        refine hnot fun j hj => ?_
        obtain ⟨_,e,he,hb,hor⟩:=hT.pre j (hT.full j (by omega))
        have hDe:D e.on = true:=by
          rw [← hl1]
          exact h3 e he (by rw [binds_any]; exact hb)
        rcases hor with h | h
        · rw [← h]; exact hDe
        · exact hcl _ hDe j h
    refine ⟨fun hrd => ?_,fun i hi => ?_⟩
    · -- the front is not at its end: by its own count something is ready
      exfalso
      have hA0:Region.ready .any A.toArray la = []:=by
        rw [List.eq_nil_iff_forall_not_mem]
        intro i hi
        rw [mem_ready] at hi
        obtain ⟨h1,o,h2,h3⟩:=hi
        have ho:A[i]? = some o:=by simpa using h2
        have hlt:i < A.length:=(List.getElem?_eq_some_iff.1 ho).1
        have:i ∈ Region.ready .any (A ++ B).toArray listed:=by
          rw [mem_ready]
          have hlt':i < (A ++ B).length:=by rw [List.length_append]; omega
          refine ⟨by rw [hl2 i hlt',← ha2 i hlt]; exact h1,o,?_,fun e he hb => ?_⟩
          · have:(A ++ B)[i]? = some o:=by rw [List.getElem?_append_left hlt]; exact ho
            simpa using this
          · rw [hl1,← ha1]; exact h3 e he hb
        rw [hrd] at this
        cases this
      refine hnot fun j => ?_
      induction j using Nat.strongRecOn with
      | _ j ihj =>
        intro hj
        cases hd:D j with
        | true => rfl
        | false =>
          exfalso
          have hmem:j ∈ Region.ready .any A.toArray la:=by
            rw [mem_ready]
            refine ⟨by rw [ha2 j hj,hd],A[j],by simp [hj],fun e he hb => ?_⟩
            rw [binds_any] at hb
            have hlt:=(hA j _ (List.getElem?_eq_getElem hj)).1.2 e he hb
            rw [ha1]
            exact ihj e.on hlt (by omega)
          rw [hA0] at hmem
          cases hmem
    · obtain ⟨hlt,hir⟩:=hrdy i hi
      have hstep:=h.2 i hir
      rw [mem_ready] at hi
      obtain ⟨h1,o,h2,h3⟩:=hi
      have ho:(A ++ B)[i]? = some o:=by simpa using h2
      have ho':A[i]? = some o:=by rw [List.getElem?_append_left hlt] at ho; exact ho
      have hilt:i < (A ++ B).length:=by rw [List.length_append]; omega
      have hDi:D i = false:=by rw [← hl2 i hilt]; exact h1
      have next:∀ a' w',wpAny P .any A.toArray Q' fuel (la.setIfInBounds i true) a' w' → wpAny P .any (A ++ B).toArray Q (fuel + B.length) (listed.setIfInBounds i true) a' w':=by
        intro a' w' h'
        have set1:∀ (x:Array Bool) (d:Bool),i < x.size → (∀ k,k ≠ i → x.getD k d = D k) → ∀ k,(k ≠ i ∨ True) → (x.setIfInBounds i true).getD k d = (D k || Nat.beq k i):=by
          intro x d hx hk k _
          by_cases hki:k = i
          · subst hki
            simp [Array.getD_eq_getD_getElem?,hx]
          · rw [getD_set_ne d (fun e => hki e.symm),hk k hki,beq_ne' hki,Bool.or_false]
        refine ih (la.setIfInBounds i true) (listed.setIfInBounds i true) a' w' (fun k => D k || Nat.beq k i) (by simp [hsa]) (by rw [Array.size_setIfInBounds]; exact hsl) (fun k => set1 la false (by omega) (fun k _ => ha1 k) k (.inr trivial)) (fun k => set1 listed false (by omega) (fun k _ => hl1 k) k (.inr trivial)) (fun k hk => ?_) (fun k hk => ?_) (fun k hk => ?_) (fun k hk j hj => ?_) ?_ h'
        · by_cases hki:k = i
          · subst hki
            have:k < la.size:=by omega
            simp [Array.getD_eq_getD_getElem?,this]
          · rw [getD_set_ne true (fun e => hki e.symm),ha2 k hk,beq_ne' hki,Bool.or_false]
        · by_cases hki:k = i
          · subst hki
            have:k < listed.size:=by omega
            simp [Array.getD_eq_getD_getElem?,this]
          · rw [getD_set_ne true (fun e => hki e.symm),hl2 k hk,beq_ne' hki,Bool.or_false]
        · have:k ≠ i:=by omega
          rw [hout k hk,beq_ne' this]; rfl
        · simp only [Bool.or_eq_true] at hk ⊢
          rcases hk with hk | hk
          · exact .inl (hcl k hk j hj)
          · have:=Nat.eq_of_beq_eq_true hk
            subst this
            obtain ⟨e,he,hb,hor⟩:=(hA k o ho').2 j hj
            have hDe:D e.on = true:=by rw [← hl1]; exact h3 e he (by rw [binds_any]; exact hb)
            rcases hor with h | h
            · exact .inl (by rw [← h]; exact hDe)
            · exact .inl (hcl _ hDe j h)
        · refine ⟨i :: l,List.nodup_cons.2 ⟨fun h => ?_,hnd⟩,by simp only [List.length_cons]; omega,fun k => ?_⟩
          · have:=(hlm i).1 h; rw [hDi] at this; cases this
          · simp only [List.mem_cons,Bool.or_eq_true,hlm k]
            constructor
            · rintro (rfl | h)
              · exact .inr (by simp)
              · exact .inl h
            · rintro (h | h)
              · exact .inr h
              · exact .inl (Nat.eq_of_beq_eq_true h)
      have hw:Region.wanted o (yielded (A ++ B).toArray a.tmps) = Region.wanted o (yielded A.toArray a.tmps):=by
        unfold Region.wanted
        cases hg:o.guard with
        | none => rfl
        | some jw =>
          obtain ⟨j,want⟩:=jw
          have hj:=(hA i o ho').1.1 j want hg
          have:yielded (A ++ B).toArray a.tmps j = yielded A.toArray a.tmps j:=by
            unfold yielded
            have:(A ++ B).toArray[j]? = A.toArray[j]?:=by simp [List.getElem?_append_left hj]
            rw [this]
          simp only [this]
      unfold wpOp at hstep ⊢
      rw [h2]
      have h2':A.toArray[i]? = some o:=by simpa using ho'
      rw [h2'] at hstep
      simp only at hstep ⊢
      rw [hw]
      split
      · rename_i hwt
        rw [if_pos hwt] at hstep
        rcases hstep with hs | ⟨hs,a0,w0,hl0⟩
        · exact .inl (Oper.wp_mono next (wp_monoQ hQ hs))
        · exact .inr ⟨hs,a0,w0,hQ _ _ _ (by intro e; cases e) hl0⟩
      · rename_i hwt
        rw [if_neg hwt] at hstep
        exact next _ _ hstep

theorem tail_runs {E:Env} (hE:EnvOK E) {G:Goal} {w0:World} {S0:Cx} {all:List Oper} {PL:List (List Nat)} {N:List Nat} {K:St → Prop} (hall:all.all (opOK G.n) = true) :
    ∀ (os pre:List Oper) (acc:List (List Nat)) (s:St) (a:Act) (w:World) (listed:Array Bool),all = pre ++ os → (∀ i o,os[i]? = some o → TailOK PL (pre.length + i) o) → listed.size = all.length → (∀ k,listed.getD k false = Nat.blt k pre.length) → (∀ k,k < all.length → listed.getD k true = Nat.blt k pre.length) →
      (∀ k,k < pre.length → ∀ j,mem1 j (nthL PL k) = true → j < pre.length) → runs E G all N acc os s K → Rel G.n w0 S0 s a w → wpAny E.P .any all.toArray (RegQ G w0 S0 K) os.length listed a w:=by
  have blt_f:∀ {a b:Nat},¬ a < b → Nat.blt a b = false:=fun {a b} h => by
    cases hb:Nat.blt a b with
    | false => rfl
    | true => rw [Nat.blt_eq] at hb; omega
  have blt_t:∀ {a b:Nat},a < b → Nat.blt a b = true:=fun {a b} h => by rw [Nat.blt_eq]; exact h
  intro os
  induction os with
  | nil =>
    intro pre acc s a w listed hap _ hsz hl1 hl2 _ hruns hr
    refine ⟨?_,s,hruns,hr⟩
    rw [List.eq_nil_iff_forall_not_mem]
    intro i hi
    rw [mem_ready] at hi
    obtain ⟨h1,o,h2,_⟩:=hi
    have hilt:i < all.length:=by
      have:=(Array.getElem?_eq_some_iff.1 h2).1
      simpa using this
    rw [hl2 i hilt] at h1
    rw [hap,List.append_nil] at hilt
    rw [blt_t hilt] at h1
    cases h1
  | cons o os ih =>
    intro pre acc s a w listed hap hT hsz hl1 hl2 hcl hruns hr
    have hlen:all.length = pre.length + (os.length + 1):=by rw [hap]; simp
    have ho:all[pre.length]? = some o:=by rw [hap]; simp
    have hT0:=hT 0 o rfl
    rw [Nat.add_zero] at hT0
    refine ⟨fun hrd => ?_,fun i hi => ?_⟩
    · exfalso
      have:pre.length ∈ Region.ready .any all.toArray listed:=by
        rw [mem_ready]
        refine ⟨by rw [hl2 _ (by omega)]; exact blt_f (by omega),o,by simpa using ho,fun e he hb => ?_⟩
        rw [hl1]
        exact blt_t (hT0.back e he (by rw [binds_any] at hb; exact hb))
      rw [hrd] at this
      cases this
    · have hip:i = pre.length:=by
        rw [mem_ready] at hi
        obtain ⟨h1,o',h2,h3⟩:=hi
        have ho':all[i]? = some o':=by simpa using h2
        have hilt:i < all.length:=(List.getElem?_eq_some_iff.1 ho').1
        rw [hl2 i hilt] at h1
        have hge:pre.length ≤ i:=by
          rcases Nat.lt_or_ge i pre.length with h | h
          · rw [blt_t h] at h1; cases h1
          · exact h
        rcases Nat.lt_or_ge pre.length i with hgt | h
        · exfalso
          have hTi:=hT (i - pre.length) o' (by rw [hap,List.getElem?_append_right hge] at ho'; exact ho')
          rw [show pre.length + (i - pre.length) = i from by omega] at hTi
          obtain ⟨_,e,he,hb,hor⟩:=hTi.pre pre.length (hTi.full _ hgt)
          have hDe:e.on < pre.length:=by
            have:=h3 e he (by rw [binds_any]; exact hb)
            rw [hl1,Nat.blt_eq] at this
            exact this
          rcases hor with h | h
          · omega
          · have:=hcl _ hDe _ h; omega
        · omega
      subst hip
      have hopOK:opOK G.n o = true:=by
        rw [List.all_eq_true] at hall
        exact hall o (List.mem_of_getElem? ho)
      have hbig:pre.length < listed.size:=by omega
      have next:∀ a' w',(∃ s',runs E G all N (step1 N acc o) os s' K ∧ Rel G.n w0 S0 s' a' w') → wpAny E.P .any all.toArray (RegQ G w0 S0 K) os.length (listed.setIfInBounds pre.length true) a' w':=by
        rintro a' w' ⟨s',h1,h2⟩
        have hb:∀ k,(Nat.blt k (pre ++ [o]).length) = (Nat.blt k pre.length || Nat.beq k pre.length):=by
          intro k
          rw [List.length_append,List.length_singleton]
          by_cases hk:k = pre.length
          · subst hk
            rw [blt_t (by omega)]; simp
          · rw [beq_ne' hk,Bool.or_false]
            by_cases hk':k < pre.length
            · rw [blt_t hk',blt_t (by omega)]
            · rw [blt_f hk',blt_f (by omega)]
        refine ih (pre ++ [o]) _ s' a' w' _ (by rw [hap]; simp) (fun i q hq => ?_) (by rw [Array.size_setIfInBounds]; exact hsz) (fun k => ?_) (fun k hk => ?_) (fun k hk j hj => ?_) h1 h2
        · have:=hT (i + 1) q (by rw [List.getElem?_cons_succ]; exact hq)
          rw [List.length_append,List.length_singleton,show pre.length + 1 + i = pre.length + (i + 1) from by omega]
          exact this
        · rw [hb]
          by_cases hki:k = pre.length
          · subst hki
            simp [Array.getD_eq_getD_getElem?,hbig]
          · rw [getD_set_ne false (fun e => hki e.symm),hl1,beq_ne' hki,Bool.or_false]
        · rw [hb]
          by_cases hki:k = pre.length
          · subst hki
            simp [Array.getD_eq_getD_getElem?,hbig]
          · rw [getD_set_ne true (fun e => hki e.symm),hl2 k hk,beq_ne' hki,Bool.or_false]
        · rw [List.length_append,List.length_singleton] at hk ⊢
          rcases Nat.lt_or_ge k pre.length with h | h
          · have:=hcl k h j hj; omega
          · have hk':k = pre.length:=by omega
            subst hk'
            have:=(hT0.pre j hj).1
            omega
      unfold wpOp
      rw [show all.toArray[pre.length]? = some o from by simpa using ho]
      simp only
      unfold runs at hruns
      have keyop:=one_op (hQ:=fun ch w' h => h) (Q:=RegQ G w0 S0 K) (F:=forb all N acc o) (K:=fun s' => runs E G all N (step1 N acc o) os s' K) hE hall hopOK hr hruns
      split
      · rename_i hw
        rw [if_pos hw] at keyop
        exact .inl (Oper.wp_mono next keyop)
      · rename_i hw
        rw [if_neg hw] at keyop
        exact next _ _ keyop

theorem draw_sound {E:Env} (hE:EnvOK E):DrawSound E drB:=by
  intro G w0 S0 all K s a w hdr hall hruns hrel _
  unfold drB at hdr
  simp only [Bool.and_eq_true] at hdr
  obtain ⟨hd1,hd2⟩:=hdr
  generalize hAe:frontD all = A at hd1 hd2
  generalize hBe:backD all = B at hd2
  have hab:all = A ++ B:=by rw [← hAe,← hBe,front_back]
  have hallA:A.all (opOK G.n) = true:=by
    rw [hab,List.all_append,Bool.and_eq_true] at hall
    exact hall.1
  have hruns':runs E G all (madeD all) [] (A ++ B) s K:=(congrArg (fun l => runs E G all (madeD all) [] l s K) hab).mp hruns
  have hr2:=runs_append hruns'
  have hfront:=draw_front hE hab hd1 hallA hr2 hrel
  have hone:∀ (k:Nat) (o:Oper),A[k]? = some o → OneOK all A (presL [] all) (forb all (madeD all) (accAt (madeD all) [] A k) o) k o:=fun k o ho => by
    have:=onesB_at hd1 k o ho
    rw [Nat.zero_add] at this
    exact oneB_spec this
  have hB:∀ i o,B[i]? = some o → TailOK (presL [] all) (A.length + i) o:=fun i o ho => tailsB_at hd2 i o ho
  have hlen:all.length = A.length + B.length:=by rw [hab]; simp
  have key:=any_split (P:=E.P) (A:=A) (B:=B) (PL:=presL [] all) (Q:=RegQ G w0 S0 K) (Q':=RegQ G w0 S0 (fun s' => runs E G all (madeD all) (accAt (madeD all) [] A A.length) B s' K))
    (fun e a w he h => by cases e <;> first | exact (he rfl).elim | exact h)
    (fun i o ho => ⟨⟨fun j w hg => by
        obtain ⟨d,hd⟩:=(hone i o ho).guard j w hg
        exact guardDst_lt' hd,(hone i o ho).back⟩,fun j hj => ((hone i o ho).pre j hj).2⟩)
    hB
    (fun a w listed hq hsz h1 h2 => by
      obtain ⟨s',hs',hr'⟩:=hq
      rw [← hab]
      refine tail_runs (PL:=presL [] all) hE hall B A _ s' a w listed hab hB (by rw [hsz,← hab]) h1 (by rw [hab]; exact h2) (fun k hk j hj => ?_) hs' hr'
      have:=((hone k A[k] (List.getElem?_eq_getElem hk)).pre j hj).1
      omega)
    A.length (Array.replicate A.length false) (Array.replicate all.length false) a { w with drawn:=w.drawn + 1 } (fun _ => false) (by simp) (by rw [hab]; simp) (fun k => by simp [Array.getD_eq_getD_getElem?,Array.getElem?_replicate]; split <;> rfl) (fun k => by simp [Array.getD_eq_getD_getElem?,Array.getElem?_replicate]; split <;> rfl) (fun k hk => by simp [Array.getD_eq_getD_getElem?,hk]) (fun k hk => by rw [← hab] at hk; simp [Array.getD_eq_getD_getElem?,hk]) (fun _ _ => rfl) (fun k hk => by cases hk) ⟨[],List.nodup_nil,by simp,fun k => by simp⟩ hfront
  rw [← hab,← hlen] at key
  simpa using key
def cutB (all:List Oper) (c:Nat):Bool:=onesB all (all.take c) (presL [] all) (madeD all) [] 0 (all.take c) && tailsB (presL [] all) (all.take c).length (all.drop c)
theorem cut_sound {E:Env} (hE:EnvOK E):CutSound E cutB:=by
  intro G w0 S0 all c K s a w hdr hall hr2 hrel
  unfold cutB at hdr
  simp only [Bool.and_eq_true] at hdr
  obtain ⟨hd1,hd2⟩:=hdr
  generalize hAe:all.take c = A at hd1 hd2 hr2
  generalize hBe:all.drop c = B at hd2 hr2
  have hab:all = A ++ B:=by rw [← hAe,← hBe,List.take_append_drop]
  have hallA:A.all (opOK G.n) = true:=by
    rw [hab,List.all_append,Bool.and_eq_true] at hall
    exact hall.1
  have hfront:=draw_front hE hab hd1 hallA hr2 hrel
  have hone:∀ (k:Nat) (o:Oper),A[k]? = some o → OneOK all A (presL [] all) (forb all (madeD all) (accAt (madeD all) [] A k) o) k o:=fun k o ho => by
    have:=onesB_at hd1 k o ho
    rw [Nat.zero_add] at this
    exact oneB_spec this
  have hB:∀ i o,B[i]? = some o → TailOK (presL [] all) (A.length + i) o:=fun i o ho => tailsB_at hd2 i o ho
  have hlen:all.length = A.length + B.length:=by rw [hab]; simp
  have key:=any_split (P:=E.P) (A:=A) (B:=B) (PL:=presL [] all) (Q:=RegQ G w0 S0 K) (Q':=RegQ G w0 S0 (fun s' => runs E G all [] [] B s' K))
    (fun e a w he h => by cases e <;> first | exact (he rfl).elim | exact h)
    (fun i o ho => ⟨⟨fun j w hg => by
        obtain ⟨d,hd⟩:=(hone i o ho).guard j w hg
        exact guardDst_lt' hd,(hone i o ho).back⟩,fun j hj => ((hone i o ho).pre j hj).2⟩)
    hB
    (fun a w listed hq hsz h1 h2 => by
      obtain ⟨s',hs',hr'⟩:=hq
      rw [← hab]
      refine tail_runs (PL:=presL [] all) hE hall B A _ s' a w listed hab hB (by rw [hsz,← hab]) h1 (by rw [hab]; exact h2) (fun k hk j hj => ?_) hs' hr'
      have:=((hone k A[k] (List.getElem?_eq_getElem hk)).pre j hj).1
      omega)
    A.length (Array.replicate A.length false) (Array.replicate all.length false) a { w with drawn:=w.drawn + 1 } (fun _ => false) (by simp) (by rw [hab]; simp) (fun k => by simp [Array.getD_eq_getD_getElem?,Array.getElem?_replicate]; split <;> rfl) (fun k => by simp [Array.getD_eq_getD_getElem?,Array.getElem?_replicate]; split <;> rfl) (fun k hk => by simp [Array.getD_eq_getD_getElem?,hk]) (fun k hk => by rw [← hab] at hk; simp [Array.getD_eq_getD_getElem?,hk]) (fun _ _ => rfl) (fun k hk => by cases hk) ⟨[],List.nodup_nil,by simp,fun k => by simp⟩ hfront
  rw [← hab,← hlen] at key
  simpa using key
end Go.Proofs.Ytefpgfdemmllpaa
namespace Go.Proofs.Ytefpgfdemmllpaa

def tysOK (P:Program) (ty:Nat → Option Ty) (str:Nat → Bool):List (Nat × Ty) → Bool
  | [] => true | p :: r => tyOK P ty str p.1 p.2 && tysOK P ty str r
def cmpsOK (P:Program) (ty:Nat → Option Ty) (str cmp:Nat → Bool):List Nat → Bool
  | [] => true | t :: r => cmpOK P ty str cmp t && cmpsOK P ty str cmp r
def fnsOK (P:Program):List (Nat × (List Ty × Ty)) → Bool
  | [] => true | p :: r => fnOK P p.1 p.2.1 && Nat.beq (owns p.2.2) 0 && fnsOK P r
def hfnsOK (P:Program):List (Nat × List (Option Ty)) → Bool
  | [] => true | p :: r => fnOK P p.1 (p.2.filterMap id) && hfnsOK P r
def roAt:List (Nat × Nat) → Nat → Nat → Bool
  | [],_,_ => false | (a,b) :: r,d,t => match Nat.beq d a with | true => (match Nat.beq t b with | true => true | false => roAt r d t) | false => roAt r d t
def flAt:List ((Nat × Nat) × List (List Nat)) → Nat → Nat → List (List Nat)
  | [],_,_ => [] | p :: r,f,i => bif Nat.beq p.1.1 f && Nat.beq p.1.2 i then p.2 else flAt r f i
def methL:List ((Nat × String) × (Nat × Option Nat)) → Nat → String → Option (Nat × Option Nat)
  | [],_,_ => none | p :: r,t,s => bif Nat.beq t p.1.1 && s == p.1.2 then some p.2 else methL r t s
def methsOK (P:Program):List ((Nat × String) × (Nat × Option Nat)) → Bool
  | [] => true | p :: r => methB P p.1.1 p.1.2 p.2.1 p.2.2 && methsOK P r
theorem methsOK_at {P:Program}:∀ {l:List ((Nat × String) × (Nat × Option Nat))},methsOK P l = true → ∀ {t s f md},methL l t s = some (f,md) → methB P t s f md = true:=by
  intro l
  induction l with
  | nil => intro _ t s f md h; cases h
  | cons p r ih =>
    intro h t s f md ht
    simp only [methsOK,Bool.and_eq_true] at h
    unfold methL at ht
    cases hb:(Nat.beq t p.1.1 && s == p.1.2) with
    | true =>
      rw [hb] at ht
      simp only [cond_true,Option.some.injEq] at ht
      rw [Bool.and_eq_true] at hb
      have h1:=Nat.eq_of_beq_eq_true hb.1
      have h2:s = p.1.2:=by simpa using hb.2
      rw [h1,h2]
      have:=h.1
      rw [ht] at this
      exact this
    | false => rw [hb] at ht; exact ih h.2 ht
def mkEnv (P:Program) (tys:List (Nat × Ty)) (strs cmps:List Nat) (fns:List (Nat × (List Ty × Ty))) (hfns:List (Nat × List (Option Ty))) (keys ros:List (Nat × Nat)) (tm:Bool) (bts:List Nat:=[]) (els:List (Nat × Nat):=[]) (nds:List Nat:=[]) (cons:List Nat:=[]) (pxs:List Nat:=[]) (fls:List ((Nat × Nat) × List (List Nat)):=[]) (emps:List Nat:=[]) (stps:List (Nat × Nat):=[]) (mths:List ((Nat × String) × (Nat × Option Nat)):=[]):Env :=
  ⟨P,fun t => look t tys,fun t => mem1 t strs,fun t => mem1 t cmps,fun f => look f fns,fun f => look f hfns,fun t => look t keys,fun d t => roAt ros d t,tm,fun t => mem1 t bts,fun t => look t els,fun f => mem1 f nds,fun t => mem1 t cons,fun f => mem1 f pxs,flAt fls,fun t => mem1 t emps,fun f i => roAt stps f i,methL mths⟩
def keysOK (P:Program):List (Nat × Nat) → Bool
  | [] => true | p :: r => keyOK P p.1 p.2 && keysOK P r
def elmsOK (P:Program):List (Nat × Nat) → Bool
  | [] => true | p :: r => (match P.underlying p.1 with | some (.slice e) => Nat.beq e p.2 | _ => false) && elmsOK P r
theorem elmsOK_at {P:Program}:∀ {l:List (Nat × Nat)},elmsOK P l = true → ∀ {t e},look t l = some e → P.underlying t = some (.slice e):=by
  intro l
  induction l with
  | nil => intro _ t k h; cases h
  | cons p r ih =>
    obtain ⟨u,U⟩:=p
    intro h t k ht
    simp only [elmsOK,Bool.and_eq_true] at h
    unfold look at ht
    cases hb:Nat.beq t u with
    | true =>
      rw [hb] at ht; have:=Nat.eq_of_beq_eq_true hb; subst this; injection ht with ht; subst ht
      have h1:=h.1
      split at h1
      · rename_i e he
        rw [he,Nat.eq_of_beq_eq_true h1]
      · cases h1
    | false => rw [hb] at ht; exact ih h.2 ht
theorem keysOK_at {P:Program}:∀ {l:List (Nat × Nat)},keysOK P l = true → ∀ {t k},look t l = some k → keyOK P t k = true:=by
  intro l
  induction l with
  | nil => intro _ t k h; cases h
  | cons p r ih =>
    obtain ⟨u,U⟩:=p
    intro h t k ht
    simp only [keysOK,Bool.and_eq_true] at h
    unfold look at ht
    cases hb:Nat.beq t u with
    | true => rw [hb] at ht; have:=Nat.eq_of_beq_eq_true hb; subst this; injection ht with ht; subst ht; exact h.1
    | false => rw [hb] at ht; exact ih h.2 ht

theorem tysOK_at {P:Program} {ty:Nat → Option Ty} {str:Nat → Bool}:∀ {l:List (Nat × Ty)},tysOK P ty str l = true → ∀ {t T},look t l = some T → tyOK P ty str t T = true:=by
  intro l
  induction l with
  | nil => intro _ t T h; cases h
  | cons p r ih =>
    obtain ⟨u,U⟩:=p
    intro h t T ht
    simp only [tysOK,Bool.and_eq_true] at h
    unfold look at ht
    cases hb:Nat.beq t u with
    | true => rw [hb] at ht; have:=Nat.eq_of_beq_eq_true hb; subst this; injection ht with ht; subst ht; exact h.1
    | false => rw [hb] at ht; exact ih h.2 ht
theorem fnsOK_at {P:Program}:∀ {l:List (Nat × (List Ty × Ty))},fnsOK P l = true → ∀ {f As T},look f l = some (As,T) → fnOK P f As = true ∧ owns T = 0:=by
  intro l
  induction l with
  | nil => intro _ t As T h; cases h
  | cons p r ih =>
    obtain ⟨u,U⟩:=p
    intro h t As T ht
    simp only [fnsOK,Bool.and_eq_true] at h
    unfold look at ht
    cases hb:Nat.beq t u with
    | true => rw [hb] at ht; have:=Nat.eq_of_beq_eq_true hb; subst this; injection ht with ht; subst ht; exact ⟨h.1.1,Nat.eq_of_beq_eq_true h.1.2⟩
    | false => rw [hb] at ht; exact ih h.2 ht
theorem hfnsOK_at {P:Program}:∀ {l:List (Nat × List (Option Ty))},hfnsOK P l = true → ∀ {f As},look f l = some As → fnOK P f (As.filterMap id) = true:=by
  intro l
  induction l with
  | nil => intro _ t As h; cases h
  | cons p r ih =>
    obtain ⟨u,U⟩:=p
    intro h t As ht
    simp only [hfnsOK,Bool.and_eq_true] at h
    unfold look at ht
    cases hb:Nat.beq t u with
    | true => rw [hb] at ht; have:=Nat.eq_of_beq_eq_true hb; subst this; injection ht with ht; subst ht; exact h.1
    | false => rw [hb] at ht; exact ih h.2 ht
theorem cmpsOK_at {P:Program} {ty:Nat → Option Ty} {str cmp:Nat → Bool}:∀ {l:List Nat},cmpsOK P ty str cmp l = true → ∀ {t},mem1 t l = true → cmpOK P ty str cmp t = true:=by
  intro l
  induction l with
  | nil => intro _ t h; cases h
  | cons u r ih =>
    intro h t ht
    simp only [cmpsOK,Bool.and_eq_true] at h
    unfold mem1 at ht
    cases hb:Nat.beq t u with
    | true => have:=Nat.eq_of_beq_eq_true hb; subst this; exact h.1
    | false => rw [hb] at ht; exact ih h.2 ht
theorem mem1_list {t:Nat}:∀ {l:List Nat},mem1 t l = true → t ∈ l
  | [],h => by cases h
  | u :: r,h => by
    simp only [mem1] at h
    cases hb:Nat.beq t u with
    | true => rw [Nat.eq_of_beq_eq_true hb]; exact List.mem_cons_self ..
    | false => rw [hb] at h; exact List.mem_cons_of_mem _ (mem1_list h)
theorem mkEnv_ok {P:Program} {tys:List (Nat × Ty)} {strs cmps:List Nat} {fns:List (Nat × (List Ty × Ty))} {hfns:List (Nat × List (Option Ty))} {keys ros:List (Nat × Nat)} {tm:Bool} {bts:List Nat} {els:List (Nat × Nat)} {nds cons pxs:List Nat} {fls:List ((Nat × Nat) × List (List Nat))} {emps:List Nat} {stps:List (Nat × Nat)} {mths:List ((Nat × String) × (Nat × Option Nat))}
    (h1:tysOK P (fun t => look t tys) (fun t => mem1 t strs) tys = true) (h2:fnsOK P fns = true) (h2':hfnsOK P hfns = true)
    (h3:cmpsOK P (fun t => look t tys) (fun t => mem1 t strs) (fun t => mem1 t cmps) cmps = true) (h5:keysOK P keys = true) (h4:P.follows .mixedOrders = true) (h6:elmsOK P els = true) (h7:cons.all (conB P) = true) (h8:emps.all (empB P) = true) (h9:methsOK P mths = true):EnvOK (mkEnv P tys strs cmps fns hfns keys ros tm bts els nds cons pxs fls emps stps mths) :=
  ⟨fun _ _ h => tysOK_at h1 h,fun _ _ _ h => (fnsOK_at h2 h).1,fun _ _ _ h => (fnsOK_at h2 h).2,fun _ _ h => hfnsOK_at h2' h,fun _ h => cmpsOK_at h3 h,fun _ _ h => keysOK_at h5 h,h4,fun _ _ h => elmsOK_at h6 h,fun t h => List.all_eq_true.1 h7 t (mem1_list h),fun t h => List.all_eq_true.1 h8 t (mem1_list h),fun _ _ _ _ h => methsOK_at h9 h⟩
end Go.Proofs.Ytefpgfdemmllpaa
namespace Go.Proofs.Ytefpgfdemmllpaa
open Go.RowKit

def flatF (E:Env) (f:Nat):Bool:=match E.fn f with
  | some (_,T) => !(E.nd f) && T.flat
  | none => false
def tameK (E:Env) (o:Oper):Bool:=(slotReads o).isSome || match o.op with
  | .slice _ _ _ _ _ => true
  | .load _ _ => true | .convert _ _ _ => true | .indexAddr _ _ _ => true | .nilCheck _ => true | .alloc _ => true | .box _ _ => true | .buildSlice _ _ _ => true
  | .call c => (match c.callee with | .builtin .len => true | .builtin .append => (match o.dst with | some d => E.ro (d + 1000) o.type | none => false) | .value (.func f) => flatF E f | _ => false)
  | _ => false
def quietK (o:Oper):Bool:=(slotReads o).isSome || match o.op with
  | .load _ _ => true | .convert _ _ _ => true | .indexAddr _ _ _ => true | .nilCheck _ => true
  | .call c => (match c.callee with | .builtin .len => true | _ => false)
  | _ => false
def apartB (q j:Oper):Bool :=
  (match q.dst with
    | some d => !(mem1 d (tmpsOf j.op.operands.toList)) && (match j.dst with | some u => !(Nat.beq u d) | none => true)
    | none => false) &&
  (match j.dst with | some u => !(mem1 u (tmpsOf q.op.operands.toList)) | none => true)
def freeB (E:Env) (P:List (List Nat)) (D:List Nat) (q:Nat) (oq:Oper):Nat → List Oper → Bool
  | _,[] => true
  | j,o :: r => (mem1 j D || Nat.beq j q || mem1 q (nthL P j) || (tameK E o && apartB oq o)) && freeB E P D q oq (j + 1) r
def readyB (D:List Nat) (o:Oper):Bool:=o.after.toList.all fun e => !(bindsAny e) || mem1 e.on D
def onlyB (D:List Nat) (hs:List Nat):Nat → List Oper → Bool
  | _,[] => true
  | j,o :: r => (mem1 j D || !(readyB D o) || mem1 j hs) && onlyB D hs (j + 1) r
def coversB (E:Env) (all:List Oper) (P:List (List Nat)):Nat → List Nat → List (List Nat) → Bool
  | 0,_,_ => false
  | f + 1,D,orders => match headsOf orders with
    | [] => onlyB D [] 0 all && (List.range all.length).all fun j => mem1 j D
    | h :: hs => (match hs,nthO all h with
        | [],some o => (quietK o && o.dst.isSome && freeB E P D h o 0 all) || onlyB D [h] 0 all
        | _,_ => onlyB D (h :: hs) 0 all) &&
      (h :: hs).all fun i => (match nthO all i with | some o => !(mem1 i D) && readyB D o | none => false) && coversB E all P f (i :: D) (tailsOf i orders)
def preB (P:List (List Nat)):Nat → List Oper → Bool
  | _,[] => true
  | i,o :: r => ((nthL P i).all fun j => o.after.toList.any fun e => bindsAny e && (Nat.beq e.on j || mem1 j (nthL P e.on))) && o.guard.isNone && preB P (i + 1) r
def ordB2 (E:Env) (all:List Oper) (orders:List (List Nat)):Bool:=preB (presL [] all) 0 all && coversB E all (presL [] all) (all.length + 1) [] orders

/-! ### States that differ in how their slots are listed -/
structure SameS (s t:St):Prop where
  get:∀ i,s.get i = t.get i
  bl:s.bl = t.bl
theorem SameS.ev {s t:St} (h:SameS s t) (x:Operand):s.ev x = t.ev x:=by
  cases x <;> simp [St.ev,h.get]
theorem get_mapSl (f:PV → PV) (hf:f .any = .any) (l:List (Nat × PV)) (b b':List (Nat × Blk)) (t:Nat):(⟨mapSl f l,b⟩:St).get t = f ((⟨l,b'⟩:St).get t):=by
  unfold St.get
  simp only [look_mapSl]
  cases look t l <;> simp [hf]
theorem SameS.evAll {s t:St} (h:SameS s t):∀ (l:List Operand),evAll s l = evAll t l
  | [] => rfl
  | x :: r => by simp only [Go.Proofs.Ytefpgfdemmllpaa.evAll,h.ev x,SameS.evAll h r]
theorem SameS.evParts {s t:St} (h:SameS s t):∀ (l:List (Nat × Operand)),evParts s l = evParts t l
  | [] => rfl
  | x :: r => by simp only [Go.Proofs.Ytefpgfdemmllpaa.evParts,h.ev x.2,SameS.evParts h r]
theorem SameS.sealK {s t:St} (h:SameS s t) (ks:List Nat):SameS (s.sealw ks) (t.sealw ks):=by
  obtain ⟨sl,bl⟩:=s
  obtain ⟨tl,tb⟩:=t
  obtain ⟨h1,h2⟩:=h
  simp only at h2
  subst h2
  refine ⟨fun i => ?_,rfl⟩
  unfold St.sealw
  rw [get_mapSl _ rfl _ _ bl,get_mapSl _ rfl _ _ bl,h1]
theorem SameS.kill {s t:St} (h:SameS s t) (ks:List Nat):SameS (s.kill ks) (t.kill ks):=by
  obtain ⟨sl,bl⟩:=s
  obtain ⟨tl,tb⟩:=t
  obtain ⟨h1,h2⟩:=h
  simp only at h2
  subst h2
  refine ⟨fun i => ?_,rfl⟩
  unfold St.kill
  rw [get_mapSl _ rfl _ _ bl,get_mapSl _ rfl _ _ bl,h1]
theorem SameS.cons {s t:St} (h:SameS s t) (d:Nat) (v:PV) (b:List (Nat × Blk)):SameS ⟨(d,v) :: s.sl,b⟩ ⟨(d,v) :: t.sl,b⟩:=by
  refine ⟨fun i => ?_,rfl⟩
  have:=h.get i
  unfold St.get at this ⊢
  simp only [look]
  cases Nat.beq i d with
  | true => rfl
  | false => exact this
theorem SameS.put {s t:St} (h:SameS s t) (d:Option Nat) (v:PV):SameS (s.put d v) (t.put d v):=by
  cases d with
  | none => exact h
  | some d =>
    have:=h.cons d v s.bl
    show SameS ⟨(d,v) :: s.sl,s.bl⟩ ⟨(d,v) :: t.sl,t.bl⟩
    rw [← h.bl]; exact this
theorem SameS.hret0 {s t:St} (h:SameS s t) (d:Option Nat) (ids:List Nat) (p:PV) (bl:List (Nat × Blk)):SameS (s.hret0 d ids p bl) (t.hret0 d ids p bl):=by
  have hk:=h.kill (deadIds bl ids P0)
  unfold St.hret0
  rw [hk.bl]
  cases d with
  | none => exact ⟨hk.get,rfl⟩
  | some d => exact hk.cons d _ _
theorem SameS.hret {s t:St} (h:SameS s t) (d:Option Nat) (ids:List Nat) (p:PV) (bl:List (Nat × Blk)):SameS (s.hret d ids p bl) (t.hret d ids p bl):=by
  unfold St.hret
  cases ids with
  | nil => exact h.hret0 d [] p bl
  | cons i r =>
    dsimp only
    cases Nat.beq i 2000000001 with
    | false => exact h.hret0 d (i :: r) p bl
    | true =>
      cases r with
      | nil => exact h
      | cons k r => exact (h.sealK [k]).hret0 d r p bl
theorem SameS.fin {s t:St} (h:SameS s t) (d:Option Nat) (l:Out):SameS (s.fin d l) (t.fin d l):=by
  cases l with
  | val v => exact h.put d v
  | new v b =>
    cases d with
    | none => exact h
    | some d => show SameS ⟨(d,v) :: s.sl,(d,b) :: s.bl⟩ ⟨(d,v) :: t.sl,(d,b) :: t.bl⟩; rw [← h.bl]; exact h.cons d v _
  | store i b => show SameS ⟨s.sl,(i,b) :: s.bl⟩ ⟨t.sl,(i,b) :: t.bl⟩; rw [← h.bl]; exact ⟨h.get,rfl⟩
  | append i j b =>
    cases d with
    | none => exact h
    | some d =>
      have hk:=h.kill [i]
      show SameS ⟨(d,.lfull j) :: (s.kill [i]).sl,(j,b) :: dropBl [i] (s.kill [i]).bl⟩ ⟨(d,.lfull j) :: (t.kill [i]).sl,(j,b) :: dropBl [i] (t.kill [i]).bl⟩
      rw [← hk.bl]; exact hk.cons d _ _
  | hret ids p bl => exact h.hret d ids p bl
  | sealed ks v => exact (h.sealK ks).put d v
  | upd i b v =>
    cases d with
    | none => show SameS ⟨s.sl,(i,b) :: s.bl⟩ ⟨t.sl,(i,b) :: t.bl⟩; rw [← h.bl]; exact ⟨h.get,rfl⟩
    | some d => show SameS ⟨(d,v) :: s.sl,(i,b) :: s.bl⟩ ⟨(d,v) :: t.sl,(i,b) :: t.bl⟩; rw [← h.bl]; exact h.cons d v _
  | sstore ks i b =>
    have hk:=h.sealK ks
    show SameS ⟨(s.sealw ks).sl,(i,b) :: (s.sealw ks).bl⟩ ⟨(t.sealw ks).sl,(i,b) :: (t.sealw ks).bl⟩
    rw [← hk.bl]; exact ⟨hk.get,rfl⟩
  | _ => exact h
theorem bound_same {s t:St} (h:SameS s t) (x:Option Operand):bound s x = bound t x:=by
  unfold bound
  cases x with
  | none => rfl
  | some x => simp only [h.ev x]
theorem stepF_same {E:Env} {F:Reg} {s t:St} {o:Oper} (h:SameS s t):stepF E F s o = stepF E F t o:=by
  have hev:=h.ev
  have hall:=h.evAll
  have hpa:=h.evParts
  have hb:=h.bl
  have hbo:=bound_same h
  unfold stepF
  cases hop:o.op with
  | store u x y =>
    simp only
    split
    · rw [hev x,hev y,hb]
      split
      · rfl
      · rename_i k ks _
        have hs:=h.sealK (k :: ks)
        rw [hs.bl,hs.ev x,hs.ev y]
    · rfl
  | call c =>
    obtain ⟨callee,args,tys⟩:=c
    cases callee with
    | value g =>
      simp only [hev,hall]
      have hco:∀ (f:Nat) (ps:List PV),callO E F s o.dst f ps = callO E F t o.dst f ps:=fun f ps => by
        unfold callO hcallO hcall1 hcallS hcallX St.sealw
        simp only [hb]
      simp only [hco]
    | builtin b => cases b <;> simp only [hall,hb]
    | invoke r m =>
      simp only [hev,hall]
      have hco:∀ (f:Nat) (ps:List PV),callO E F s o.dst f ps = callO E F t o.dst f ps:=fun f ps => by
        unfold callO hcallO hcall1 hcallS hcallX St.sealw
        simp only [hb]
      unfold invokeO
      simp only [hco,hb]
  | makeFunc fn first caps => cases fn <;> simp only [hall]
  | makeMap t r => cases r <;> simp only [hb]
  | _ => simp only [hev,hall,hpa,hb,hbo]
theorem boom_same {E:Env} {G:Goal} {s t:St} {o:Oper} (h:SameS s t):boomP E G s o → boomP E G t o:=by
  have hret:∀ {s t:St},(∀ i,s.get i = t.get i) → s.bl = t.bl → retX G s → retX G t:=fun {s t} hg hb hr => by
    have:∀ l,leBl s l → leBl t l:=fun l => by
      induction l with
      | nil => exact fun _ => trivial
      | cons p r ih => exact fun h => ⟨by have:=h.1; rw [hb] at this; exact this,ih h.2⟩
    refine ⟨hr.1,this _ hr.2.1,hr.2.2.1,?_⟩
    exact keepL_of fun p hp => by
      have h3:=keepL_at hr.2.2.2 p hp
      exact ⟨h3.1,by rw [← hg]; exact h3.2⟩
  have hC:∀ (f:Nat) (ps:List PV),boomC E G s f ps → boomC E G t f ps:=fun f ps => by
    unfold boomC
    rw [h.bl]
    split
    · split
      · exact fun hx => ⟨hx.1,hret h.get h.bl hx.2⟩
      · exact id
    · split
      · split
        · split
          · exact fun ⟨bl',h1,h2,h3⟩ => ⟨bl',h1,h2,hret (h.hret0 none _ .any bl').get (h.hret0 none _ .any bl').bl h3⟩
          · exact id
        · exact id
      · exact id
  unfold boomP
  cases o.op with
  | panic x =>
    simp only [h.ev x]
    cases t.ev x <;> first | exact id | exact hret h.get h.bl
  | call c =>
    obtain ⟨callee,args,tys⟩:=c
    cases callee with
    | value g =>
      simp only [h.ev g,h.evAll]
      cases t.ev g with
      | fn f caps => exact hC f _
      | iv T x => cases T <;> first | exact id | exact hC x _
      | _ => exact id
    | _ => exact id
  | _ => exact id
theorem can_same {E:Env} {G:Goal} {N:List Nat} {s t:St} {o:Oper} (h:SameS s t):canPan E G N s o = canPan E G N t o:=by
  unfold canPan
  cases G.pan with
  | false => rfl
  | true =>
    cases N with
    | cons x N => rfl
    | nil =>
      cases o.op with
      | call c =>
        obtain ⟨callee,args,tys⟩:=c
        cases callee with
        | value g => simp only [h.ev g]
        | _ => rfl
      | _ => rfl
end Go.Proofs.Ytefpgfdemmllpaa
namespace Go.Proofs.Ytefpgfdemmllpaa
open Go.RowKit

def Out.qt:Out → Prop
  | .need _ o => o.qt | .exi _ _ f => ∀ x,(f x).qt | .val _ => True | .fail _ => True | _ => False
theorem OutK_pick {E:Env}:∀ (o:Out) (K:Out → Prop),o.qt → OutK E o K → ∃ v,OutK E o (fun l => l = .val v) ∧ K (.val v):=by
  intro o
  induction o with
  | need p o ih => intro K hq h; obtain ⟨v,h1,h2⟩:=ih K hq h.2; exact ⟨v,⟨h.1,h1⟩,h2⟩
  | exi T p f ih => intro K hq ⟨x,h1,h2⟩; obtain ⟨v,h3,h4⟩:=ih x K (hq x) h2; exact ⟨v,⟨x,h1,h3⟩,h4⟩
  | val v => intro K _ h; exact ⟨v,rfl,h⟩
  | fail m => intro K _ h; exact h.elim
  | _ => intro K hq; exact hq.elim
theorem OutK_lv {E:Env} {k:Out → Prop}:∀ (o:Out) (K:Out → Prop),o.lv k → OutK E o K → OutK E o (fun l => K l ∧ k l):=by
  intro o
  induction o with
  | need p o ih => intro K hq h; exact ⟨h.1,ih K hq h.2⟩
  | exi T p f ih => intro K hq ⟨x,h1,h2⟩; exact ⟨x,h1,ih x K (hq x) h2⟩
  | call f xs T g ih => intro K hq ⟨r,h1,h2⟩; exact ⟨r,h1,fun hr => ih r K (hq r) (h2 hr)⟩
  | fail m => intro K _ h; exact h.elim
  | val v => intro K hq h; exact ⟨h,hq⟩
  | new v b => intro K hq h; exact ⟨h,hq⟩
  | store i b => intro K hq h; exact ⟨h,hq⟩
  | append i j b => intro K hq h; exact ⟨h,hq⟩
  | hret i p b => intro K hq h; exact ⟨h,hq⟩
  | sealed ks v => intro K hq h; exact ⟨h,hq⟩
  | _ => intro K hq; exact hq.elim
theorem minMax_qt {mx:Bool} {k:IntKind}:∀ {ps:List PV} {x:Int},(minMax mx k x ps).qt
  | [],x => trivial
  | p :: r,x => by
    cases p with
    | iv T y =>
      cases T with
      | int l => simp only [minMax]; split <;> first | exact minMax_qt | trivial
      | _ => trivial
    | _ => trivial
theorem slots_qt {E:Env} {F:Reg} {s:St} {o:Oper} {rs:List Operand} (ho:slotReads o = some rs):(stepF E F s o).qt:=by
  obtain ⟨dst,op,ty,pos,af,g⟩:=o
  unfold slotReads at ho
  unfold stepF
  cases op <;> simp only [reduceCtorEq] at ho
  case move x => trivial
  case nilCheck x => dsimp only; split <;> trivial
  case assign x => trivial
  case pick c a b => dsimp only; repeat' split
                     all_goals first | trivial | (unfold pickO; split <;> trivial)
  case build u parts => simp only [buildO]; repeat' split
                        all_goals trivial
  case binOp op u x y v =>
    have hn:∀ a b,nilCmp E F op u a b = none:=by
      intro a b
      cases op <;> first | rfl | (simp only [reduceCtorEq] at ho; done)
    simp only [hn,binO]
    repeat' split
    all_goals first
      | trivial
      | (simp only [shiftInt,binInt,binStr,arith,boolV]; repeat' split
         all_goals trivial)
      | (simp only [binEq,boolV]; repeat' split
         all_goals trivial)
  case unOp u v x => dsimp only; repeat' split
                     all_goals first | trivial | (simp only [arith]; trivial)
  case fieldAddr u x f => dsimp only; repeat' split
                          all_goals trivial
  case field u x f => dsimp only; repeat' split
                      all_goals trivial
  case index u x i => dsimp only; repeat' split
                      all_goals first | trivial | (intro x; trivial)
  case extract x i => dsimp only; repeat' split
                      all_goals trivial
  case call c =>
    obtain ⟨callee,args,ats⟩:=c
    cases callee with
    | builtin b =>
      cases b <;> simp only [reduceCtorEq] at ho
      all_goals
        dsimp only
        repeat' split
        all_goals first | trivial | exact minMax_qt
    | _ => simp at ho
theorem load_qt {E:Env} {F:Reg} {bl:List (Nat × Blk)} {t:Nat} {p:PV}:(loadO E F bl t p).qt:=by
  simp only [loadO]
  repeat' split
  all_goals first | trivial | (intro x; trivial)
theorem index_qt {E:Env} {F:Reg} {bl:List (Nat × Blk)} {t:Nat} {p:PV} {i:Int}:(indexO E F bl t p i).qt:=by
  simp only [indexO]
  repeat' split
  all_goals first | trivial | (intro x; trivial)
theorem len_qt {E:Env} {F:Reg} {bl:List (Nat × Blk)} {t:Nat} {p:PV}:(lenO E F bl t p).qt:=by
  simp only [lenO,intV]
  repeat' split
  all_goals trivial
theorem conv_qt {E:Env} {F:Reg} {bl:List (Nat × Blk)} {t1 t:Nat} {p:PV}:(convO E F bl t1 t p).qt:=by
  simp only [convO]
  repeat' split
  all_goals trivial
theorem quiet_qt {E:Env} {F:Reg} {s:St} {o:Oper} (hq:quietK o = true):(stepF E F s o).qt:=by
  cases hs:slotReads o with
  | some rs => exact slots_qt hs
  | none =>
    unfold quietK at hq
    rw [hs] at hq
    simp only [Option.isSome_none,Bool.false_or] at hq
    obtain ⟨dst,op,ty,pos,af,g⟩:=o
    cases op <;> simp only [Bool.false_eq_true] at hq
    case load t x => unfold stepF; exact load_qt
    case convert t1 t x => unfold stepF; exact conv_qt
    case indexAddr t x i =>
      unfold stepF
      dsimp only
      split
      · exact index_qt
      · trivial
    case nilCheck x =>
      unfold stepF
      dsimp only
      split <;> trivial
    case call c =>
      obtain ⟨callee,args,ats⟩:=c
      cases callee with
      | builtin b =>
        cases b <;> simp only [Bool.false_eq_true] at hq
        unfold stepF
        dsimp only
        split
        · exact len_qt
        · trivial
      | _ => simp at hq
theorem qt_vals:∀ {o:Out},o.qt → o.lv isVal:=by
  intro o
  induction o with
  | need p o ih => exact ih
  | exi T p f ih => exact fun h x => ih x (h x)
  | val v => exact fun _ => trivial
  | fail m => exact fun _ => trivial
  | _ => exact fun h => h.elim
def tameL (s:St) (d:Option Nat) (l:Out):Prop:=isVal l ∨ ∃ v b e,l = .new v b ∧ d = some e ∧ look e s.bl = none
theorem vals_tame {s:St} {d:Option Nat}:∀ {o:Out},o.lv isVal → o.lv (tameL s d):=by
  intro o
  induction o with
  | need p o ih => exact ih
  | exi T p f ih => exact fun h x => ih x (h x)
  | call f xs T g ih => exact fun h r => ih r (h r)
  | val v => exact fun _ => .inl trivial
  | fail m => exact fun _ => trivial
  | _ => exact fun h => h.elim
theorem slice_lv {F:Reg} {bl:List (Nat × Blk)} {ar:Bool} {T:Ty} {p:PV} {lo hi:Option Int}:(sliceO F bl ar T p lo hi).lv isVal:=by
  simp only [sliceO]
  repeat' split
  all_goals trivial
theorem slice3_lv {T:Ty} {p:PV} {lo hi:Option Int} {m:Int}:(slice3O T p lo hi m).lv isVal:=by
  simp only [slice3O]
  repeat' split
  all_goals trivial
theorem slice_tame {E:Env} {F:Reg} {s:St} {d:Option Nat} {ty t:Nat} {x:Operand} {lo hi mx:Option Operand} {pos:String} {af:Array Edge} {g:Option (Nat × Bool)}:(stepF E F s ⟨d,.slice t x lo hi mx,ty,pos,af,g⟩).lv (tameL s d):=by
  refine vals_tame ?_
  unfold stepF
  dsimp only
  split
  · split
    · exact slice_lv
    · split
      · exact slice3_lv
      · trivial
  · trivial
theorem tame_lv {E:Env} {F:Reg} {s:St} {o:Oper} (ht:tameK E o = true):(stepF E F s o).lv (tameL s o.dst):=by
  cases hq:quietK o with
  | true => exact vals_tame (qt_vals (quiet_qt hq))
  | false =>
    unfold quietK at hq
    unfold tameK at ht
    simp only [Bool.or_eq_false_iff] at hq
    rw [hq.1] at ht
    simp only [Bool.false_or] at ht
    obtain ⟨dst,op,ty,pos,af,g⟩:=o
    cases op <;> simp only [Bool.false_eq_true] at ht
    case load t x => simp at hq
    case convert t1 t x => simp at hq
    case indexAddr t x i => simp at hq
    case nilCheck x => simp at hq
    case slice t x lo hi mx => exact slice_tame
    case alloc t =>
      unfold stepF
      dsimp only
      split
      · split
        · rename_i hl _
          exact .inr ⟨_,_,_,rfl,rfl,hl⟩
        · trivial
      · trivial
    case box t x =>
      unfold stepF
      dsimp only
      split
      · split
        · rename_i hl
          exact .inr ⟨_,_,_,rfl,rfl,hl⟩
        · trivial
      · trivial
    case buildSlice t n parts =>
      unfold stepF
      dsimp only
      split
      · split
        · split
          · unfold litP; exact .inl trivial
          · exact .inr ⟨_,_,_,rfl,rfl,by assumption⟩
        · trivial
      · trivial
    case call c =>
      obtain ⟨callee,args,ats⟩:=c
      cases callee with
      | builtin b =>
        cases b <;> simp at ht hq
        unfold stepF
        dsimp only
        split
        · rename_i d _ _
          have ht':E.ro (d + 1000) ty = true:=by simpa using ht
          split
          · split
            · split
              · exact .inr ⟨_,_,_,rfl,rfl,by assumption⟩
              · trivial
            · rw [ht']
              unfold appendC
              dsimp only
              split
              · split
                · exact .inr ⟨_,_,_,rfl,rfl,by assumption⟩
                · trivial
              · trivial
          · trivial
        · trivial
      | invoke r m => simp at ht
      | value g =>
        cases g with
        | func f =>
          simp only [flatF] at ht
          split at ht
          · rename_i As T hf
            simp only [Bool.and_eq_true,Bool.not_eq_true'] at ht
            unfold stepF
            simp only [St.ev,callO,hf,ht.1,ht.2]
            split
            · exact fun r => .inl trivial
            · trivial
          · cases ht
        | _ => simp at ht

theorem stepF_ops {E:Env} {F:Reg} {s t:St} {o:Oper} (ht:tameK E o = true) (h:∀ x,x ∈ o.op.operands.toList → s.ev x = t.ev x) (hb:s.bl = t.bl):stepF E F s o = stepF E F t o:=by
  obtain ⟨dst,op,ty,pos,af,g⟩:=o
  cases hs:slotReads ⟨dst,op,ty,pos,af,g⟩ with
  | some rs =>
    refine stepF_slots hs fun x hx => h x ?_
    unfold slotReads at hs
    cases op <;> simp only [Option.some.injEq,reduceCtorEq] at hs <;> first
      | (subst hs; simpa [Op.operands] using hx)
      | skip
    case binOp op u a b v => cases op <;> simp only [Option.some.injEq,reduceCtorEq] at hs <;> (subst hs; simpa [Op.operands] using hx)
    case call c =>
      obtain ⟨callee,args,ats⟩:=c
      cases callee with
      | builtin b => cases b <;> simp only [Option.some.injEq,reduceCtorEq] at hs <;> (subst hs; simpa [Op.operands,Call.operands] using hx)
      | _ => simp at hs
  | none =>
    unfold tameK at ht
    rw [hs] at ht
    simp only [Option.isSome_none,Bool.false_or] at ht
    cases op <;> simp only [Bool.false_eq_true] at ht
    case load t' x => unfold stepF; simp only [h x (by simp [Op.operands]),hb]
    case convert t1 t' x => unfold stepF; simp only [h x (by simp [Op.operands]),hb]
    case indexAddr t' x i => unfold stepF; simp only [h x (by simp [Op.operands]),h i (by simp [Op.operands]),hb]
    case nilCheck x => unfold stepF; simp only [h x (by simp [Op.operands])]
    case slice t' x lo hi mx =>
      have hb1:∀ y:Option Operand,(∀ z,y = some z → s.ev z = t.ev z) → bound s y = bound t y:=fun y hy => by
        cases y with
        | none => rfl
        | some z => simp only [bound,hy z rfl]
      have e1:=hb1 lo (fun z hz => h z (by subst hz; simp [Op.operands]))
      have e2:=hb1 hi (fun z hz => h z (by subst hz; simp [Op.operands]))
      have e3:∀ m,mx = some m → s.ev m = t.ev m:=fun m hm => h m (by subst hm; simp [Op.operands])
      unfold stepF
      simp only [h x (by simp [Op.operands]),hb,e1,e2]
      cases mx with
      | none => rfl
      | some m => simp only [e3 m rfl]
    case alloc t' => unfold stepF; simp only [hb]
    case box t' x => unfold stepF; simp only [h x (by simp [Op.operands]),hb]
    case buildSlice t' n parts =>
      have:=evParts_congr (s:=s) (t:=t) (xs:=parts.toList) fun x hx => h x (by simpa [Op.operands] using hx)
      unfold stepF; simp only [this,hb]
    case call c =>
      obtain ⟨callee,args,ats⟩:=c
      have hall:evAll s args.toList = evAll t args.toList:=evAll_congr fun x hx => h x (by simp [Op.operands,Call.operands]; exact .inr (Array.mem_toList_iff.1 hx))
      cases callee with
      | builtin b =>
        cases b <;> simp at ht
        all_goals (unfold stepF; simp only [hall,hb])
      | invoke r m => simp at ht
      | value g =>
        cases g with
        | func f =>
          have hco:∀ ps,callO E F s dst f ps = callO E F t dst f ps:=fun ps => by
            unfold callO hcallO hcall1 hcallS hcallX St.sealw
            simp only [hb]
          unfold stepF
          simp only [St.ev,hall,hco]
        | _ => simp at ht

theorem look_ext {d id:Nat} {b:Blk} {bl:List (Nat × Blk)} (hd:look d bl = none):look id ((d,b) :: bl) = look id bl ∨ look id bl = none:=by
  by_cases h:id = d
  · subst h; exact .inr hd
  · exact .inl (look_cons_ne _ _ h)
theorem lk_ext {d id:Nat} {b:Blk} {bl:List (Nat × Blk)} {F:Reg} (hd:look d bl = none):lk F ((d,b) :: bl) id = lk F bl id ∨ lk F bl id = none:=by
  unfold lk
  cases mem1 id F.h with
  | true => exact .inl rfl
  | false => exact look_ext hd
theorem asSl_ext {d:Nat} {b:Blk} {bl:List (Nat × Blk)} {F:Reg} (hd:look d bl = none) {t:Ty} (p:PV):asSl F ((d,b) :: bl) t p = asSl F bl t p ∨ asSl F bl t p = none:=by
  cases p with
  | lfull id => rcases lk_ext (F:=F) (b:=b) (id:=id) hd with h | h <;> unfold asSl <;> simp only [h] <;> first | exact .inl trivial | exact .inr trivial | simp
  | lsl id sz off len => rcases lk_ext (F:=F) (b:=b) (id:=id) hd with h | h <;> unfold asSl <;> simp only [h] <;> first | exact .inl trivial | exact .inr trivial | simp
  | _ => exact .inl rfl
theorem quiet_ext {E:Env} {F:Reg} {sl:List (Nat × PV)} {bl:List (Nat × Blk)} {d:Nat} {b:Blk} {o:Oper} (hq:quietK o = true) (hd:look d bl = none) {K:Out → Prop} (hk:OutK E (stepF E F ⟨sl,bl⟩ o) K):stepF E F ⟨sl,(d,b) :: bl⟩ o = stepF E F ⟨sl,bl⟩ o:=by
  have hev:∀ x,(⟨sl,(d,b) :: bl⟩:St).ev x = (⟨sl,bl⟩:St).ev x:=fun x => by cases x <;> rfl
  cases hs:slotReads o with
  | some rs => exact stepF_slots hs fun x _ => hev x
  | none =>
    unfold quietK at hq
    rw [hs] at hq
    simp only [Option.isSome_none,Bool.false_or] at hq
    obtain ⟨dst,op,ty,pos,af,g⟩:=o
    cases op <;> simp only [Bool.false_eq_true] at hq
    case load t x =>
      unfold stepF at hk ⊢
      simp only [hev] at hk ⊢
      generalize (⟨sl,bl⟩:St).ev x = p at hk ⊢
      unfold loadO at hk ⊢
      generalize E.ty t = oT at hk ⊢
      cases oT with
      | none => rfl
      | some T =>
        cases p with
        | ref id off => rcases lk_ext (F:=F) (b:=b) (id:=id) hd with h | h <;> simp only [h] at hk ⊢; exact hk.elim
        | lptr id sz i off => rcases lk_ext (F:=F) (b:=b) (id:=id) hd with h | h <;> simp only [h] at hk ⊢; exact hk.elim
        | aptr id base U m i => rcases lk_ext (F:=F) (b:=b) (id:=id) hd with h | h <;> simp only [h] at hk ⊢; exact hk.elim
        | _ => rfl
    case indexAddr t x i =>
      unfold stepF at hk ⊢
      simp only [hev] at hk ⊢
      generalize (⟨sl,bl⟩:St).ev x = p at hk ⊢
      split at hk
      · unfold indexO at hk ⊢
        cases p with
        | lfull id =>
          rcases lk_ext (F:=F) (b:=b) (id:=id) hd with h | h
          · simp only [h]
          · exfalso
            revert hk
            simp only [h]
            cases E.ty t with
            | none => exact fun hk => hk
            | some T => exact fun hk => hk
        | iv T xs => cases T <;> rfl
        | _ => rfl
      · exact hk.elim
    case convert t1 t x =>
      unfold stepF at hk ⊢
      simp only [hev] at hk ⊢
      generalize (⟨sl,bl⟩:St).ev x = p at hk ⊢
      unfold convO at hk ⊢
      generalize E.ty t1 = o1 at hk ⊢
      generalize E.ty t = o2 at hk ⊢
      cases o1 with
      | none => rfl
      | some T1 =>
        cases o2 with
        | none => cases T1 <;> first | rfl | (rename_i T1; cases T1 <;> rfl)
        | some T2 =>
          cases T1 with
          | sl U =>
            cases T2 with
            | str =>
              cases U with
              | int k =>
                rcases asSl_ext (F:=F) (b:=b) (t:=.int .u8) hd p with h | h
                · simp only [h]
                · exfalso
                  revert hk
                  simp only [h]
                  cases kindEq k .u8 <;> exact fun hk => hk
              | _ => rfl
            | _ => cases U <;> rfl
          | _ => cases T2 <;> rfl
    case nilCheck x => unfold stepF; simp only [hev]
    case call c =>
      obtain ⟨callee,args,ats⟩:=c
      cases callee with
      | builtin b' =>
        cases b' <;> simp only [Bool.false_eq_true] at hq
        have hall:∀ l,evAll (⟨sl,(d,b) :: bl⟩:St) l = evAll (⟨sl,bl⟩:St) l:=fun l => evAll_congr fun x _ => hev x
        unfold stepF at hk ⊢
        simp only [hall] at hk ⊢
        split at hk
        · rename_i p t _ _
          unfold lenO at hk ⊢
          generalize E.ty t = oT at hk ⊢
          cases oT with
          | none => rfl
          | some T =>
            cases T with
            | sl U =>
              cases p with
              | lfull id => rcases lk_ext (F:=F) (b:=b) (id:=id) hd with h | h <;> simp only [h] at hk ⊢; exact hk.elim
              | iv T' x => cases T' <;> rfl
              | _ => rfl
            | str => cases p with | iv T' x => cases T' <;> rfl | _ => rfl
            | mp K' V' =>
              cases p with
              | lmap id => rcases lk_ext (F:=F) (b:=b) (id:=id) hd with h | h <;> simp only [h] at hk ⊢; exact hk.elim
              | iv T' x => cases T' <;> rfl
              | _ => rfl
            | _ => rfl
        · exact hk.elim
      | _ => simp at hq

/-! ### Trees of orders -/
def stepT (E:Env) (G:Goal) (s:St) (o:Oper) (K:St → Prop):Prop:=OutK E (stepF E ⟨[],true⟩ s o) (fun l => K (s.fin o.dst l)) ∨ (canPan E G [] s o = true ∧ boomP E G s o)
def rdy (all:List Oper) (D:Nat → Bool) (i:Nat):Prop:=D i = false ∧ ∃ o,all[i]? = some o ∧ ∀ e,e ∈ o.after → bindsAny e = true → D e.on = true
def addD (D:Nat → Bool) (i:Nat):Nat → Bool:=fun k => D k || Nat.beq k i
theorem addD_comm (D:Nat → Bool) (i j:Nat):addD (addD D i) j = addD (addD D j) i:=by
  funext k
  simp only [addD,Bool.or_assoc]
  rw [Bool.or_comm (Nat.beq k i)]
theorem addD_self (D:Nat → Bool) (i:Nat):addD D i i = true:=by simp [addD]
theorem addD_ne {D:Nat → Bool} {i k:Nat} (h:k ≠ i):addD D i k = D k:=by simp only [addD,beq_ne' h,Bool.or_false]
theorem addD_of {D:Nat → Bool} {i k:Nat} (h:D k = true):addD D i k = true:=by simp only [addD,h,Bool.true_or]
def treeT (E:Env) (G:Goal) (all:List Oper) (K:St → Prop):Nat → (Nat → Bool) → St → Prop
  | 0,D,s => (∀ i,¬ rdy all D i) ∧ K s
  | f + 1,D,s => ((∀ i,¬ rdy all D i) → K s) ∧ ∀ i o,rdy all D i → all[i]? = some o → stepT E G s o (treeT E G all K f (addD D i))
theorem stepT_same {E:Env} {G:Goal} {s t:St} {o:Oper} {K K':St → Prop} (h:SameS s t) (hK:∀ s t,SameS s t → K s → K' t):stepT E G s o K → stepT E G t o K':=by
  unfold stepT
  rw [stepF_same h,can_same h]
  exact fun h' => h'.imp (fun h' => OutK_mono (fun l hl => hK _ _ (h.fin o.dst l) hl) _ h') (fun h' => ⟨h'.1,boom_same h h'.2⟩)
theorem treeT_same {E:Env} {G:Goal} {all:List Oper} {K:St → Prop} (hK:∀ s t,SameS s t → K s → K t):∀ (f:Nat) (D:Nat → Bool) (s t:St),SameS s t → treeT E G all K f D s → treeT E G all K f D t
  | 0,D,s,t,h,ht => ⟨ht.1,hK _ _ h ht.2⟩
  | f + 1,D,s,t,h,ht => ⟨fun hn => hK _ _ h (ht.1 hn),fun i o hi ho => stepT_same h (fun s t => treeT_same hK f _ s t) (ht.2 i o hi ho)⟩
theorem rdy_add {all:List Oper} {D:Nat → Bool} {i q:Nat} (h:rdy all D i) (hne:i ≠ q):rdy all (addD D q) i:=by
  obtain ⟨h1,o,h2,h3⟩:=h
  exact ⟨by rw [addD_ne hne]; exact h1,o,h2,fun e he hb => addD_of (h3 e he hb)⟩

structure FreeQ (E:Env) (all:List Oper) (P:List (List Nat)) (D:Nat → Bool) (q:Nat) (oq:Oper):Prop where
  free:∀ j o,all[j]? = some o → D j = false → j ≠ q → mem1 q (nthL P j) = false → tameK E o = true ∧ apartB oq o = true
theorem apart_spec {q j:Oper} (h:apartB q j = true):∃ d,q.dst = some d ∧ mem1 d (tmpsOf j.op.operands.toList) = false ∧ (∀ u,j.dst = some u → u ≠ d ∧ mem1 u (tmpsOf q.op.operands.toList) = false):=by
  unfold apartB at h
  simp only [Bool.and_eq_true] at h
  obtain ⟨h1,h2⟩:=h
  cases hq:q.dst with
  | none => rw [hq] at h1; cases h1
  | some d =>
    rw [hq] at h1
    simp only [Bool.and_eq_true,Bool.not_eq_true'] at h1
    refine ⟨d,rfl,h1.1,fun u hu => ?_⟩
    rw [hu] at h1 h2
    simp only [Bool.not_eq_true'] at h1 h2
    exact ⟨fun e => by subst e; simp at h1,h2⟩
theorem ev_put_off {s:St} {d:Nat} {v:PV} {l:List Operand} (h:mem1 d (tmpsOf l) = false):∀ x,x ∈ l → (s.set d v).ev x = s.ev x:=by
  intro x hx
  cases x with
  | tmp t =>
    have ht:=mem_tmpsOf hx
    refine get_set_ne s v ?_
    rintro rfl
    rw [h] at ht
    cases ht
  | _ => rfl
theorem boom_ops {E:Env} {G:Goal} {s t:St} {o:Oper} (ht:tameK E o = true) (hkp:∀ p,p ∈ keepG G → s.get p.1 = t.get p.1) (h:∀ x,x ∈ o.op.operands.toList → s.ev x = t.ev x) (hb:s.bl = t.bl):boomP E G s o → boomP E G t o:=by
  obtain ⟨dst,op,ty,pos,af,g⟩:=o
  have hret:∀ {s t:St},(∀ p,p ∈ keepG G → s.get p.1 = t.get p.1) → s.bl = t.bl → retX G s → retX G t:=fun {s t} hg hb hr => by
    have:∀ l,leBl s l → leBl t l:=fun l => by
      induction l with
      | nil => exact fun _ => trivial
      | cons p r ih => exact fun h => ⟨by have:=h.1; rw [hb] at this; exact this,ih h.2⟩
    refine ⟨hr.1,this _ hr.2.1,hr.2.2.1,?_⟩
    exact keepL_of fun p hp => by
      have h3:=keepL_at hr.2.2.2 p hp
      exact ⟨h3.1,by rw [← hg p hp]; exact h3.2⟩
  unfold boomP
  cases op with
  | panic x => simp [tameK,slotReads] at ht
  | call c =>
    obtain ⟨callee,args,ats⟩:=c
    cases callee with
    | value gg =>
      cases gg with
      | func f =>
        simp only [tameK,slotReads,Option.isSome_none,Bool.false_or,flatF] at ht
        split at ht
        · rename_i As T hf
          have hall:evAll s args.toList = evAll t args.toList:=evAll_congr fun x hx => h x (by simp [Op.operands,Call.operands]; exact .inr (Array.mem_toList_iff.1 hx))
          simp only [St.ev,hall,boomC,hf,hb]
          split
          · exact fun hx => ⟨hx.1,hret hkp hb hx.2⟩
          · exact id
        · cases ht
      | _ => simp [tameK,slotReads] at ht
    | _ => exact id
  | _ => exact id
theorem can_ops {E:Env} {G:Goal} {s t:St} {o:Oper} (ht:tameK E o = true) (h:∀ x,x ∈ o.op.operands.toList → s.ev x = t.ev x):canPan E G [] s o = canPan E G [] t o:=by
  obtain ⟨dst,op,ty,pos,af,g⟩:=o
  unfold canPan
  cases G.pan with
  | false => rfl
  | true =>
    cases op with
    | call c =>
      obtain ⟨callee,args,ats⟩:=c
      cases callee with
      | value gg => simp only [h gg (by simp [Op.operands,Call.operands])]
      | _ => rfl
    | _ => rfl

theorem quiet_tame {E:Env} {o:Oper} (h:quietK o = true):tameK E o = true:=by
  unfold quietK at h
  unfold tameK
  cases hs:(slotReads o).isSome with
  | true => simp
  | false =>
    rw [hs] at h
    simp only [Bool.false_or] at h ⊢
    obtain ⟨dst,op,ty,pos,af,g⟩:=o
    cases op <;> simp only [Bool.false_eq_true] at h <;> first | rfl | skip
    rename_i c
    obtain ⟨callee,args,ats⟩:=c
    cases callee with
    | builtin b => cases b <;> first | rfl | cases h
    | _ => cases h
theorem por {E:Env} {G:Goal} {all:List Oper} {K:St → Prop} (hK:∀ s t,SameS s t → K s → K t) {P:List (List Nat)} {q:Nat} {oq:Oper} {dq:Nat} {v:PV} (hkq:∀ p,p ∈ keepG G → p.1 ≠ dq) (hoq:all[q]? = some oq) (hdq:oq.dst = some dq) (hquiet:quietK oq = true)
    (hpre:∀ i o j,all[i]? = some o → mem1 j (nthL P i) = true → ∃ e,e ∈ o.after ∧ bindsAny e = true ∧ (e.on = j ∨ mem1 j (nthL P e.on) = true)) :
    ∀ (f:Nat) (D:Nat → Bool) (s:St),rdy all D q → (∀ k,D k = true → ∀ j,mem1 j (nthL P k) = true → D j = true) → FreeQ E all P D q oq → OutK E (stepF E ⟨[],true⟩ s oq) (fun l => l = .val v) → treeT E G all K f (addD D q) (s.set dq v) → treeT E G all K (f + 1) D s:=by
  have first:∀ (f:Nat) (D:Nat → Bool) (s:St),OutK E (stepF E ⟨[],true⟩ s oq) (fun l => l = .val v) → treeT E G all K f (addD D q) (s.set dq v) → stepT E G s oq (treeT E G all K f (addD D q)):=fun f D s hv h =>
    .inl (OutK_mono (fun l hl => by rw [hl,hdq]; exact h) _ hv)
  intro f
  induction f with
  | zero =>
    intro D s hr hcl hfr hv h
    refine ⟨fun hn => absurd hr (hn q),fun i o hi ho => ?_⟩
    by_cases hiq:i = q
    · subst hiq
      rw [hoq] at ho
      injection ho with ho
      subst ho
      exact first 0 D s hv h
    · exact absurd (rdy_add hi hiq) (h.1 i)
  | succ f ih =>
    intro D s hr hcl hfr hv h
    refine ⟨fun hn => absurd hr (hn q),fun i o hi ho => ?_⟩
    by_cases hiq:i = q
    · subst hiq
      rw [hoq] at ho
      injection ho with ho
      subst ho
      exact first (f + 1) D s hv h
    · obtain ⟨hDi,o',ho',hed⟩:=hi
      rw [ho] at ho'
      injection ho' with ho'
      subst ho'
      have hpi:∀ j,mem1 j (nthL P i) = true → D j = true:=fun j hj => by
        obtain ⟨e,he,hb,h1⟩:=hpre i o j ho hj
        have hd:=hed e he hb
        rcases h1 with h1 | h1
        · rw [← h1]; exact hd
        · exact hcl _ hd j h1
      have hnq:mem1 q (nthL P i) = false:=by
        cases hm:mem1 q (nthL P i) with
        | false => rfl
        | true => have:=hpi q hm; rw [hr.1] at this; cases this
      obtain ⟨htm,hap⟩:=hfr.free i o ho hDi hiq hnq
      obtain ⟨d,hd,hoff,hju⟩:=apart_spec hap
      rw [hdq] at hd
      injection hd with hd
      subst hd
      have hev:∀ x,x ∈ o.op.operands.toList → (s.set dq v).ev x = s.ev x:=ev_put_off hoff
      have hst:=h.2 i o (rdy_add ⟨hDi,o,ho,hed⟩ hiq) ho
      unfold stepT at hst ⊢
      rw [stepF_ops htm hev rfl,can_ops htm hev] at hst
      rcases hst with hst | ⟨h1,h2⟩
      · refine .inl (OutK_mono (fun l hl => ?_) _ (OutK_lv _ _ (tame_lv (F:=⟨[],true⟩) (s:=s) htm) hst))
        obtain ⟨hl,hk⟩:=hl
        have hclo:∀ k,addD D i k = true → ∀ j,mem1 j (nthL P k) = true → addD D i j = true:=fun k hk' j hj => by
          by_cases hki:k = i
          · subst hki; exact addD_of (hpi j hj)
          · rw [addD_ne hki] at hk'; exact addD_of (hcl k hk' j hj)
        have hfr':FreeQ E all P (addD D i) q oq:=⟨fun j oj hj hDj hjq hjn => hfr.free j oj hj (by cases hD:D j with | false => rfl | true => rw [addD_of hD] at hDj; cases hDj) hjq hjn⟩
        have hr':rdy all (addD D i) q:=rdy_add hr (fun e => hiq e.symm)
        rcases hk with hk | ⟨v',b,e,rfl,hoe,hlk⟩
        · cases l with
          | val v' =>
            cases hdst:o.dst with
            | none =>
              rw [hdst] at hl
              refine ih (addD D i) s hr' hclo hfr' hv ?_
              rw [addD_comm]; exact hl
            | some u =>
              obtain ⟨hud,huq⟩:=hju u hdst
              rw [hdst] at hl
              refine ih (addD D i) (s.set u v') hr' hclo hfr' ?_ ?_
              · rw [stepF_ops (E:=E) (t:=s) (quiet_tame hquiet) (ev_put_off huq) rfl]
                exact hv
              · rw [addD_comm]
                refine treeT_same hK f _ ((s.set dq v).set u v') _ ⟨fun t => ?_,rfl⟩ hl
                by_cases h1:t = u
                · subst h1
                  rw [get_set_self,get_set_ne _ _ hud,get_set_self]
                · rw [get_set_ne _ _ h1]
                  by_cases h2:t = dq
                  · subst h2; rw [get_set_self,get_set_self]
                  · rw [get_set_ne _ _ h2,get_set_ne _ _ h2,get_set_ne _ _ h1]
          | _ => exact hk.elim
        · obtain ⟨hud,huq⟩:=hju e hoe
          rw [hoe] at hl
          rw [hoe]
          show treeT E G all K (f + 1) (addD D i) ⟨(e,v') :: s.sl,(e,b) :: s.bl⟩
          have hv2:OutK E (stepF E ⟨[],true⟩ ⟨(e,v') :: s.sl,(e,b) :: s.bl⟩ oq) (fun l => l = .val v):=by
            have h1:OutK E (stepF E ⟨[],true⟩ ⟨(e,v') :: s.sl,s.bl⟩ oq) (fun l => l = .val v):=by
              have:stepF E ⟨[],true⟩ (s.set e v') oq = stepF E ⟨[],true⟩ s oq:=stepF_ops (E:=E) (t:=s) (quiet_tame hquiet) (ev_put_off huq) rfl
              show OutK E (stepF E ⟨[],true⟩ (s.set e v') oq) _
              rw [this]; exact hv
            rw [quiet_ext hquiet hlk h1]
            exact h1
          refine ih (addD D i) ⟨(e,v') :: s.sl,(e,b) :: s.bl⟩ hr' hclo hfr' hv2 ?_
          rw [addD_comm]
          refine treeT_same hK f _ ⟨(e,v') :: (s.set dq v).sl,(e,b) :: s.bl⟩ _ ⟨fun t => ?_,rfl⟩ hl
          show (((⟨(e,v') :: (s.set dq v).sl,(e,b) :: s.bl⟩:St)).get t) = ((⟨(dq,v) :: (e,v') :: s.sl,(e,b) :: s.bl⟩:St)).get t
          unfold St.get St.set
          simp only [look]
          by_cases h1:t = e
          · subst h1
            have:Nat.beq t dq = false:=beq_ne' hud
            simp [this]
          · have h1':Nat.beq t e = false:=beq_ne' h1
            simp [h1']
      · exact .inr ⟨h1,boom_ops htm (fun p hp => get_set_ne s v (hkq p hp)) hev rfl h2⟩

/-! ### The check -/
theorem mem_all_at {P:List (List Nat)}:∀ {os:List Oper} {i:Nat},preB P i os = true → ∀ (k:Nat) (o:Oper),os[k]? = some o → o.guard = none ∧ ∀ j,mem1 j (nthL P (i + k)) = true → ∃ e,e ∈ o.after ∧ bindsAny e = true ∧ (e.on = j ∨ mem1 j (nthL P e.on) = true)
  | [],i,_,k,o,ho => by simp at ho
  | x :: os,i,h,k,o,ho => by
    simp only [preB,Bool.and_eq_true] at h
    obtain ⟨⟨h1,h2⟩,h3⟩:=h
    cases k with
    | zero =>
      simp only [List.getElem?_cons_zero,Option.some.injEq] at ho
      subst ho
      refine ⟨by simpa using h2,fun j hj => ?_⟩
      rw [List.all_eq_true] at h1
      have:=h1 j (mem1_iff.1 hj)
      rw [List.any_eq_true] at this
      obtain ⟨e,he,hh⟩:=this
      simp only [Bool.and_eq_true,Bool.or_eq_true] at hh
      exact ⟨e,by simpa using he,hh.1,hh.2.imp (fun h => Nat.eq_of_beq_eq_true h) id⟩
    | succ k =>
      rw [List.getElem?_cons_succ] at ho
      have:=mem_all_at h3 k o ho
      rw [show i + 1 + k = i + (k + 1) from by omega] at this
      exact this
theorem freeB_at {E:Env} {P:List (List Nat)} {D:List Nat} {q:Nat} {oq:Oper}:∀ {os:List Oper} {i:Nat},freeB E P D q oq i os = true → ∀ (k:Nat) (o:Oper),os[k]? = some o → mem1 (i + k) D = true ∨ i + k = q ∨ mem1 q (nthL P (i + k)) = true ∨ (tameK E o = true ∧ apartB oq o = true)
  | [],i,_,k,o,ho => by simp at ho
  | x :: os,i,h,k,o,ho => by
    simp only [freeB,Bool.and_eq_true] at h
    cases k with
    | zero =>
      simp only [List.getElem?_cons_zero,Option.some.injEq] at ho
      subst ho
      have:=h.1
      simp only [Bool.or_eq_true,Bool.and_eq_true] at this
      rcases this with ((h1 | h1) | h1) | h1
      · exact .inl h1
      · exact .inr (.inl (Nat.eq_of_beq_eq_true h1))
      · exact .inr (.inr (.inl h1))
      · exact .inr (.inr (.inr h1))
    | succ k =>
      rw [List.getElem?_cons_succ] at ho
      have:=freeB_at h.2 k o ho
      rw [show i + 1 + k = i + (k + 1) from by omega] at this
      exact this
theorem onlyB_at {D hs:List Nat}:∀ {os:List Oper} {i:Nat},onlyB D hs i os = true → ∀ (k:Nat) (o:Oper),os[k]? = some o → mem1 (i + k) D = true ∨ readyB D o = false ∨ mem1 (i + k) hs = true
  | [],i,_,k,o,ho => by simp at ho
  | x :: os,i,h,k,o,ho => by
    simp only [onlyB,Bool.and_eq_true] at h
    cases k with
    | zero =>
      simp only [List.getElem?_cons_zero,Option.some.injEq] at ho
      subst ho
      have:=h.1
      simp only [Bool.or_eq_true,Bool.not_eq_true'] at this
      rcases this with (h1 | h1) | h1
      · exact .inl h1
      · exact .inr (.inl h1)
      · exact .inr (.inr h1)
    | succ k =>
      rw [List.getElem?_cons_succ] at ho
      have:=onlyB_at h.2 k o ho
      rw [show i + 1 + k = i + (k + 1) from by omega] at this
      exact this
theorem readyB_iff {D:List Nat} {o:Oper}:readyB D o = true ↔ ∀ e,e ∈ o.after → bindsAny e = true → mem1 e.on D = true:=by
  unfold readyB
  rw [List.all_eq_true]
  constructor
  · intro h e he hb
    have:=h e (by simpa using he)
    rw [hb] at this
    simpa using this
  · intro h e he
    cases hb:bindsAny e with
    | false => rfl
    | true => simp [h e (by simpa using he) hb]
theorem rdy_ready {all:List Oper} {D:List Nat} {i:Nat} (h:rdy all (fun k => mem1 k D) i):∃ o,all[i]? = some o ∧ readyB D o = true ∧ mem1 i D = false:=by
  obtain ⟨h1,o,h2,h3⟩:=h
  exact ⟨o,h2,readyB_iff.2 h3,h1⟩
theorem addD_list (D:List Nat) (i:Nat):addD (fun k => mem1 k D) i = fun k => mem1 k (i :: D):=by
  funext k
  simp only [addD,mem1]
  cases h:Nat.beq k i with
  | true => simp
  | false => simp
theorem runs_one {E:Env} {G:Goal} {all:List Oper} {o:Oper} {s:St} {K:St → Prop} (hg:o.guard = none) (h:runs E G all [] [] [o] s K):stepT E G s o K:=by
  unfold runs at h
  rw [hg] at h
  exact h.imp (fun h => OutK_mono (fun l hl => by unfold runs at hl; exact hl) _ h) id
theorem quiet_can {E:Env} {G:Goal} {s:St} {o:Oper} (h:quietK o = true):canPan E G [] s o = false:=by
  obtain ⟨dst,op,ty,pos,af,g⟩:=o
  unfold canPan
  cases G.pan with
  | false => rfl
  | true =>
    cases op <;> first | rfl | (simp [quietK,slotReads] at h; done) | skip
    rename_i c
    obtain ⟨callee,args,ats⟩:=c
    cases callee with
    | value g => simp [quietK,slotReads] at h
    | _ => rfl
theorem off_dst {G:Goal} {p:Nat × Nat} (hp:p ∈ keepG G):∀ {all:List Oper},keepOff G all = true → ∀ {i:Nat} {o:Oper} {d:Nat},all[i]? = some o → o.dst = some d → p.1 ≠ d:=by
  intro all h
  replace h:=offL_at h p hp
  induction all with
  | nil => intro i o d ho; simp at ho
  | cons x r ih =>
    intro i o d ho hd
    simp only [offB,Bool.and_eq_true] at h
    cases i with
    | zero =>
      simp only [List.getElem?_cons_zero,Option.some.injEq] at ho
      subst ho
      have h1:=h.1
      rw [hd] at h1
      rintro rfl
      simp at h1
    | succ i => exact ih h.2 (by simpa using ho) hd
theorem covers_tree {E:Env} {G:Goal} {all:List Oper} {K:St → Prop} (hoff:keepOff G all = true) (hK:∀ s t,SameS s t → K s → K t) {P:List (List Nat)} (hP:preB P 0 all = true) :
    ∀ (f:Nat) (D:List Nat) (orders:List (List Nat)) (m:Nat) (s:St),coversB E all P f D orders = true → D.Nodup → (∀ x,x ∈ D → x < all.length) → (∀ k,mem1 k D = true → ∀ j,mem1 j (nthL P k) = true → mem1 j D = true) → tailR E G all m orders s K →
      treeT E G all K (all.length - D.length) (fun k => mem1 k D) s:=by
  have hpre:∀ i o j,all[i]? = some o → mem1 j (nthL P i) = true → ∃ e,e ∈ o.after ∧ bindsAny e = true ∧ (e.on = j ∨ mem1 j (nthL P e.on) = true):=fun i o j ho hj => by
    have:=(mem_all_at hP i o ho).2 j
    rw [Nat.zero_add] at this
    exact this hj
  have hguard:∀ (i:Nat) (o:Oper),all[i]? = some o → o.guard = none:=fun i o ho => (mem_all_at hP i o ho).1
  intro f
  induction f with
  | zero => intro D orders m s h; simp [coversB] at h
  | succ f ih =>
    intro D orders m s h hnd hlt hcl ht
    unfold coversB at h
    cases m with
    | zero => exact ht.elim
    | succ m =>
      unfold tailR at ht
      split at h
      · rename_i he
        rw [he] at ht
        simp only [Bool.and_eq_true] at h
        obtain ⟨h1,h2⟩:=h
        have hall:∀ j,j < all.length → mem1 j D = true:=fun j hj => by
          rw [List.all_eq_true] at h2
          exact h2 j (List.mem_range.2 hj)
        have hle:=cover_le all.length D fun x hx => mem1_iff.1 (hall x hx)
        rw [show all.length - D.length = 0 from by omega]
        refine ⟨fun i hi => ?_,ht⟩
        obtain ⟨o,ho,_,hD⟩:=rdy_ready hi
        have:=hall i (List.getElem?_eq_some_iff.1 ho).1
        rw [this] at hD
        cases hD
      · rename_i x hs he
        rw [he] at ht
        rw [Bool.and_eq_true] at h
        obtain ⟨h1,h2⟩:=h
        have each:∀ i,i ∈ x :: hs → ∃ o,all[i]? = some o ∧ mem1 i D = false ∧ readyB D o = true ∧ coversB E all P f (i :: D) (tailsOf i orders) = true:=fun i hi => by
          rw [List.all_eq_true] at h2
          have:=h2 i hi
          rw [nthO_eq] at this
          cases ho:all[i]? with
          | none => rw [ho] at this; simp at this
          | some o =>
            rw [ho] at this
            simp only [Bool.and_eq_true,Bool.not_eq_true'] at this
            exact ⟨o,rfl,this.1.1,this.1.2,this.2⟩
        obtain ⟨ox,hox,hxD,hxr,hxc⟩:=each x (List.mem_cons_self ..)
        have hxl:=(List.getElem?_eq_some_iff.1 hox).1
        have hlen:D.length < all.length:=by
          have:=nodup_le all.length (x :: D) (List.nodup_cons.2 ⟨fun hm => (by rw [mem1_iff.2 hm] at hxD; cases hxD),hnd⟩) (fun y hy => by
            rcases List.mem_cons.1 hy with rfl | hy
            · exact hxl
            · exact hlt y hy)
          simp only [List.length_cons] at this
          omega
        have hsub:∀ i,i ∈ x :: hs → all.length - D.length = (all.length - (i :: D).length) + 1:=fun i _ => by simp only [List.length_cons]; omega
        have next:∀ i o,i ∈ x :: hs → all[i]? = some o → ∀ s',tailR E G all m (tailsOf i orders) s' K → treeT E G all K (all.length - (i :: D).length) (addD (fun k => mem1 k D) i) s':=fun i o hi ho s' hs' => by
          obtain ⟨o',ho',hiD,hir,hic⟩:=each i hi
          rw [ho] at ho'
          injection ho' with ho'
          subst ho'
          rw [addD_list]
          refine ih (i :: D) _ m s' hic (List.nodup_cons.2 ⟨fun hm => (by rw [mem1_iff.2 hm] at hiD; cases hiD),hnd⟩) (fun y hy => ?_) (fun k hk j hj => ?_) hs'
          · rcases List.mem_cons.1 hy with rfl | hy
            · exact (List.getElem?_eq_some_iff.1 ho).1
            · exact hlt y hy
          · have up:∀ j,mem1 j D = true → mem1 j (i :: D) = true:=fun j hj => by
              rw [mem1_iff] at hj ⊢; exact List.mem_cons_of_mem _ hj
            rw [mem1_iff] at hk
            rcases List.mem_cons.1 hk with rfl | hk
            · obtain ⟨e,he,hb,h1⟩:=hpre _ _ j ho hj
              have hd:=readyB_iff.1 hir e he hb
              rcases h1 with h1 | h1
              · rw [← h1]; exact up _ hd
              · exact up _ (hcl _ hd j h1)
            · exact up _ (hcl k (mem1_iff.2 hk) j hj)
        have hrx:rdy all (fun k => mem1 k D) x:=⟨hxD,ox,hox,readyB_iff.1 hxr⟩
        have stp:∀ i,i ∈ x :: hs → ∀ o,all[i]? = some o → stepT E G s o (fun s' => tailR E G all m (tailsOf i orders) s' K):=fun i hi o ho => by
          obtain ⟨o',ho',hr⟩:=ht i hi
          rw [nthO_eq,ho] at ho'
          injection ho' with ho'
          subst ho'
          exact runs_one (hguard i o ho) hr
        have branch:onlyB D (x :: hs) 0 all = true → treeT E G all K (all.length - D.length) (fun k => mem1 k D) s:=fun hon => by
          rw [hsub x (List.mem_cons_self ..)]
          refine ⟨fun hn => absurd hrx (hn x),fun i o hi ho => ?_⟩
          obtain ⟨o',ho',hir,hiD⟩:=rdy_ready hi
          rw [ho] at ho'
          injection ho' with ho'
          subst ho'
          have hih:i ∈ x :: hs:=by
            have:=onlyB_at hon i o ho
            rw [Nat.zero_add] at this
            rcases this with h | h | h
            · rw [hiD] at h; cases h
            · rw [hir] at h; cases h
            · exact mem1_iff.1 h
          have:=stp i hih o ho
          rw [show all.length - (x :: D).length = all.length - (i :: D).length from rfl]
          exact this.imp (fun h => OutK_mono (fun l hl => next i o hih ho _ hl) _ h) id
        cases hs with
        | cons y ys => exact branch h1
        | nil =>
          rw [nthO_eq,hox] at h1
          simp only [Bool.or_eq_true,Bool.and_eq_true] at h1
          rcases h1 with h1 | h1
          · obtain ⟨⟨hq,hd⟩,hfr⟩:=h1
            obtain ⟨dq,hdq⟩:=Option.isSome_iff_exists.1 hd
            have:=stp x (List.mem_cons_self ..) ox hox
            rcases this with h | ⟨h,_⟩
            · obtain ⟨v,hv,hk⟩:=OutK_pick _ _ (quiet_qt hq) h
              rw [hsub x (List.mem_cons_self ..)]
              refine por hK (fun p hp => off_dst hp hoff hox hdq) hox hdq hq hpre _ _ s hrx hcl ⟨fun j o ho hjD hjx hjn => ?_⟩ hv ?_
              · have:=freeB_at hfr j o ho
                rw [Nat.zero_add] at this
                rcases this with h | h | h | h
                · rw [hjD] at h; cases h
                · exact absurd h hjx
                · rw [hjn] at h; cases h
                · exact h
              · have:=next x ox (List.mem_cons_self ..) hox _ hk
                rw [hdq] at this
                exact this
            · rw [quiet_can hq] at h; cases h
          · exact branch h1

theorem tree_any {E:Env} (hE:EnvOK E) {G:Goal} {w0:World} {S0:Cx} {all:List Oper} {K:St → Prop} (hall:all.all (opOK G.n) = true) (hguard:∀ (i:Nat) (o:Oper),all[i]? = some o → o.guard = none) :
    ∀ (f:Nat) (D:Nat → Bool) (listed:Array Bool) (s:St) (a:Act) (w:World),listed.size = all.length → (∀ k,k < all.length → listed.getD k true = D k ∧ listed.getD k false = D k) → (∀ k,all.length ≤ k → D k = false) → treeT E G all K f D s → Rel G.n w0 S0 s a w →
      wpAny E.P .any all.toArray (RegQ G w0 S0 K) f listed a w:=by
  have rd:∀ (D:Nat → Bool) (listed:Array Bool),listed.size = all.length → (∀ k,k < all.length → listed.getD k true = D k ∧ listed.getD k false = D k) → (∀ k,all.length ≤ k → D k = false) → ∀ i,i ∈ Region.ready .any all.toArray listed ↔ rdy all D i:=by
    intro D listed hsz hl hout i
    rw [mem_ready]
    constructor
    · rintro ⟨h1,o,h2,h3⟩
      have ho:all[i]? = some o:=by simpa using h2
      have hi:=(List.getElem?_eq_some_iff.1 ho).1
      refine ⟨by rw [← (hl i hi).1]; exact h1,o,ho,fun e he hb => ?_⟩
      have:=h3 e he (by rw [binds_any]; exact hb)
      rcases Nat.lt_or_ge e.on all.length with h | h
      · rw [← (hl _ h).2]; exact this
      · rw [Array.getD_eq_getD_getElem?,Array.getElem?_eq_none (by omega)] at this
        cases this
    · rintro ⟨h1,o,ho,h3⟩
      have hi:=(List.getElem?_eq_some_iff.1 ho).1
      refine ⟨by rw [(hl i hi).1]; exact h1,o,by simpa using ho,fun e he hb => ?_⟩
      have:=h3 e he (by rw [← binds_any]; exact hb)
      rcases Nat.lt_or_ge e.on all.length with h | h
      · rw [(hl _ h).2]; exact this
      · rw [hout _ h] at this; cases this
  intro f
  induction f with
  | zero =>
    intro D listed s a w hsz hl hout ht hr
    refine ⟨?_,s,ht.2,hr⟩
    rw [List.eq_nil_iff_forall_not_mem]
    exact fun i hi => ht.1 i ((rd D listed hsz hl hout i).1 hi)
  | succ f ih =>
    intro D listed s a w hsz hl hout ht hr
    refine ⟨fun hrd => ⟨s,ht.1 fun i hi => ?_,hr⟩,fun i hi => ?_⟩
    · have:=(rd D listed hsz hl hout i).2 hi
      rw [hrd] at this
      cases this
    · have hri:=(rd D listed hsz hl hout i).1 hi
      obtain ⟨hDi,o,ho,hed⟩:=hri
      have hi:=(List.getElem?_eq_some_iff.1 ho).1
      have hst:=ht.2 i o ⟨hDi,o,ho,hed⟩ ho
      have hopOK:opOK G.n o = true:=by
        rw [List.all_eq_true] at hall
        exact hall o (List.mem_of_getElem? ho)
      have next:∀ a' w',(∃ s',treeT E G all K f (addD D i) s' ∧ Rel G.n w0 S0 s' a' w') → wpAny E.P .any all.toArray (RegQ G w0 S0 K) f (listed.setIfInBounds i true) a' w':=by
        rintro a' w' ⟨s',h1,h2⟩
        refine ih (addD D i) _ s' a' w' (by rw [Array.size_setIfInBounds]; exact hsz) (fun k hk => ?_) (fun k hk => ?_) h1 h2
        · by_cases hki:k = i
          · subst hki
            have:k < listed.size:=by omega
            rw [addD_self]
            simp [Array.getD_eq_getD_getElem?,this]
          · rw [addD_ne hki,getD_set_ne true (fun e => hki e.symm),getD_set_ne false (fun e => hki e.symm)]
            exact hl k hk
        · have:k ≠ i:=by omega
          rw [addD_ne this]; exact hout k hk
      unfold wpOp
      rw [show all.toArray[i]? = some o from by simpa using ho]
      simp only
      have hw:Region.wanted o (yielded all.toArray a.tmps) = true:=by simp [Region.wanted,hguard i o ho]
      rw [if_pos hw]
      refine .inl ?_
      rcases hst with hst | ⟨_,hst⟩
      · obtain ⟨ν,S,hf⟩:=hr.full
        have:=op_sound (Q:=RegQ G w0 S0 K) (K:=treeT E G all K f (addD D i)) hE hf hopOK hst
        exact Oper.wp_mono next this
      · exact boom_sound hE hopOK hr hst (fun ch w' h => h)
theorem ord_sound {E:Env} (hE:EnvOK E):OrdSound E (ordB2 E):=by
  intro G w0 S0 all orders f K s a w hdr hoff hall ht hrel hK
  unfold ordB2 at hdr
  simp only [Bool.and_eq_true] at hdr
  obtain ⟨hP,hC⟩:=hdr
  have hK':∀ s t,SameS s t → K s → K t:=fun s t h => hK s t h.get h.bl
  have htree:=covers_tree (G:=G) hoff hK' hP (all.length + 1) [] orders f s hC List.nodup_nil (fun x hx => by cases hx) (fun k hk => by cases hk) ht
  have hguard:∀ (i:Nat) (o:Oper),all[i]? = some o → o.guard = none:=fun i o ho => (mem_all_at hP i o ho).1
  obtain ⟨ν,S,hf⟩:=hrel.full
  rw [show all.toArray.size = all.length from by simp]
  refine tree_any hE hall hguard all.length (fun k => mem1 k []) _ s a _ (by simp) (fun k hk => ?_) (fun _ _ => rfl) htree hf.drew.rel
  simp [Array.getD_eq_getD_getElem?,hk,mem1]
end Go.Proofs.Ytefpgfdemmllpaa
