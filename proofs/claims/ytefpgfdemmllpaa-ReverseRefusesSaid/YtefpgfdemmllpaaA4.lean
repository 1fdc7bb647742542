/-
  All operations together; the walk over a function's code as a computed proposition,and that it is sound. Nothing here is trusted; no condition.
-/
import Derived.Test.YtefpgfdemmllpaaA3
set_option linter.unusedSimpArgs false
set_option linter.unusedVariables false
namespace Go.Proofs.Ytefpgfdemmllpaa
open Go.RowKit

theorem RepR_ok {T:Ty} {x:T.den} {w:World} {M:Mem} {v:Value} (h:RepR T x w M v):T.ok x:=by
  have hV:∀ (T:Ty) (x:T.den) (v:Value),RepV T x w M v → T.ok x:=by
    intro T x v h
    cases T with
    | unit => trivial
    | pair a b => exact h.elim
    | tup a b => exact h.elim
    | st t => obtain ⟨vs,rfl,h⟩:=h; exact RepC_ok t x _ _ _ h
    | int k => exact RepC_ok (.int k) x w M [v] h
    | bool => trivial
    | str => exact RepC_ok .str x w M [v] h
    | sl t => exact RepC_ok (.sl t) x w M [v] h
    | own t => exact RepC_ok (.own t) x w M [v] h
    | ptr t => exact RepC_ok (.ptr t) x w M [v] h
    | clo f t => exact RepC_ok (.clo f t) x w M [v] h
    | mp a b => exact RepC_ok (.mp a b) x w M [v] h
    | fnv => trivial
  have hT:∀ (T:Ty) (x:T.den) (vs:List Value),RepT T x w M vs → T.ok x:=by
    intro T
    induction T with
    | tup a b iha ihb =>
      intro x vs h
      obtain ⟨v,r,rfl,h1,h2⟩:=h
      exact ⟨hV a _ _ h1,ihb _ _ h2⟩
    | _ => intro x vs h; obtain ⟨v,rfl,h1⟩:=h; exact hV _ x v h1
  cases T
  case tup a b => obtain ⟨vs,rfl,h⟩:=h; exact hT _ x vs h
  all_goals exact hV _ x v h

theorem below_grown {w w':World} (h:Below w.heap.size w w' ∧ (drF → w.drawn ≤ w'.drawn)):GrownD w w' none:=⟨h.1.os,h.1.tape,h.1.output,h.1.size,fun k hk _ => h.1.block k hk,h.2⟩

theorem fn_owns {P : Program} {f : Nat} {As : List Ty} (h : fnOK P f As = true) : (∃ fn, P.funcs[f]? = some fn ∧ fn.body.isSome = true ∧ fn.name ≠ "runtime.NumGoroutine") ∧ ∀ T, T ∈ As → owns T = 0 := by
  simp only [fnOK,Bool.and_eq_true] at h
  obtain ⟨h1,h2⟩:=h
  constructor
  · split at h1
    · rename_i fn hfn
      simp only [Bool.and_eq_true,Bool.not_eq_true',beq_eq_false_iff_ne] at h1
      exact ⟨fn,hfn,h1.1,h1.2⟩
    · cases h1
  · intro T hT
    rw [List.all_eq_true] at h2
    exact Nat.eq_of_beq_eq_true (h2 T hT)

theorem mem_lastN {T:Ty}:∀ {l:List Ty} {n:Nat},T ∈ lastN l n → T ∈ l
  | [],n,h => h
  | U :: r,n,h => by
    simp only [lastN] at h
    split at h
    · exact h
    · exact List.mem_cons_of_mem _ (mem_lastN h)
theorem chain_owns:∀ {l:List Ty},(∀ T,T ∈ l → owns T = 0) → owns (chainT l) = 0
  | [],_ => rfl
  | [T],h => h T (List.mem_cons_self ..)
  | T :: U :: r,h => by
    simp only [chainT,owns]
    rw [h T (List.mem_cons_self ..),chain_owns (l:=U :: r) (fun X hX => h X (List.mem_cons_of_mem _ hX))]

mutual
theorem ren_id:∀ (p:PV),PV.ren (fun i => i) p = p
  | .iv _ _ => rfl | .ref _ _ => rfl | .eptr _ _ _ => rfl | .lfull _ => rfl | .lsl _ _ _ _ => rfl | .lptr _ _ _ _ => rfl | .lmap _ => rfl | .nilsl => rfl | .nilptr => rfl | .clip _ _ => rfl | .aptr _ _ _ _ _ => rfl | .any => rfl
  | .agg cs => by simp only [PV.ren,renL_id cs]
  | .tup cs => by simp only [PV.ren,renL_id cs]
  | .fn f cs => by simp only [PV.ren,renL_id cs]
  | .bnd f cs => by simp only [PV.ren,renL_id cs]
  | .ifc f cs => by simp only [PV.ren,renL_id cs]
theorem renL_id:∀ (ps:List PV),PV.renL (fun i => i) ps = ps
  | [] => rfl
  | p :: ps => by simp only [PV.renL,ren_id p,renL_id ps]
end

mutual
theorem pseal_nil {bl:List (Nat × Blk)}:∀ (p:PV),PV.sealw [] bl p = p
  | .iv _ _ => rfl | .ref _ _ => rfl | .eptr _ _ _ => rfl | .lfull _ => rfl | .lsl _ _ _ _ => rfl | .lptr _ _ _ _ => rfl | .lmap _ => rfl | .nilsl => rfl | .nilptr => rfl | .clip _ _ => rfl | .aptr _ _ _ _ _ => rfl | .any => rfl
  | .agg cs => by simp only [PV.sealw,psealL_nil cs]
  | .tup cs => by simp only [PV.sealw,psealL_nil cs]
  | .fn f cs => by simp only [PV.sealw,psealL_nil cs]
  | .bnd f cs => by simp only [PV.sealw,psealL_nil cs]
  | .ifc f cs => by simp only [PV.sealw,psealL_nil cs]
theorem psealL_nil {bl:List (Nat × Blk)}:∀ (ps:List PV),PV.sealL [] bl ps = ps
  | [] => rfl
  | p :: ps => by simp only [PV.sealL,pseal_nil p,psealL_nil ps]
end
theorem seal_nil (s:St):s.sealw [] = s:=by
  have h1:∀ l:List (Nat × PV),mapSl (PV.sealw [] s.bl) l = l:=by
    intro l
    induction l with
    | nil => rfl
    | cons p r ih => simp only [mapSl,pseal_nil,ih]
  have h2:∀ l:List (Nat × Blk),mapBl (PV.sealL [] s.bl) l = l:=by
    intro l
    induction l with
    | nil => rfl
    | cons p r ih =>
      simp only [mapBl,ih]
      obtain ⟨i,b⟩:=p
      cases b <;> simp only [Blk.map,psealL_nil]
  have h3:∀ l:List (Nat × Blk),dropBl [] l = l:=by
    intro l
    induction l with
    | nil => rfl
    | cons p r ih => simp only [dropBl,mem1,cond_false,ih]
  unfold St.sealw
  rw [h1,h2,h3]

section
variable {E:Env} {n:Nat} {w0:World} {S0:Cx} {s:St} {a:Act} {w:World} {ν:Nat → Value} {S:Nat → Prop} {F:Reg} {o:Oper} {K:St → Prop} {Q:Exit → Act → World → Prop}

theorem hArg_rel (hE:EnvOK E) {c:Ctx} {M':Mem} (hR:Reads F s c M') {A:Option Ty} {p q:PV} {v:Value} (hA:∀ T,A = some T → owns T = 0) (h:hArg E F s.bl A p = some q) (hp:PRel c p v):PRel ⟨c.ν,c.D,c.w,M'⟩ q v:=by
  have hle:c.Le ⟨c.ν,c.D,c.w,M'⟩:=⟨fun _ _ => rfl,hR.S,fun _ h => h,fun _ _ => rfl⟩
  cases A with
  | some T =>
    simp only [hArg] at h
    split at h
    · rename_i x hx
      injection h with h
      subst h
      simp only [PRel]
      exact ⟨hA T rfl,RepR_of_V (exp_sound hR (.inl (hA T rfl)) hx hp)⟩
    · cases h
  | none =>
    simp only [hArg] at h
    split at h
    · rename_i g caps
      split at h
      · rename_i q' hq
        injection h with h
        subst h
        simp only [cloO] at hq
        split at hq
        · rename_i As T hfn
          split at hq
          · rename_i x hx
            injection hq with hq
            subst hq
            have ho:owns (chainT (lastN As caps.length)) = 0:=chain_owns fun U hU => (fn_owns (hE.fn g As T hfn)).2 U (mem_lastN hU)
            simp only [PRel] at hp
            obtain ⟨us,rfl,hus⟩:=hp
            obtain ⟨va,vb,hv,hrep,hrest⟩:=pk_sound hR _ caps x [] us (.inl ho) (fstOf_some hx) hus
            simp only [PRels] at hrest
            subst hrest
            rw [List.append_nil] at hv
            subst hv
            simp only [PRel]
            exact ⟨ho,us,rfl,hrep⟩
          · cases hq
        · cases hq
      · injection h with h
        subst h
        exact PRel_mono hle hp
    · cases h
    · injection h with h
      subst h
      exact PRel_mono hle hp
theorem hArgs_rel (hE:EnvOK E) {c:Ctx} {M':Mem} (hR:Reads F s c M'):∀ {As:List (Option Ty)} {ps qs:List PV} {vs:List Value},(∀ T,some T ∈ As → owns T = 0) → hArgs E F s.bl As ps = some qs → PRels c ps vs → PRels ⟨c.ν,c.D,c.w,M'⟩ qs vs
  | [],[],qs,vs,_,h,hp => by simp only [hArgs,Option.some.injEq] at h; subst h; simpa only [PRels] using hp
  | [],_ :: _,_,_,_,h,_ => by simp [hArgs] at h
  | _ :: _,[],_,_,_,h,_ => by simp [hArgs] at h
  | A :: As,p :: ps,qs,vs,hA,h,hp => by
    simp only [hArgs] at h
    split at h
    · rename_i q qs' h1 h2
      injection h with h
      subst h
      simp only [PRels] at hp ⊢
      obtain ⟨v,r,rfl,hp1,hp2⟩:=hp
      exact ⟨v,r,rfl,hArg_rel hE hR (fun T hT => hA T (by simp [hT])) h1 hp1,hArgs_rel hE hR (fun T hT => hA T (List.mem_cons_of_mem _ hT)) h2 hp2⟩
    · cases h

theorem okP_of {c:Ctx} {p:PV} {v:Value} (h:PRel c p v):okP p:=by
  cases p with
  | iv T x => simp only [PRel] at h; exact RepR_ok h.2
  | _ => trivial
theorem okBl_of {bl:List (Nat × Blk)} {ν:Nat → Value} {w:World} {M:Mem} (h:WRel ⟨[],bl⟩ ν w M):okBl bl:=by
  refine ⟨fun i T xs te hl => ?_,fun i K V es hl => ?_⟩
  · obtain ⟨_,_,hr⟩:=h.blk i _ hl
    exact RepC_ok (.own T) xs _ _ _ hr
  · obtain ⟨hok,hov,h0,r,ents,clock,h1,h2,h3,h4,h5,h6,h7⟩:=h.blk i _ hl
    refine ⟨h0,fun y hy => ?_⟩
    obtain ⟨j,hj⟩:=List.getElem?_of_mem hy
    obtain ⟨e,ca,cb,_,_,a1,_,a2⟩:=h7 j y hj
    exact ⟨RepC_ok _ _ _ _ _ a1,RepC_ok _ _ _ _ _ a2⟩

theorem pk_some {F F':Reg} {bl:List (Nat × Blk)}:∀ (T:Ty) (ps:List PV) (r:T.den × List PV),owns T = 0 → PV.refsL ps = false → (∀ i,i ∈ PV.arrsL ps → lk F' bl i = lk F bl i) → pk F bl T ps = some r → pk F' bl T ps = some r ∧ PV.refsL r.2 = false ∧ ∀ i,i ∈ PV.arrsL r.2 → i ∈ PV.arrsL ps:=by
  have cons:∀ (p:PV) (ps:List PV),PV.refsL (p :: ps) = false → PV.refs p = false ∧ PV.refsL ps = false:=by
    intro p ps h1
    simp only [PV.refsL,Bool.or_eq_false_iff] at h1
    exact h1
  intro T
  induction T with
  | unit => intro ps r _ h1 h2 h; simp only [pk,Option.some.injEq] at h ⊢; subst h; exact ⟨rfl,h1,fun _ h => h⟩
  | pair a b iha ihb =>
    intro ps r ho h1 h2 h
    simp only [owns] at ho
    simp only [pk] at h ⊢
    split at h
    · rename_i x r1 hx
      obtain ⟨e1,h3,h4⟩:=iha ps _ (by omega) h1 h2 hx
      split at h
      · rename_i y r2 hy
        obtain ⟨e2,h5,h6⟩:=ihb r1 _ (by omega) h3 (fun i hi => h2 i (h4 i hi)) hy
        simp only [Option.some.injEq] at h
        subst h
        simp only [e1,e2]
        exact ⟨trivial,h5,fun i hi => h4 i (h6 i hi)⟩
      · cases h
    · cases h
  | st t ih => intro ps r ho h1 h2 h; simp only [pk] at h ⊢; exact ih ps r (by simpa [owns] using ho) h1 h2 h
  | tup a b => intro ps r _ h1 h2 h; simp only [pk] at h; cases h
  | own t => intro ps r ho; simp only [owns] at ho; omega
  | int k =>
    intro ps r _ h1 h2 h
    cases ps with
    | nil => simp only [pk] at h; cases h
    | cons p ps =>
      simp only [pk] at h ⊢
      obtain ⟨x,r'⟩:=r
      obtain ⟨_,rfl⟩:=withR_some h
      exact ⟨h,(cons p ps h1).2,fun i hi => by simp only [PV.arrsL]; exact List.mem_append_right _ hi⟩
  | bool =>
    intro ps r _ h1 h2 h
    cases ps with
    | nil => simp only [pk] at h; cases h
    | cons p ps =>
      simp only [pk] at h ⊢
      obtain ⟨x,r'⟩:=r
      obtain ⟨_,rfl⟩:=withR_some h
      exact ⟨h,(cons p ps h1).2,fun i hi => by simp only [PV.arrsL]; exact List.mem_append_right _ hi⟩
  | str =>
    intro ps r _ h1 h2 h
    cases ps with
    | nil => simp only [pk] at h; cases h
    | cons p ps =>
      simp only [pk] at h ⊢
      obtain ⟨x,r'⟩:=r
      obtain ⟨_,rfl⟩:=withR_some h
      exact ⟨h,(cons p ps h1).2,fun i hi => by simp only [PV.arrsL]; exact List.mem_append_right _ hi⟩
  | fnv =>
    intro ps r _ h1 h2 h
    cases ps with
    | nil => simp only [pk] at h; cases h
    | cons p ps =>
      simp only [pk] at h ⊢
      obtain ⟨x,r'⟩:=r
      obtain ⟨_,rfl⟩:=withR_some h
      exact ⟨h,(cons p ps h1).2,fun i hi => by simp only [PV.arrsL]; exact List.mem_append_right _ hi⟩
  | sl t ih =>
    intro ps r _ h1 h2 h
    cases ps with
    | nil => simp only [pk] at h; cases h
    | cons p ps =>
      simp only [pk] at h ⊢
      obtain ⟨x,r'⟩:=r
      obtain ⟨hx,rfl⟩:=withR_some h
      refine ⟨?_,(cons p ps h1).2,fun i hi => by simp only [PV.arrsL]; exact List.mem_append_right _ hi⟩
      have hl:∀ i,i ∈ PV.arrs p → lk F' bl i = lk F bl i:=fun i hi => h2 i (by simp only [PV.arrsL]; exact List.mem_append_left _ hi)
      have:asSl F' bl t p = asSl F bl t p:=by
        cases p <;> simp only [asSl] <;> first | rfl | rw [hl _ (by simp [PV.arrs])]
      rw [this]; exact h
  | mp k v ihk ihv =>
    intro ps r _ h1 h2 h
    cases ps with
    | nil => simp only [pk] at h; cases h
    | cons p ps =>
      simp only [pk] at h ⊢
      obtain ⟨x,r'⟩:=r
      obtain ⟨hx,rfl⟩:=withR_some h
      refine ⟨?_,(cons p ps h1).2,fun i hi => by simp only [PV.arrsL]; exact List.mem_append_right _ hi⟩
      have hl:∀ i,i ∈ PV.arrs p → lk F' bl i = lk F bl i:=fun i hi => h2 i (by simp only [PV.arrsL]; exact List.mem_append_left _ hi)
      have:asMp F' bl k v p = asMp F bl k v p:=by
        cases p <;> simp only [asMp] <;> first | rfl | rw [hl _ (by simp [PV.arrs])]
      rw [this]; exact h
  | ptr t ih =>
    intro ps r _ h1 h2 h
    cases ps with
    | nil => simp only [pk] at h; cases h
    | cons p ps =>
      simp only [pk] at h ⊢
      obtain ⟨x,r'⟩:=r
      obtain ⟨h5,h3⟩:=cons p ps h1
      have h4:∀ i,i ∈ PV.arrsL ps → i ∈ PV.arrsL (p :: ps):=fun i hi => by simp only [PV.arrsL]; exact List.mem_append_right _ hi
      cases p with
      | ref i off => simp [PV.refs] at h5
      | iv U y => obtain ⟨_,rfl⟩:=withR_some h; exact ⟨h,h3,h4⟩
      | eptr U y off =>
        cases off with
        | zero => obtain ⟨_,rfl⟩:=withR_some h; exact ⟨h,h3,h4⟩
        | succ k => cases h
      | _ => cases h
  | clo f t ih =>
    intro ps r ho h1 h2 h
    simp only [owns] at ho
    cases ps with
    | nil => simp only [pk] at h; cases h
    | cons p ps =>
      simp only [pk] at h ⊢
      obtain ⟨x,r'⟩:=r
      obtain ⟨h5,h3⟩:=cons p ps h1
      have h4:∀ i,i ∈ PV.arrsL ps → i ∈ PV.arrsL (p :: ps):=fun i hi => by simp only [PV.arrsL]; exact List.mem_append_right _ hi
      cases p with
      | iv U y => obtain ⟨_,rfl⟩:=withR_some h; exact ⟨h,h3,h4⟩
      | fn g caps =>
        cases hb:Nat.beq f g with
        | false => simp [hb] at h
        | true =>
          simp only [hb,cond_true] at h ⊢
          obtain ⟨hx,rfl⟩:=withR_some h
          obtain ⟨e1,_⟩:=ih caps _ ho (by simpa [PV.refs] using h5) (fun i hi => h2 i (by simp only [PV.arrsL,PV.arrs]; exact List.mem_append_left _ hi)) (fstOf_some hx)
          exact ⟨by rw [e1]; rfl,h3,h4⟩
      | _ => cases h
theorem exp_some {F F':Reg} {bl:List (Nat × Blk)} {T:Ty} {p:PV} {x:T.den} (ho:owns T = 0) (h1:PV.refs p = false) (h2:∀ i,i ∈ PV.arrs p → lk F' bl i = lk F bl i) (h:exp F bl T p = some x):exp F' bl T p = some x:=by
  have hl1:PV.refsL [p] = false:=by simp [PV.refsL,h1]
  have hl2:∀ i,i ∈ PV.arrsL [p] → lk F' bl i = lk F bl i:=fun i hi => h2 i (by simpa [PV.arrsL] using hi)
  cases T with
  | st t =>
    cases p with
    | iv U y => exact h
    | agg cs =>
      simp only [exp] at h ⊢
      rw [(pk_some (F':=F') t cs _ (by simpa [owns] using ho) (by simpa [PV.refs] using h1) (by simpa [PV.arrs] using h2) (fstOf_some h)).1]
      rfl
    | _ => simp only [exp] at h; cases h
  | unit => simp only [exp] at h; cases h
  | pair a b => simp only [exp] at h; cases h
  | tup a b => simp only [exp] at h; cases h
  | _ =>
    simp only [exp] at h ⊢
    rw [(pk_some (F':=F') _ _ _ ho hl1 hl2 (fstOf_some h)).1]
    rfl
theorem expAll_some {F F':Reg} {bl:List (Nat × Blk)}:∀ (Ts:List Ty) (ps:List PV) (ys:List (Sigma Ty.den)),(∀ T,T ∈ Ts → owns T = 0) → PV.refsL ps = false → (∀ i,i ∈ PV.arrsL ps → lk F' bl i = lk F bl i) → expAll F bl Ts ps = some ys → expAll F' bl Ts ps = some ys
  | [],[],ys,_,_,_,h => h
  | [],_ :: _,_,_,_,_,h => h
  | _ :: _,[],_,_,_,_,h => h
  | T :: Ts,p :: ps,ys,ho,h1,h2,h3 => by
    simp only [PV.refsL,Bool.or_eq_false_iff] at h1
    simp only [expAll] at h3 ⊢
    split at h3
    · rename_i x hx
      split at h3
      · rename_i rr hrr
        rw [exp_some (ho T (List.mem_cons_self ..)) h1.1 (fun i hi => h2 i (by simp only [PV.arrsL]; exact List.mem_append_left _ hi)) hx,expAll_some Ts ps rr (fun U hU => ho U (List.mem_cons_of_mem _ hU)) h1.2 (fun i hi => h2 i (by simp only [PV.arrsL]; exact List.mem_append_right _ hi)) hrr]
        exact h3
      · cases h3
    · cases h3

theorem mem1_without {i:Nat} {ks:List Nat}:∀ {l:List Nat},mem1 i (l.filter fun j => !(mem1 j ks)) = (mem1 i l && !(mem1 i ks))
  | [] => by simp [mem1]
  | j :: r => by
    simp only [List.filter_cons]
    cases hj:mem1 j ks with
    | true =>
      simp only [Bool.not_true,Bool.false_eq_true,if_false,mem1_without (l:=r),mem1]
      cases hb:Nat.beq i j with
      | true => rw [Nat.eq_of_beq_eq_true hb,hj]; simp
      | false => rfl
    | false =>
      simp only [Bool.not_false,if_true,mem1,mem1_without (l:=r)]
      cases hb:Nat.beq i j with
      | true => rw [Nat.eq_of_beq_eq_true hb,hj]; rfl
      | false => rfl

theorem hret_plain {s:St} {d:Option Nat} {ids:List Nat} {p:PV} {bl':List (Nat × Blk)} (h:notMark ids = true):s.hret d ids p bl' = s.hret0 d ids p bl':=by
  cases ids with
  | nil => rfl
  | cons i r =>
    unfold St.hret
    simp only [notMark] at h
    split at h
    · cases h
    · rename_i hb; simp only [hb]
theorem call_main (hE:EnvOK E) (h:Full n w0 S0 s a w ν S) (ho:opOK n o = true) {f:Nat} {pargs:List PV} {vargs:List Value} (hargs:PRels h.c pargs vargs)
    (hrun : ∀ fn : Func, E.P.funcs[f]? = some fn → fn.body.isSome = true → fn.name ≠ "runtime.NumGoroutine" → (execOp a.eval o).run E.P w = .ok (.enter f vargs.toArray) w)
    (hout:OutK E (callO E F s o.dst f pargs) (fun l => K (s.fin o.dst l))):o.wp E.P a w (fun a' w' => ∃ s',K s' ∧ Rel n w0 S0 s' a' w') Q:=by
  simp only [callO] at hout
  split at hout
  · rename_i As T hfn
    obtain ⟨⟨fn,hfn1,hfn2,hfn3⟩,hAs⟩:=fn_owns (hE.fn f As T hfn)
    have hrun:=hrun fn hfn1 hfn2 hfn3
    split at hout
    · rename_i xs hxs
      -- whatever the callee may read,its result
      have main:∀ (S1:Nat → Prop),(∀ b,S1 b → b < w.heap.size) → (∀ b,S b → S1 b) → RepAs w ⟨S1,fun g => w.heap.size ≤ g⟩ xs vargs → ∀ Y:T.den → Prop,PN E f xs T Y →
          (∀ v w' r,Y r → (Below w.heap.size w w' ∧ (drF → w.drawn ≤ w'.drawn)) → (∃ S':Nat → Prop,(∀ b,S1 b → S' b) ∧ (∀ b,S' b → S1 b ∨ w.heap.size ≤ b) ∧ (∀ b,S' b → b < w'.heap.size) ∧ RepR T r w' ⟨S',fun g => w.heap.size ≤ g⟩ v) → ∃ s',K s' ∧ Rel n w0 S0 s' (a.put o.dst v) w') →
          o.wp E.P a w (fun a' w' => ∃ s',K s' ∧ Rel n w0 S0 s' a' w') Q:=by
        intro S1 hS1 hS1' hrep Y hPC hk
        refine wp_of_enter hrun ((hPC w S1 _ hS1 (fun g hg => ⟨hS1' _ (h.tabs g hg).1,(h.tabs g hg).2⟩) hrep).mono ?_)
        rintro e w' ⟨v,r,rfl,hy,hb,hS'⟩
        exact ⟨v,rfl,hk v w' r hy hb hS'⟩
      have hnonflat:PV.refsL pargs = false → ∀ (ks:List Nat),(∀ i,i ∈ PV.arrsL pargs → mem1 i ks = true) → ∀ Y:T.den → Prop,PN E f xs T Y → owns T = 0 → (∀ r,Y r → T.ok r → K ((s.sealw ks).put o.dst (.iv T r))) → o.wp E.P a w (fun a' w' => ∃ s',K s' ∧ Rel n w0 S0 s' a' w') Q:=by
        intro hrf ks hks Y hPC how hK
        have hs:=h.sealed ks
        have hno:expAll ⟨F.h ++ (keys s.bl).filter fun j => !(mem1 j ks),true⟩ s.bl As pargs = some xs:=by
          refine expAll_some As pargs xs hAs hrf (fun i hi => ?_) hxs
          have hi':=hks i hi
          unfold lk
          have:mem1 i (F.h ++ (keys s.bl).filter fun j => !(mem1 j ks)) = mem1 i F.h:=by
            have happ:∀ (l r:List Nat),mem1 i (l ++ r) = (mem1 i l || mem1 i r):=by
              intro l r
              induction l with
              | nil => simp [mem1]
              | cons x l ih => simp only [List.cons_append,mem1,ih]; cases Nat.beq i x <;> rfl
            rw [happ,mem1_without,hi']
            simp
          simp only [this]
        have happ:∀ (i:Nat) (l r:List Nat),mem1 i (l ++ r) = (mem1 i l || mem1 i r):=by
          intro i l r
          induction l with
          | nil => simp [mem1]
          | cons x l ih => simp only [List.cons_append,mem1,ih]; cases Nat.beq i x <;> rfl
        have hR:Reads ⟨F.h ++ (keys s.bl).filter fun j => !(mem1 j ks),true⟩ s h.c ⟨withS S s ν ks,fun g => w.heap.size ≤ g⟩:=by
          refine ⟨rfl,h.W.blk,fun b hb => .inl hb,fun id hF hD g hg => .inr ⟨id,?_,hD,hg⟩⟩
          obtain ⟨b,hb⟩:=hD
          have hF':mem1 id (F.h ++ (keys s.bl).filter fun j => !(mem1 j ks)) = false:=hF
          rw [happ,mem1_without,mem1_keys hb] at hF'
          cases hm:mem1 id ks with
          | true => rfl
          | false => rw [hm] at hF'; simp at hF'
        refine main (withS S s ν ks) hs.W.lt (fun b hb => .inl hb) (expAll_sound hR As _ xs _ hAs hno hargs) Y hPC fun v w' r hy hb ⟨S',h1,h2,h3,hr⟩ => ?_
        have hK:=hK r hy (RepR_ok hr)
        have hgrow:=hs.grow (below_grown hb) h1 h2 h3
        refine ⟨_,hK,(hgrow.put (opOK_dst ho) ?_).rel⟩
        simp only [PRel]
        exact ⟨how,RepR_mono (w:=w') (M:=⟨S',fun g => w.heap.size ≤ g⟩) (M':=⟨S',own0 w0 S0⟩) (fun _ _ => rfl) (fun _ h => h) how hr⟩
      split at hout
      · -- a result that hangs on the machine's choices
        split at hout
        · rename_i har hrf _
          obtain ⟨Y,hPN,hK⟩:=hout
          refine hnonflat hrf [] (fun i hi => by rw [har] at hi; cases hi) Y hPN (hE.res f As T hfn) fun r hy hr => ?_
          rw [seal_nil]
          exact hK r hy hr
        · exact hout.elim
      · split at hout
        · -- a result that hangs on no memory
          rename_i hflat
          obtain ⟨r,hPC,hK⟩:=hout
          have hR:Reads F s h.c ⟨fun b => b < w.heap.size,fun g => w.heap.size ≤ g⟩:=⟨rfl,h.W.blk,fun b hb => h.W.lt b hb,fun id _ ⟨b,hb⟩ g hg => (h.blkB hb hg).2.2⟩
          refine main _ (fun _ h => h) (fun b hb => h.W.lt b hb) (expAll_sound hR As _ xs _ hAs hxs hargs) (fun r' => r' = r) (hPC.pn rfl) fun v w' r' e hb ⟨S',_,_,_,hr⟩ => ?_
          obtain rfl:r' = r:=e
          have hK:=hK (RepR_ok hr)
          have hgrow:=h.grow (below_grown hb) (fun _ h => h) (fun _ h => .inl h) (fun b hS => Nat.lt_of_lt_of_le (h.W.lt b hS) hb.1.size)
          refine ⟨_,hK,(hgrow.put (opOK_dst ho) ?_).rel⟩
          simp only [PRel]
          exact ⟨flat_owns T hflat,flat_R hflat hr⟩
        · rename_i har hrf
          obtain ⟨r,hPC,hK⟩:=hout
          refine hnonflat hrf [] (fun i hi => by rw [har] at hi; cases hi) (fun r' => r' = r) (hPC.pn rfl) (hE.res f As T hfn) fun r' e hr => ?_
          obtain rfl:r' = r:=e
          rw [seal_nil]
          exact hK hr
        · rename_i i rr _ har hrf _
          obtain ⟨r,hPC,hK⟩:=hout
          exact hnonflat hrf (i :: rr) (fun j hj => by rw [har] at hj; exact mem1_iff.2 hj) (fun r' => r' = r) (hPC.pn rfl) (hE.res f As T hfn) fun r' e hr => by obtain rfl:r' = r:=e; exact hK hr
        · exact hout.elim
    · exact hout.elim
  · split at hout
    · rename_i As hfn _
      obtain ⟨⟨fn,hfn1,hfn2,hfn3⟩,hAs'⟩:=fn_owns (hE.hfn f As hfn)
      have hAs:∀ T,some T ∈ As → owns T = 0:=fun T hT => hAs' T (List.mem_filterMap.2 ⟨some T,hT,rfl⟩)
      have hrun:=hrun fn hfn1 hfn2 hfn3
      have one:∀ (s1:St) (S1:Nat → Prop) (h:Full n w0 S0 s1 a w ν S1) (ps:List PV) (ids idsR:List Nat),(notMark ids = true → ∀ p bl',s.hret o.dst idsR p bl' = s1.hret0 o.dst ids p bl') → PRels ⟨ν,s1.D,w,⟨S1,own0 w0 S0⟩⟩ ps vargs → OutK E (hcallX (E.nd f) s1 f ps ids idsR o.dst) (fun l => K (s.fin o.dst l)) → o.wp E.P a w (fun a' w' => ∃ s',K s' ∧ Rel n w0 S0 s' a' w') Q:=by
        intro s1 S1 h ps ids idsR hfin hps hout
        unfold hcallX at hout
        split at hout
        · rename_i hchk
          simp only [Bool.and_eq_true] at hchk
          obtain ⟨hnm,⟨hnd,hinn⟩,hin⟩:=hchk
          have hfin:=hfin hnm
          split at hout
          · obtain ⟨T,Y,p,bl',hHN,hall⟩:=hout
            obtain ⟨hWR,hft,hle⟩:=h.handed hnd hin
            refine wp_of_enter hrun ((hHN w S1 (nuC ν ids) vargs h.W.lt h.tabs hft (fun i b hb => (handed_look hb).1) hWR (PRels_ren (hle S1 (fun _ h => h)) hinn hps)).mono ?_)
            rintro e w' ⟨v,r,rfl,hY,hk,ν',S',h1,h2,h3,hW',hp⟩
            refine ⟨v,rfl,?_⟩
            obtain ⟨hok,hK⟩:=hall r hY
            simp only [hOK,Bool.and_eq_true] at hok
            obtain ⟨⟨hkeep,hnew⟩,_⟩:=hok
            obtain ⟨ν'',hf⟩:=h.hret (d:=o.dst) hnd hin hk h1 h2 h3 hW' hp hkeep hnew (opOK_dst ho)
            refine ⟨_,hK (okP_of hp) (okBl_of hW'),?_⟩
            rw [show s.fin o.dst (.hret idsR (p r) (bl' r)) = s1.hret0 o.dst ids (p r) (bl' r) from hfin _ _]
            exact hf.rel
          obtain ⟨p,bl',hHC,hok,hK⟩:=hout
          simp only [hOK,Bool.and_eq_true] at hok
          obtain ⟨⟨hkeep,hnew⟩,_⟩:=hok
          obtain ⟨hWR,hft,hle⟩:=h.handed hnd hin
          refine wp_of_enter hrun ((hHC w S1 (nuC ν ids) vargs h.W.lt h.tabs hft (fun i b hb => (handed_look hb).1) hWR (PRels_ren (hle S1 (fun _ h => h)) hinn hps)).mono ?_)
          rintro e w' ⟨v,rfl,hk,ν',S',h1,h2,h3,hW',hp⟩
          refine ⟨v,rfl,?_⟩
          obtain ⟨ν'',hf⟩:=h.hret (d:=o.dst) hnd hin hk h1 h2 h3 hW' hp hkeep hnew (opOK_dst ho)
          refine ⟨_,hK (okP_of hp) (okBl_of hW'),?_⟩
          rw [show s.fin o.dst (.hret idsR p bl') = s1.hret0 o.dst ids p bl' from hfin _ _]
          exact hf.rel
        · exact hout.elim
      unfold hcallO at hout
      split at hout
      · rename_i ps hps
        have hR:Reads ⟨keys s.bl,true⟩ s h.c ⟨S,own0 w0 S0⟩:=⟨rfl,h.W.blk,fun _ h => h,fun id hF ⟨b,hb⟩ g hg => by
          have hF':mem1 id (keys s.bl) = false:=hF
          rw [mem1_keys hb] at hF'; cases hF'⟩
        have hrel:=hArgs_rel hE hR hAs hps hargs
        exact one s S h ps _ _ (fun hm p bl' => hret_plain hm) hrel hout
      · split at hout
        · rename_i ps hps
          split at hout
          · rename_i hinn
            obtain ⟨p,bl',hHC,hok,hK⟩:=hout
            simp only [hOK,Bool.and_eq_true,Bool.not_true,Bool.false_or] at hok
            obtain ⟨⟨hkeep,hnew⟩,hfl,hnil⟩:=hok
            have hbl':bl' = []:=by cases bl' with
              | nil => rfl
              | cons x r => cases hnil
            subst hbl'
            have hR:Reads F s h.c ⟨fun b => b < w.heap.size,own0 w0 S0⟩:=⟨rfl,h.W.blk,fun b hb => h.W.lt b hb,fun id _ ⟨b,hb⟩ g hg => (h.blkB hb hg).2.2⟩
            have hrel:=hArgs_rel hE hR hAs hps hargs
            have hft:∀ g,¬ foot (nuC ν []) [] g:=by rintro g ⟨i,b,hb,_⟩; cases hb
            have hrel':PRels ⟨nuC ν [],(⟨[],[]⟩:St).D,w,⟨fun b => b < w.heap.size,own0 w ⟨fun b => b < w.heap.size,foot (nuC ν []) [],nuC ν [],[]⟩⟩⟩ ps vargs:=by
              rw [← renL_id ps]
              exact PRels_ren (ks:=[]) (ρ:=fun i => i) (c:=⟨ν,s.D,w,⟨fun b => b < w.heap.size,own0 w0 S0⟩⟩) (c':=⟨nuC ν [],(⟨[],[]⟩:St).D,w,⟨fun b => b < w.heap.size,own0 w ⟨fun b => b < w.heap.size,foot (nuC ν []) [],nuC ν [],[]⟩⟩⟩) ⟨fun _ _ => rfl,fun _ h => h,fun i hi => (by cases hi),fun i hi => (by cases hi)⟩ hinn hrel
            refine wp_of_enter hrun ((hHC w (fun b => b < w.heap.size) (nuC ν []) vargs (fun _ h => h) (fun g hg => ⟨h.W.lt _ (h.tabs g hg).1,(h.tabs g hg).2⟩) (fun g hg => (hft g hg).elim) (fun i b hb => by cases hb) ⟨fun _ h => h,fun b hb => .inl hb,fun i b hb => (by cases hb),fun i j b c _ hi => (by cases hi)⟩ hrel').mono ?_)
            rintro e w' ⟨v,rfl,hk,ν',S',h1,h2,h3,hW',hp⟩
            refine ⟨v,rfl,?_⟩
            cases p <;> first | (cases hfl; done) | skip
            rename_i T x
            have hp':∀ c:Ctx,PRel c (.iv T x) v:=by
              intro c
              simp only [PRel] at hp ⊢
              exact ⟨hp.1,flat_R hfl hp.2⟩
            obtain ⟨ν'',hf⟩:=h.hret (ids:=[]) (d:=o.dst) (bl':=[]) (w':=w') (ν':=ν) (S':=S) (p:=.iv T x) (v:=v) rfl rfl hk (fun _ h => h) (fun _ h => .inl h) (fun i _ ⟨b,hb⟩ => by cases hb)
              ⟨fun b hb => Nat.lt_of_lt_of_le (h.W.lt b hb) hk.size,fun b hb => .inl (Nat.le_trans hk.size hb),fun i b hb => (by cases hb),fun i j b c _ hi => (by cases hi)⟩ (hp' _) rfl rfl (opOK_dst ho)
            exact ⟨_,hK (okP_of (hp' ⟨ν,s.D,w,⟨S,own0 w0 S0⟩⟩)) (okBl_of hW'),hf.rel⟩
          · unfold hcallS at hout
            split at hout
            · rename_i k _
              split at hout
              · rename_i ps' hps'
                have hs:=h.sealed [k]
                have hseal:=PRels_seal (c:=⟨ν,s.D,w,⟨S,own0 w0 S0⟩⟩) (c':=⟨ν,(s.sealw [k]).D,w,⟨withS S s ν [k],own0 w0 S0⟩⟩) (ks:=[k]) (bl:=s.bl) rfl (fun b hb => .inl hb)
                  (fun i hi ⟨b,hb⟩ => ⟨b.map (PV.sealL [k] s.bl),by rw [seal_look,hi,hb]; rfl⟩) rfl h.W.blk (fun i hi hd g hg => .inr ⟨i,hi,hd,hg⟩) hargs
                have hR:Reads ⟨keys (s.sealw [k]).bl,true⟩ (s.sealw [k]) ⟨ν,(s.sealw [k]).D,w,⟨withS S s ν [k],own0 w0 S0⟩⟩ ⟨withS S s ν [k],own0 w0 S0⟩:=⟨rfl,hs.W.blk,fun _ h => h,fun id hF ⟨b,hb⟩ g hg => by
                  have hF':mem1 id (keys (s.sealw [k]).bl) = false:=hF
                  rw [mem1_keys hb] at hF'; cases hF'⟩
                exact one (s.sealw [k]) _ hs ps' _ _ (fun _ p bl' => rfl) (hArgs_rel hE hR hAs hps' hseal) hout
              · exact hout.elim
            · exact hout.elim
        · exact hout.elim
    · exact hout.elim

theorem capsOf_rel {c:Ctx}:∀ (T:Ty) (x:T.den) (vs:List Value),owns T = 0 → RepC T x c.w c.M vs → PRels c (capsOf T x) vs:=by
  intro T
  induction T with
  | pair a b iha ihb =>
    intro x vs ho h
    simp [owns] at ho
    obtain ⟨va,vb,rfl,h1,h2⟩:=h
    simp only [capsOf]
    exact PRels_append (iha _ _ ho.1 h1) (ihb _ _ ho.2 h2)
  | ptr t ih =>
    intro x vs ho h
    obtain ⟨g,o,cs,rfl,h1,h2,h3,h4⟩:=h
    simp only [capsOf,PRels,PRel]
    exact ⟨_,[],rfl,⟨ho,g,o,cs,rfl,h1,h2,h3,h4⟩,rfl⟩
  | _ => intro x vs ho h; simp only [capsOf]; exact PRels_cellsOf _ x vs ho h

theorem op_call (hE:EnvOK E) (h:Full n w0 S0 s a w ν S) (ho:opOK n o = true) {c:Call} {g:Operand} (hop:o.op = .call c) (hcal:c.callee = .value g) (hout:OutK E (stepF E F s o) (fun l => K (s.fin o.dst l))):o.wp E.P a w (fun a' w' => ∃ s',K s' ∧ Rel n w0 S0 s' a' w') Q:=by
  obtain ⟨callee,args,argTypes⟩:=c
  simp only at hcal
  subst hcal
  simp only [stepF,hop] at hout
  have hg:=h.ev (x:=g) (opOK_arg ho (by simp [hop,Op.operands,Call.operands]))
  have hall:=evAll_rel h args.toList (fun y hy => opOK_arg ho (by
    have:y ∈ args:=Array.mem_toList_iff.1 hy
    simp [hop,Op.operands,Call.operands,this]))
  have run : ∀ (f : Nat) (cvs : List Value), a.eval g = .func (.func f) #[] cvs.toArray → ∀ fn : Func, E.P.funcs[f]? = some fn → fn.body.isSome = true → fn.name ≠ "runtime.NumGoroutine" → (execOp a.eval o).run E.P w = .ok (.enter f (args.toList.map a.eval ++ cvs).toArray) w := by
    intro f cvs hgv fn hfn1 hfn2 hfn3
    have hb:fn.body.isNone = false:=by cases hb:fn.body <;> simp_all
    have hn : (fn.name == "runtime.NumGoroutine") = false := by simpa using hfn3
    have harr:args.map a.eval ++ cvs.toArray = (args.toList.map a.eval ++ cvs).toArray:=by apply Array.toList_inj.1; simp
    simp only [execOp,hop,resolve,hgv,Deferred.ofValue,Sem.run_bind,Sem.run_pure,Result.andThen_ok,invoke,callFunc,run_program,hfn1,hn,Bool.false_eq_true,if_false,hb]
    simp only [Sem.run_pure,Array.empty_append,← harr]
  split at hout
  · rename_i f caps hev
    rw [hev] at hg
    simp only [PRel] at hg
    obtain ⟨cvs,hgv,hcaps⟩:=hg
    exact call_main hE h ho (PRels_append hall hcaps) (run f cvs hgv) hout
  · rename_i f hev
    rw [hev] at hg
    simp only [PRel] at hg
    have hgv:a.eval g = .func (.func f) #[] ([]:List Value).toArray:=by
      obtain ⟨_,hg⟩:=hg
      simp only [RepR,RepV,RepC,List.cons.injEq,and_true] at hg
      exact hg
    have hr:=run f [] hgv
    simp only [List.append_nil] at hr
    exact call_main hE h ho hall hr hout
  · rename_i f ps hev
    rw [hev] at hg
    simp only [PRel] at hg
    obtain ⟨fvs,hgv,hps⟩:=hg
    have runb : ∀ fn : Func, E.P.funcs[f]? = some fn → fn.body.isSome = true → fn.name ≠ "runtime.NumGoroutine" → (execOp a.eval o).run E.P w = .ok (.enter f (fvs ++ args.toList.map a.eval).toArray) w := by
      intro fn hfn1 hfn2 hfn3
      have hb:fn.body.isNone = false:=by cases hb:fn.body <;> simp_all
      have hn : (fn.name == "runtime.NumGoroutine") = false := by simpa using hfn3
      have harr:fvs.toArray ++ args.map a.eval = (fvs ++ args.toList.map a.eval).toArray:=by apply Array.toList_inj.1; simp
      simp only [execOp,hop,resolve,hgv,Deferred.ofValue,Sem.run_bind,Sem.run_pure,Result.andThen_ok,invoke,callFunc,run_program,hfn1,hn,Bool.false_eq_true,if_false,hb]
      simp only [Sem.run_pure,Array.append_empty,← harr]
    exact call_main hE h ho (PRels_append hps hall) runb hout
  · rename_i f t x hev
    rw [hev] at hg
    simp only [PRel] at hg
    obtain ⟨how,hg⟩:=hg
    obtain ⟨cvs,hgv,hcaps⟩:RepC (.clo f t) x h.c.w h.c.M [a.eval g]:=hg
    injection hgv with hgv
    exact call_main hE h ho (PRels_append hall (capsOf_rel t x cvs how hcaps)) (run f cvs hgv) hout
  · exact hout.elim

theorem run_method_ptr {P:Program} {w:World} {t e:TypeId} {name:String} {i:TypeInfo} {m:Method} {f:FuncId} {v:Value} (n:Nat) (hi:P.info? t = some i) (hm:i.methods.find? (·.name == name) = some m) (hp:m.path.isEmpty = true) (hf:m.func = some (f,true)) (hu:P.underlying t = some (.pointer e)) :
    (method (n + 1) t v name).run P w = .ok (f,v) w:=by
  have hpe:m.path.toList = []:=by simpa using hp
  unfold method
  simp only [Sem.run_bind,run_typeInfo w hi,Result.andThen_ok,hm,hpe,follow,Sem.run_pure,hf,receiverAt,run_underlying hu,Place.get]
theorem wrap_nil {ats:Array TypeId} {xt:TypeId} {p:Addr} {s m:String}:Builtin.ssaWrapNilChk_ ats xt #[.pointer (some p),strVal s,strVal m] = pure (.pointer (some p)):=rfl
theorem run_method_val {P:Program} {w:World} {t e:TypeId} {name:String} {i:TypeInfo} {m:Method} {f:FuncId} {p:Addr} {v:Value} (n:Nat) (hi:P.info? t = some i) (hm:i.methods.find? (·.name == name) = some m) (hp:m.path.isEmpty = true) (hf:m.func = some (f,false)) (hu:P.underlying t = some (.pointer e)) (hl:(loadVar e p).run P w = .ok v w) :
    (method (n + 1) t (.pointer (some p)) name).run P w = .ok (f,v) w:=by
  have hpe:m.path.toList = []:=by simpa using hp
  unfold method
  simp only [Sem.run_bind,run_typeInfo w hi,Result.andThen_ok,hm,hpe,hp,follow,Sem.run_pure,hf,receiverAt,run_underlying hu,Place.get,if_true,wrap_nil,asAddr,hl]
theorem op_invoke (hE:EnvOK E) (h:Full n w0 S0 s a w ν S) (ho:opOK n o = true) {c:Call} {g:Operand} {name:String} (hop:o.op = .call c) (hcal:c.callee = .invoke g name) (hout:OutK E (stepF E F s o) (fun l => K (s.fin o.dst l))):o.wp E.P a w (fun a' w' => ∃ s',K s' ∧ Rel n w0 S0 s' a' w') Q:=by
  obtain ⟨callee,args,argTypes⟩:=c
  simp only at hcal
  subst hcal
  simp only [stepF,hop] at hout
  have hg:=h.ev (x:=g) (opOK_arg ho (by simp [hop,Op.operands,Call.operands]))
  have hall:=evAll_rel h args.toList (fun y hy => opOK_arg ho (by
    have:y ∈ args:=Array.mem_toList_iff.1 hy
    simp [hop,Op.operands,Call.operands,this]))
  unfold invokeO at hout
  split at hout
  · rename_i t p hev
    rw [hev] at hg
    simp only [PRel,PRels] at hg
    obtain ⟨u,hgv,v,r,hvr,hq,hr⟩:=hg
    subst hr
    injection hvr with hvr
    subst hvr
    have run : ∀ (f : Nat) (v' : Value), (method (E.P.types.size + Made.depth) t u name).run E.P w = .ok (f, v') w → ∀ fn : Func, E.P.funcs[f]? = some fn → fn.body.isSome = true → fn.name ≠ "runtime.NumGoroutine" → (execOp a.eval o).run E.P w = .ok (.enter f (v' :: args.toList.map a.eval).toArray) w := by
      intro f v' hm fn hfn1 hfn2 hfn3
      have hb:fn.body.isNone = false:=by cases hb:fn.body <;> simp_all
      have hn : (fn.name == "runtime.NumGoroutine") = false := by simpa using hfn3
      have harr:#[v'] ++ args.map a.eval = (v' :: args.toList.map a.eval).toArray:=by apply Array.toList_inj.1; simp
      have hext:(#[Value.iface t u] ++ args.map a.eval).extract 1 (#[Value.iface t u] ++ args.map a.eval).size = args.map a.eval:=by apply Array.toList_inj.1; simp; exact List.take_of_length_le (by simp)
      have h0:(#[Value.iface t u] ++ args.map a.eval)[0]? = some (.iface t u):=by rw [Array.getElem?_append_left (by simp)]; rfl
      simp only [execOp,hop,resolve,hgv,Sem.run_bind,Sem.run_pure,Result.andThen_ok,invoke,h0,hext,callMethod,run_program,hm,callFunc,hfn1,hn,Bool.false_eq_true,if_false,hb]
      simp only [Sem.run_pure,Array.append_empty,← harr]
    obtain ⟨n',hn'⟩:∃ n',E.P.types.size + Made.depth = n' + 1:=⟨E.P.types.size + 99,rfl⟩
    rw [hn'] at run
    split at hout
    · rename_i f hmeth
      have hm:=hE.meth _ _ _ _ hmeth
      unfold methB at hm
      split at hm
      · rename_i i e hi hu
        split at hm
        · rename_i m hfind
          rw [Bool.and_eq_true] at hm
          obtain ⟨hp,hm⟩:=hm
          split at hm
          · rename_i g' hfu _
            obtain rfl:=Nat.eq_of_beq_eq_true hm
            exact call_main hE h ho (pargs:=p :: evAll s args.toList) (vargs:=u :: args.toList.map a.eval) (by simp only [PRels]; exact ⟨u,_,rfl,hq,hall⟩) (run _ u (run_method_ptr n' hi hfind hp hfu hu)) hout
          · rename_i g' e' hfu hmd
            cases hmd
          · cases hm
        · cases hm
      · cases hm
    · rename_i f e' hmeth
      have hm:=hE.meth _ _ _ _ hmeth
      unfold methB at hm
      split at hout
      · rename_i id off
        split at hout
        · rename_i T cs te hT hl
          obtain ⟨hl,_⟩:=lk_some hl
          have hf:=hE.facts hT
          split at hout
          · rename_i hble
            have hble:=Nat.le_of_ble_eq_true hble
            simp only [PRel] at hq
            obtain ⟨hd,gg,hgg,hv⟩:=hq
            obtain ⟨hty,g',vs,e,hg',hB,hnS,hh,h1,hrel⟩:=h.W.blk _ _ hl
            simp only [Full.c] at hgg
            simp only at hg'
            rw [hgg] at hg'
            obtain rfl:gg = g':=by injection hg' with e1; injection e1 with e1; injection e1
            have hcl:=PRels_len hrel
            have hc:=(box_cells hh).part off T.cells
            rw [Nat.zero_add] at hc
            have hld:=run_loadVar hf (by rw [List.length_take,List.length_drop]; omega) hc
            split at hm
            · rename_i i e2 hi hu
              split at hm
              · rename_i m hfind
                rw [Bool.and_eq_true] at hm
                obtain ⟨hp,hm⟩:=hm
                split at hm
                · rename_i hmd
                  cases hmd
                · rename_i gf e3 hfu hmd
                  injection hmd with hmd
                  rw [Bool.and_eq_true] at hm
                  obtain rfl:=Nat.eq_of_beq_eq_true hm.1
                  have he2:=Nat.eq_of_beq_eq_true hm.2
                  subst hmd
                  subst he2
                  subst hv
                  exact call_main hE h ho (pargs:=join T ((cs.drop off).take T.cells) :: evAll s args.toList) (vargs:=_ :: args.toList.map a.eval)
                    (by simp only [PRels]; exact ⟨_,_,rfl,join_rel (by rw [List.length_take,List.length_drop]; omega) hf.val (fun u hu => h1 u (List.mem_of_mem_drop (List.mem_of_mem_take hu))) (PRels_take _ (PRels_drop _ hrel)),hall⟩)
                    (run _ _ (run_method_val n' hi hfind hp hfu hu hld)) hout
                · cases hm
              · cases hm
            · cases hm
          · exact hout.elim
        · exact hout.elim
      · exact hout.elim
    · exact hout.elim
  · exact hout.elim
end
end Go.Proofs.Ytefpgfdemmllpaa
namespace Go.Proofs.Ytefpgfdemmllpaa
open Go.RowKit

section
variable {E:Env} {n:Nat} {w0:World} {S0:Cx} {s:St} {a:Act} {w:World} {ν:Nat → Value} {S:Nat → Prop} {F:Reg} {o:Oper} {K:St → Prop} {Q:Exit → Act → World → Prop}

theorem op_store (hE:EnvOK E) (h:Full n w0 S0 s a w ν S) (ho:opOK n o = true) {t:Nat} {x y:Operand} (hop:o.op = .store t x y) (hout:OutK E (stepF E F s o) (fun l => K (s.fin o.dst l))):o.wp E.P a w (fun a' w' => ∃ s',K s' ∧ Rel n w0 S0 s' a' w') Q:=by
  simp only [stepF,hop] at hout
  split at hout
  · rename_i hdst
    split at hout
    · exact op_store0 hE h ho hop hdst hout
    · rename_i k ks _
      split at hout
      · rename_i i b hs
        refine op_store0 (F:=F) hE (h.sealed (k :: ks)) ho hop hdst ?_
        rw [hs,hdst]
        rw [hdst] at hout
        exact hout
      · exact hout.elim
  · exact hout.elim

theorem op_sound (hE:EnvOK E) (h:Full n w0 S0 s a w ν S) (ho:opOK n o = true) (hout:OutK E (stepF E F s o) (fun l => K (s.fin o.dst l))):o.wp E.P a w (fun a' w' => ∃ s',K s' ∧ Rel n w0 S0 s' a' w') Q:=by
  have bad:∀ m,stepF E F s o = .fail m → o.wp E.P a w (fun a' w' => ∃ s',K s' ∧ Rel n w0 S0 s' a' w') Q:=by
    intro m hm
    rw [hm] at hout
    exact hout.elim
  cases hop:o.op with
  | move x => exact op_move h ho hop hout
  | assign x => exact op_assign h ho hop hout
  | pick c x y => exact op_pick h ho hop hout
  | alloc t => exact op_alloc hE h ho hop hout
  | box t x => exact op_box h ho hop hout
  | build t ps => exact op_build hE h ho hop hout
  | buildSlice t m ps => exact op_buildSlice hE h ho hop hout
  | load t x => exact op_load hE h ho hop hout
  | store t x y => exact op_store hE h ho hop hout
  | binOp op t x y t2 => exact op_binOp hE h ho hop hout
  | unOp op t x => exact op_unOp h ho hop hout
  | convert t1 t x => exact op_convert hE h ho hop hout
  | makeInterface t x => exact op_makeInterface hE h ho hop hout
  | makeFunc fn first caps =>
    cases fn with
    | func f => exact op_makeFunc h ho hop hout
    | _ => exact bad 76 (by simp only [stepF,hop])
  | makeSlice t l c => exact op_makeSlice hE h ho hop hout
  | slice t x lo hi mx => exact op_slice hE h ho hop hout
  | fieldAddr t x f => exact op_fieldAddr hE h ho hop hout
  | field t x f => exact op_field hE h ho hop hout
  | indexAddr t x i => exact op_indexAddr hE h ho hop hout
  | index t x i => exact op_index hE h ho hop hout
  | extract x i => exact op_extract h ho hop hout
  | makeMap t r =>
    cases r with
    | none => exact op_makeMap hE h ho hop hout
    | some r => exact bad 76 (by simp only [stepF,hop])
  | lookup t x y ok => exact op_lookup hE h ho hop hout
  | mapUpdate t x y z => exact op_mapUpdate hE h ho (.inl hop) hout
  | insert t x y z => exact op_mapUpdate hE h ho (.inr hop) hout
  | range t x => exact op_range hE h ho hop hout
  | next x b => exact op_next hE h ho hop hout
  | entry x => exact op_entry hE h ho hop hout
  | nilCheck x => exact op_nilCheck h ho hop hout
  | typeAssert x xt u ok => exact op_typeAssert hE h ho hop hout
  | call c =>
    cases hc:c.callee with
    | value g => exact op_call hE h ho hop hc hout
    | invoke r m => exact op_invoke hE h ho hop hc hout
    | builtin b =>
      cases b with
      | len => exact op_len hE h ho hop hc hout
      | cap => exact op_cap hE h ho hop hc hout
      | append => exact op_append hE h ho hop hc hout
      | min => exact op_min h ho hop hc hout
      | max => exact op_max h ho hop hc hout
      | _ => exact bad 75 (by simp only [stepF,hop,hc])
  | _ => exact bad 76 (by simp only [stepF,hop])
end

/-! ### The walk -/

def madeAt (o:Oper):List Nat:=match o.op,o.dst with
  | .makeMap _ _,some d => [d] | .range _ _,some d => [d] | .alloc _,some d => [d] | .box _ _,some d => [d] | .buildSlice _ _ _,some d => [d] | .makeSlice _ _ _,some d => [d] | .call _,some d => [d]
  | _,_ => []
def made:List Oper → List Nat
  | [] => [] | o :: r => madeAt o ++ made r
def bindsAny (e:Edge):Bool:=match e.ground with | .textOnly _ => false | .gcOnly _ => false | _ => true
def nthL:List (List Nat) → Nat → List Nat
  | [],_ => [] | x :: _,0 => x | _ :: r,n + 1 => nthL r n
def before (acc:List (List Nat)):List Edge → List Nat
  | [] => [] | e :: r => (match bindsAny e with | true => nthL acc e.on | false => []) ++ before acc r
def without:List Nat → List Nat → List Nat
  | [],_ => [] | d :: r,xs => match mem1 d xs with | true => without r xs | false => d :: without r xs
def nthO:List Oper → Nat → Option Oper
  | [],_ => none | x :: _,0 => some x | _ :: r,n + 1 => nthO r n
def guardDst (all:List Oper) (j:Nat):Option Nat:=match nthO all j with | some o => o.dst | none => none
def dstAt:List Oper → Nat → Option Op
  | [],_ => none | o :: r,p => match o.dst with | some d => (match Nat.beq d p with | true => some o.op | false => dstAt r p) | none => dstAt r p
def rootP (all:List Oper):Nat → Nat → Nat
  | 0,p => p
  | n + 1,p => match dstAt all p with
    | some (.fieldAddr _ (.tmp q) _) => rootP all n q | some (.indexAddr _ (.tmp q) _) => rootP all n q | some (.move (.tmp q)) => rootP all n q | _ => p
def rootG (all:List Oper) (q:Oper):List Nat:=match q.op with | .store _ (.tmp p) _ => [rootP all 4 p] | _ => []
def looks (o:Oper):Bool:=match o.op with | .load _ _ => true | _ => false
def looseH (all:List Oper):List Edge → List Nat
  | [] => [] | e :: r => (match bindsAny e with | true => [] | false => (match nthO all e.on with | some q => rootG all q | none => [])) ++ looseH all r
def hasLoose (all:List Oper):List Edge → Bool
  | [] => false | e :: r => (match bindsAny e with | true => false | false => (match nthO all e.on with | some q => looks q | none => false)) || hasLoose all r
def stG (all:List Oper) (o:Oper):List Nat:=match hasLoose all o.after.toList with | true => rootG all o | false => []
def plus2:List Nat → List Nat
  | [] => [] | g :: r => (2000000000 + g) :: plus2 r
def hasOn (i:Nat):List Edge → Bool
  | [] => false | e :: r => (match bindsAny e with | true => false | false => Nat.beq e.on i) || hasOn i r
def earlyH (all:List Oper) (i:Nat):List Oper → List Nat
  | [] => [] | q :: r => (match q.op with | .store _ _ _ => (match hasOn i q.after.toList with | true => rootG all q | false => []) | _ => []) ++ earlyH all i r
def peeks (o:Oper):Bool:=match o.op with
  | .move _ => false | .assign _ => false | .pick _ _ _ => false | .build _ _ => false | .binOp _ _ _ _ _ => false | .unOp _ _ _ => false | .fieldAddr _ _ _ => false | .field _ _ _ => false | .extract _ _ => false | .store _ _ _ => false | .alloc _ => false | .box _ _ => false | .buildSlice _ _ _ => false
  | _ => true
def earlyO (all:List Oper) (n:Nat) (o:Oper):List Nat:=match peeks o with | true => earlyH all n all | false => []
def forb (all:List Oper) (N:List Nat) (acc:List (List Nat)) (o:Oper):Reg:=match N with
  | [] => ⟨[],true⟩ | _ :: _ => ⟨without N (before acc o.after.toList) ++ (looseH all o.after.toList ++ (earlyO all acc.length o ++ plus2 (stG all o))),false⟩
def madeD (l:List Oper):List Nat:=999999999 :: made l
def nub:List Nat → List Nat
  | [] => [] | x :: r => bif mem1 x r then nub r else x :: nub r
def step1 (N:List Nat) (acc:List (List Nat)) (o:Oper):List (List Nat):=match N with
  | [] => [] | _ :: _ => acc ++ [nub (madeAt o ++ before acc o.after.toList)]


def exitW (id:Nat):List WI → Option (List WI)
  | .blk i :: k => match Nat.beq i id with | true => some k | false => exitW id k
  | .code _ :: k => exitW id k
  | .loop _ :: k => exitW id k
  | .tail _ _ :: _ => none
  | .rest _ _ :: _ => none
  | [] => none

def rvals (E:Env) (s:St):List ResultVar → Option (List PV)
  | [] => some []
  | .tmp t :: r => match rvals E s r with | some ps => some (s.get t :: ps) | none => none
  | .cell t ty :: r => match loadO E ⟨[],true⟩ s.bl ty (s.get t),rvals E s r with | .val p,some ps => some (p :: ps) | _,_ => none
def leCells:List PV → List PV → Prop
  | [],[] => True | p :: ps,q :: qs => (p = q ∨ q = .any) ∧ leCells ps qs | _,_ => False
def leB:Option Blk → Blk → Prop
  | some (.box cs e),.box ds e' => leCells cs ds ∧ (e' = none ∨ e' = e)
  | some b,c => b = c
  | none,_ => False
def leBl (s:St):List (Nat × Blk) → Prop
  | [] => True | p :: r => leB (look p.1 s.bl) p.2 ∧ leBl s r
def innBl (ks:List Nat):List (Nat × Blk) → Bool
  | [] => true | p :: r => blkIn ks p.2 && innBl ks r
def onePV:List PV → PV
  | [p] => p | ps => .tup ps
def retV (G:Goal) (s:St) (ps:List PV):PV → Prop
  | .iv T r => owns T = 0 ∧ expR ⟨keys G.bl,true⟩ s.bl T ps = some r
  | p => onePV ps = p ∧ PV.inn (keys G.bl) p = true
def retQ (E:Env) (G:Goal) (s:St) (p:PV):Prop:=match rvals E s G.rv with
  | some ps => retV G s ps p ∧ leBl s G.bl ∧ innBl (keys G.bl) G.bl = true
  | none => False
def keepL (s:St):List (Nat × Nat) → Prop
  | [] => True
  | p :: r => (P0 ≤ p.2 ∧ s.get p.1 = .ref p.2 0) ∧ keepL s r
theorem keepL_at {s:St}:∀ {l:List (Nat × Nat)},keepL s l → ∀ p,p ∈ l → P0 ≤ p.2 ∧ s.get p.1 = .ref p.2 0
  | _ :: _,h,p,hp => by
    rcases List.mem_cons.1 hp with rfl | hp
    · exact h.1
    · exact keepL_at h.2 p hp
theorem keepL_of {s:St}:∀ {l:List (Nat × Nat)},(∀ p,p ∈ l → P0 ≤ p.2 ∧ s.get p.1 = .ref p.2 0) → keepL s l
  | [],_ => trivial
  | _ :: _,h => ⟨h _ (List.mem_cons_self ..),keepL_of fun p hp => h p (List.mem_cons_of_mem _ hp)⟩
def keepX (G:Goal) (s:St):Prop:=keepL s (keepG G)
def offB (t:Nat):List Oper → Bool
  | [] => true
  | o :: r => (match o.dst with | some d => !(Nat.beq d t) | none => true) && offB t r
def offL (ops:List Oper):List (Nat × Nat) → Bool
  | [] => true
  | p :: r => offB p.1 ops && offL ops r
theorem offL_at {ops:List Oper}:∀ {l:List (Nat × Nat)},offL ops l = true → ∀ p,p ∈ l → offB p.1 ops = true
  | _ :: _,h,p,hp => by
    simp only [offL,Bool.and_eq_true] at h
    rcases List.mem_cons.1 hp with rfl | hp
    · exact h.1
    · exact offL_at h.2 p hp
def keepOff (G:Goal) (ops:List Oper):Bool:=offL ops (keepG G)
def retX (G:Goal) (s:St):Prop:=G.pan = true ∧ leBl s G.bl ∧ innBl (keys G.bl) G.bl = true ∧ keepX G s
def boomC (E:Env) (G:Goal) (s:St) (f:Nat) (args:List PV):Prop:=match E.fn f with
  | some (As,_) => (match expAll ⟨[],true⟩ s.bl As args with | some xs => XC E f xs ∧ retX G s | none => False)
  | none => match E.hfn f with
    | some As => (match hArgs E ⟨keys s.bl,true⟩ s.bl As args with
      | some ps => (match nodupB (reach s.bl 60 (PV.idsL ps) []) && PV.innL (reach s.bl 60 (PV.idsL ps) []) ps && innIds (reach s.bl 60 (PV.idsL ps) []) s.bl (reach s.bl 60 (PV.idsL ps) []) with
        | true => ∃ bl',XH E f (PV.renL (fwd (reach s.bl 60 (PV.idsL ps) [])) ps) (passed (reach s.bl 60 (PV.idsL ps) []) s.bl (reach s.bl 60 (PV.idsL ps) []) P0) bl' ∧ (keepB (passed (reach s.bl 60 (PV.idsL ps) []) s.bl (reach s.bl 60 (PV.idsL ps) []) P0) bl' && newB (passed (reach s.bl 60 (PV.idsL ps) []) s.bl (reach s.bl 60 (PV.idsL ps) []) P0) (keys s.bl) none bl') = true ∧ retX G (s.hret0 none (reach s.bl 60 (PV.idsL ps) []) .any bl')
        | false => False)
      | none => False)
    | none => False
def boomP (E:Env) (G:Goal) (s:St) (o:Oper):Prop:=match o.op with
  | .panic x => (match s.ev x with | .ifc _ _ => retX G s | _ => False)
  | .call c => (match c.callee with
    | .value g => (match s.ev g with
      | .fn f caps => boomC E G s f (evAll s c.args.toList ++ caps)
      | .iv .fnv f => boomC E G s f (evAll s c.args.toList)
      | _ => False)
    | _ => False)
  | _ => False
def canPan (E:Env) (G:Goal) (N:List Nat) (s:St) (o:Oper):Bool:=match G.pan,N with
  | false,_ => false
  | true,_ :: _ => false
  | true,[] => match o.op with
    | .panic _ => true
    | .call c => (match c.callee with
      | .value g => (match s.ev g with | .fn f _ => E.px f | .iv .fnv f => E.px f | _ => false)
      | _ => false)
    | _ => false
def retP (E:Env) (G:Goal) (s:St):Prop:=match G.pan with
  | true => False
  | false => match G.more with
    | none => retQ E G s G.p
    | some Y => ∃ r:Y.1.den,Y.2.1 r ∧ retQ E { G with bl:=Y.2.2.2 r } s (Y.2.2.1 r)

def headsOf:List (List Nat) → List Nat
  | [] => [] | [] :: r => headsOf r | (i :: _) :: r => match mem1 i (headsOf r) with | true => headsOf r | false => i :: headsOf r
def tailsOf (i:Nat):List (List Nat) → List (List Nat)
  | [] => [] | [] :: r => tailsOf i r | (j :: l) :: r => match Nat.beq i j with | true => l :: tailsOf i r | false => tailsOf i r
def cutOf (l:List (List Nat)):Option Nat:=match l with
  | x :: r => (match x with | [] => (match r with | y :: _ => (match y with | c :: _ => some c | [] => none) | [] => none) | _ :: _ => none)
  | [] => none
def Stuck (_m:Nat):Prop:=False

mutual
def pw (E:Env) (G:Goal):Nat → List WI → St → Prop
  | 0,_,_ => Stuck 1000
  | n + 1,todo,s => match todo with
    | [] => retP E G s
    | .blk _ :: k => pw E G n k s
    | .loop c :: k => Walks E G (.loop c :: k) s
    | .rest all B :: k => po E G n all [] [] B k s
    | .tail all orders :: k => (match headsOf orders with
      | [] => pw E G n k s
      | h :: hs => pt E G n all orders (h :: hs) k s)
    | .code c :: k => match c with
      | .skip => pw E G n k s
      | .seq x y => pw E G n (.code x :: .code y :: k) s
      | .region id ops d => match E.stp G.f id with
        | true => Walks E G (.code (.region id ops d) :: k) s
        | false => match d with
          | false => po E G n ops.toList [] [] ops.toList k s
          | true => match E.fl G.f id with
            | [] => po E G n ops.toList (madeD ops.toList) [] ops.toList k s
            | x :: l => match cutOf (x :: l) with
              | some c => po E G n ops.toList (madeD ops.toList) [] (ops.toList.take c) (.rest ops.toList (ops.toList.drop c) :: k) s
              | none => keepOff G ops.toList = true ∧ pw E G n (.tail ops.toList (x :: l) :: k) s
      | .cond x c1 c2 => match s.ev x with
        | .iv .bool b => (b = true → pw E G n (.code c1 :: k) s) ∧ (b = false → pw E G n (.code c2 :: k) s)
        | _ => Stuck 1001
      | .block id b => pw E G n (.code b :: .blk id :: k) s
      | .loop b => Walks E G (.code (.loop b) :: k) s
      | .exit id => match exitW id k with | some k' => pw E G n k' s | none => Stuck 1002
      | .ret => retP E G s
      | _ => Stuck 1003
def po (E:Env) (G:Goal):Nat → List Oper → List Nat → List (List Nat) → List Oper → List WI → St → Prop
  | 0,_,_,_,_,_,_ => Stuck 1000
  | n + 1,all,N,acc,os,k,s => match os with
    | [] => pw E G n k s
    | o :: os => match o.guard with
      | none => match canPan E G N s o with
        | false => pq E G n (stepF E (forb all N acc o) s o) o.dst all N (step1 N acc o) os k s
        | true => pq E G n (stepF E (forb all N acc o) s o) o.dst all N (step1 N acc o) os k s ∨ boomP E G s o
      | some (j,want) => match guardDst all j with
        | some d => match s.get d with
          | .iv .bool b => (b = want → pq E G n (stepF E (forb all N acc o) (s.set d (.iv .bool want)) o) o.dst all N (step1 N acc o) os k (s.set d (.iv .bool want))) ∧
              (b = !want → po E G n all N (step1 N acc o) os k ((s.set d (.iv .bool (!want))).put o.dst (.tup [])))
          | .tup [] => po E G n all N (step1 N acc o) os k (s.put o.dst (.tup []))
          | _ => Stuck 1004
        | none => Stuck 1005
def pt (E:Env) (G:Goal):Nat → List Oper → List (List Nat) → List Nat → List WI → St → Prop
  | 0,_,_,_,_,_ => Stuck 1000
  | _ + 1,_,_,[],_,_ => True
  | n + 1,all,orders,h :: hs,k,s => (match nthO all h with
      | some o => po E G n all [] [] [o] (.tail all (tailsOf h orders) :: k) s
      | none => Stuck 1008) ∧ pt E G n all orders hs k s
def pq (E:Env) (G:Goal):Nat → Out → Option Nat → List Oper → List Nat → List (List Nat) → List Oper → List WI → St → Prop
  | 0,_,_,_,_,_,_,_,_ => Stuck 1000
  | n + 1,out,d,all,N,acc,os,k,s => match out with
    | .fail m => Stuck m
    | .need p o => p ∧ pq E G n o d all N acc os k s
    | .exi T p f => ∃ x:T.den,p x ∧ pq E G n (f x) d all N acc os k s
    | .call f xs T g => ∃ r:T.den,PC E f xs T r ∧ (T.ok r → pq E G n (g r) d all N acc os k s)
    | .ncall f xs T g => ∃ Y:T.den → Prop,PN E f xs T Y ∧ ∀ r,Y r → T.ok r → pq E G n (g r) d all N acc os k s
    | .val v => po E G n all N acc os k (s.put d v)
    | .new v b => match d with | some d => po E G n all N acc os k ⟨(d,v) :: s.sl,(d,b) :: s.bl⟩ | none => Stuck 1006
    | .store i b => po E G n all N acc os k ⟨s.sl,(i,b) :: s.bl⟩
    | .append i j b => match d with | some d => po E G n all N acc os k ⟨(d,.lfull j) :: (s.kill [i]).sl,(j,b) :: dropBl [i] (s.kill [i]).bl⟩ | none => Stuck 1007
    | .hret ids p bl => po E G n all N acc os k (s.hret d ids p bl)
    | .sealed ks v => po E G n all N acc os k ((s.sealw ks).put d v)
    | .upd i b v => match d with | some d => po E G n all N acc os k ⟨(d,v) :: s.sl,(i,b) :: s.bl⟩ | none => po E G n all N acc os k ⟨s.sl,(i,b) :: s.bl⟩
    | .sstore ks i b => po E G n all N acc os k ⟨(s.sealw ks).sl,(i,b) :: (s.sealw ks).bl⟩
    | .imp p o => p → pq E G n o d all N acc os k s
    | .both a b => pq E G n a d all N acc os k s ∧ pq E G n b d all N acc os k s
    | .allx T p f => ∀ x:T.den,p x → pq E G n (f x) d all N acc os k s
    | .alln p f => ∀ i:Nat,p i → pq E G n (f i) d all N acc os k s
    | .hcall f args bl ids fl used d' => ∃ p bl',HC E f args bl p bl' ∧ hOK bl bl' fl used d' p = true ∧ (okP p → okBl bl' → po E G n all N acc os k (s.hret d ids p bl'))
    | .hncall f args bl ids fl used d' => ∃ (T:Ty) (Y:T.den → Prop) (p:T.den → PV) (bl':T.den → List (Nat × Blk)),HN E f args bl T Y p bl' ∧ ∀ r,Y r → hOK bl (bl' r) fl used d' (p r) = true ∧ (okP (p r) → okBl (bl' r) → po E G n all N acc os k (s.hret d ids (p r) (bl' r)))
end

theorem pq_outK {E:Env} {G:Goal} {d:Option Nat} {all:List Oper} {N:List Nat} {acc:List (List Nat)} {os:List Oper} {k:List WI} {s:St}:∀ (n:Nat) (out:Out),pq E G n out d all N acc os k s → OutK E out (fun l => ∃ m,m < n ∧ po E G m all N acc os k (s.fin d l))
  | 0,out,h => by simp only [pq] at h; exact h.elim
  | n + 1,out,h => by
    have up:∀ l,(∃ m,m < n ∧ po E G m all N acc os k (s.fin d l)) → ∃ m,m < n + 1 ∧ po E G m all N acc os k (s.fin d l):=fun l ⟨m,h1,h2⟩ => ⟨m,by omega,h2⟩
    have mono:∀ (o:Out),OutK E o (fun l => ∃ m,m < n ∧ po E G m all N acc os k (s.fin d l)) → OutK E o (fun l => ∃ m,m < n + 1 ∧ po E G m all N acc os k (s.fin d l)):=by
      intro o
      induction o with
      | need p o ih => exact fun h => ⟨h.1,ih h.2⟩
      | exi T p f ih => exact fun ⟨x,h1,h2⟩ => ⟨x,h1,ih x h2⟩
      | call f xs T g ih => exact fun ⟨r,h1,h2⟩ => ⟨r,h1,fun h => ih r (h2 h)⟩
      | ncall f xs T g ih => exact fun ⟨Y,h1,h2⟩ => ⟨Y,h1,fun r hy hr => ih r (h2 r hy hr)⟩
      | fail m => exact fun h => h
      | val v => exact up _
      | new v b => exact up _
      | store i b => exact up _
      | append i j b => exact up _
      | hret ids p bl => exact up _
      | sealed ks v => exact up _
      | upd i b v => exact up _
      | sstore ks i b => exact up _
      | imp p o ih => exact fun h hp => ih (h hp)
      | both a b iha ihb => exact fun h => ⟨iha h.1,ihb h.2⟩
      | allx T p f ih => exact fun h x hx => ih x (h x hx)
      | alln p f ih => exact fun h x hx => ih x (h x hx)
      | hcall f args bl ids fl used d' => exact fun ⟨p,bl',h1,h2,h3⟩ => ⟨p,bl',h1,h2,fun a b => up _ (h3 a b)⟩
      | hncall f args bl ids fl used d' => exact fun ⟨T,Y,p,bl',h1,h2⟩ => ⟨T,Y,p,bl',h1,fun r hy => ⟨(h2 r hy).1,fun a b => up _ ((h2 r hy).2 a b)⟩⟩
    cases out with
    | fail m => simp only [pq] at h; exact h.elim
    | need p o => simp only [pq] at h; exact ⟨h.1,mono _ (pq_outK n o h.2)⟩
    | exi T p f => simp only [pq] at h; obtain ⟨x,h1,h2⟩:=h; exact ⟨x,h1,mono _ (pq_outK n (f x) h2)⟩
    | call f xs T g => simp only [pq] at h; obtain ⟨r,h1,h2⟩:=h; exact ⟨r,h1,fun hr => mono _ (pq_outK n (g r) (h2 hr))⟩
    | ncall f xs T g => simp only [pq] at h; obtain ⟨Y,h1,h2⟩:=h; exact ⟨Y,h1,fun r hy hr => mono _ (pq_outK n (g r) (h2 r hy hr))⟩
    | val v => simp only [pq] at h; exact ⟨n,by omega,h⟩
    | new v b =>
      simp only [pq] at h
      split at h
      · exact ⟨n,by omega,h⟩
      · exact h.elim
    | store i b => simp only [pq] at h; exact ⟨n,by omega,h⟩
    | append i j b =>
      simp only [pq] at h
      split at h
      · exact ⟨n,by omega,h⟩
      · exact h.elim
    | hret ids p bl => simp only [pq] at h; exact ⟨n,by omega,h⟩
    | sealed ks v => simp only [pq] at h; exact ⟨n,by omega,h⟩
    | upd i b v =>
      simp only [pq] at h
      split at h
      · exact ⟨n,by omega,h⟩
      · exact ⟨n,by omega,h⟩
    | sstore ks i b => simp only [pq] at h; exact ⟨n,by omega,h⟩
    | imp p o => simp only [pq] at h; exact fun hp => mono _ (pq_outK n o (h hp))
    | both a b => simp only [pq] at h; exact ⟨mono _ (pq_outK n a h.1),mono _ (pq_outK n b h.2)⟩
    | allx T p f => simp only [pq] at h; exact fun x hx => mono _ (pq_outK n (f x) (h x hx))
    | alln p f => simp only [pq] at h; exact fun x hx => mono _ (pq_outK n (f x) (h x hx))
    | hcall f args bl ids fl used d' => simp only [pq] at h; obtain ⟨p,bl',h1,h2,h3⟩:=h; exact ⟨p,bl',h1,h2,fun a b => ⟨n,by omega,h3 a b⟩⟩
    | hncall f args bl ids fl used d' => simp only [pq] at h; obtain ⟨T,Y,p,bl',h1,h2⟩:=h; exact ⟨T,Y,p,bl',h1,fun r hy => ⟨(h2 r hy).1,fun a b => ⟨n,by omega,(h2 r hy).2 a b⟩⟩⟩

def okC (dr:Nat → List Oper → Bool) (n:Nat):Code → Bool
  | .region id ops d => ops.toList.all (opOK n) && (!d || dr id ops.toList)
  | .seq a b => okC dr n a && okC dr n b
  | .cond _ a b => okC dr n a && okC dr n b
  | .block _ b => okC dr n b
  | .loop b => okC dr n b
  | _ => true
def okW (dr:Nat → List Oper → Bool) (n:Nat):WI → Bool
  | .code c => okC dr n c | .blk _ => true | .loop c => okC dr n c | .tail _ _ => false | .rest _ _ => false
def okT (dr:Nat → List Oper → Bool) (n:Nat):List WI → Bool
  | [] => true | x :: r => okW dr n x && okT dr n r
theorem nthO_eq:∀ (l:List Oper) (j:Nat),nthO l j = l[j]?
  | [],j => by simp [nthO]
  | x :: r,0 => by simp [nthO]
  | x :: r,j + 1 => by simp [nthO,nthO_eq r j]

theorem get_same {s:St} {d:Nat} {b want:Bool} (hb:s.get d = .iv .bool b) (e:b = want):∀ t,(s.set d (.iv .bool want)).get t = s.get t:=by
  intro t
  by_cases ht:t = d
  · subst ht; rw [get_set_self,hb,e]
  · exact get_set_ne s _ ht

theorem Full.same {n:Nat} {w0:World} {S0:Cx} {s s':St} {a:Act} {w:World} {ν:Nat → Value} {S:Nat → Prop} (h:Full n w0 S0 s a w ν S) (hg:∀ t,s'.get t = s.get t) (hb:s'.bl = s.bl):Full n w0 S0 s' a w ν S:=by
  obtain ⟨sl,bl⟩:=s
  obtain ⟨sl',bl'⟩:=s'
  simp only at hb
  subst hb
  exact ⟨h.below,h.inS,h.fresh,⟨h.W.lt,h.W.size,h.W.blk,h.W.ne⟩,fun t => by rw [hg t]; exact h.slots t,h.size,h.defers,h.few,h.kept,h.tab⟩
end Go.Proofs.Ytefpgfdemmllpaa
