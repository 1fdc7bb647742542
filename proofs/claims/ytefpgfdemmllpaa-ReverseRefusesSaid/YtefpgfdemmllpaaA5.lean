/-
  The computed walk is sound; loops; a function's contract from the walk over its body. Nothing here is trusted; no condition.
-/
import Derived.Test.YtefpgfdemmllpaaA4
set_option linter.unusedSimpArgs false
set_option linter.unusedVariables false
namespace Go.Proofs.Ytefpgfdemmllpaa
open Go.RowKit

def runs (E:Env) (G:Goal) (all:List Oper) (N:List Nat):List (List Nat) → List Oper → St → (St → Prop) → Prop
  | _,[],s,K => K s
  | acc,o :: os,s,K => match o.guard with
    | none => OutK E (stepF E (forb all N acc o) s o) (fun l => runs E G all N (step1 N acc o) os (s.fin o.dst l) K) ∨ (canPan E G N s o = true ∧ boomP E G s o)
    | some (j,want) => match guardDst all j with
      | some d => match s.get d with
        | .iv .bool b => (b = want → OutK E (stepF E (forb all N acc o) (s.set d (.iv .bool want)) o) (fun l => runs E G all N (step1 N acc o) os ((s.set d (.iv .bool want)).fin o.dst l) K)) ∧
            (b = !want → runs E G all N (step1 N acc o) os ((s.set d (.iv .bool (!want))).put o.dst (.tup [])) K)
        | .tup [] => runs E G all N (step1 N acc o) os (s.put o.dst (.tup [])) K
        | _ => False
      | none => False

theorem OutK_mono {E:Env} {K K':Out → Prop} (h:∀ l,K l → K' l):∀ (o:Out),OutK E o K → OutK E o K':=by
  intro o
  induction o with
  | need p o ih => exact fun h' => ⟨h'.1,ih h'.2⟩
  | exi T p f ih => exact fun ⟨x,h1,h2⟩ => ⟨x,h1,ih x h2⟩
  | call f xs T g ih => exact fun ⟨r,h1,h2⟩ => ⟨r,h1,fun h => ih r (h2 h)⟩
  | ncall f xs T g ih => exact fun ⟨Y,h1,h2⟩ => ⟨Y,h1,fun r hy hr => ih r (h2 r hy hr)⟩
  | fail m => exact fun h => h
  | val v => exact h _
  | new v b => exact h _
  | store i b => exact h _
  | append i j b => exact h _
  | hret ids p bl => exact h _
  | sealed ks v => exact h _
  | upd i b v => exact h _
  | sstore ks i b => exact h _
  | imp p o ih => exact fun h' hp => ih (h' hp)
  | both a b iha ihb => exact fun h' => ⟨iha h'.1,ihb h'.2⟩
  | allx T p f ih => exact fun h' x hx => ih x (h' x hx)
  | alln p f ih => exact fun h' x hx => ih x (h' x hx)
  | hcall f args bl ids fl used d => exact fun ⟨p,bl',h1,h2,h3⟩ => ⟨p,bl',h1,h2,fun a b => h _ (h3 a b)⟩
  | hncall f args bl ids fl used d => exact fun ⟨T,Y,p,bl',h1,h2⟩ => ⟨T,Y,p,bl',h1,fun r hy => ⟨(h2 r hy).1,fun a b => h _ ((h2 r hy).2 a b)⟩⟩

theorem po_runs {E:Env} {G:Goal} {all:List Oper} {N:List Nat} {k:List WI}:∀ (n:Nat) (acc:List (List Nat)) (os:List Oper) (s:St),po E G n all N acc os k s → runs E G all N acc os s (fun s' => ∃ m,m < n ∧ pw E G m k s'):=by
  intro n
  induction n using Nat.strongRecOn with
  | _ n ih =>
    intro acc os s h
    cases n with
    | zero => simp only [po] at h; exact h.elim
    | succ n =>
      have up:∀ (m:Nat) acc os s,m ≤ n → po E G m all N acc os k s → runs E G all N acc os s (fun s' => ∃ m,m < n + 1 ∧ pw E G m k s'):=by
        intro m acc os s hm hp
        have:=ih m (by omega) acc os s hp
        have mono:∀ (os:List Oper) (acc:List (List Nat)) (s:St) (K K':St → Prop),(∀ s,K s → K' s) → runs E G all N acc os s K → runs E G all N acc os s K':=by
          intro os
          induction os with
          | nil => intro acc s K K' hK h; exact hK _ h
          | cons o os ih =>
            intro acc s K K' hK h
            unfold runs at h ⊢
            split at h
            · exact h.imp (fun h => OutK_mono (fun l hl => ih _ _ K K' hK hl) _ h) id
            · split at h
              · split at h
                · exact ⟨fun e => OutK_mono (fun l hl => ih _ _ K K' hK hl) _ (h.1 e),fun e => ih _ _ K K' hK (h.2 e)⟩
                · exact ih _ _ K K' hK h
                · exact h.elim
              · exact h.elim
        exact mono _ _ _ _ _ (fun s ⟨m',h1,h2⟩ => ⟨m',by omega,h2⟩) this
      simp only [po] at h
      cases os with
      | nil => exact ⟨n,by omega,h⟩
      | cons o os =>
        simp only at h
        unfold runs
        split at h
        · rename_i hg
          simp only [hg]
          cases hp:canPan E G N s o with
          | false =>
            rw [hp] at h
            exact .inl (OutK_mono (fun l ⟨m,h1,h2⟩ => up m _ _ _ (by omega) h2) _ (pq_outK n _ h))
          | true =>
            rw [hp] at h
            exact h.imp (fun h => OutK_mono (fun l ⟨m,h1,h2⟩ => up m _ _ _ (by omega) h2) _ (pq_outK n _ h)) (fun h => ⟨rfl,h⟩)
        · rename_i j want hg
          split at h
          · rename_i d hd
            split at h
            · rename_i b hb
              simp only [hg,hd,hb]
              exact ⟨fun e => OutK_mono (fun l ⟨m,h1,h2⟩ => up m _ _ _ (by omega) h2) _ (pq_outK n _ (h.1 e)),fun e => up n _ _ _ (by omega) (h.2 e)⟩
            · rename_i hb
              simp only [hg,hd,hb]
              exact up n _ _ _ (by omega) h
            · exact h.elim
          · exact h.elim

section
variable {E:Env} {G:Goal} {w0:World} {S0:Cx}

def PanQ (G:Goal) (w0:World) (S0:Cx) (ch:List PanicEntry) (a:Act) (w:World):Prop:=G.pan = true ∧ a.defers = S0.df ∧ chOK ch ∧ keepA G S0 a ∧ PostH w0 S0 .any G.bl undef w
def RegQ (G:Goal) (w0:World) (S0:Cx) (K:St → Prop):Exit → Act → World → Prop
  | .normal,a,w => ∃ s,K s ∧ Rel G.n w0 S0 s a w
  | .panic ch,a,w => PanQ G w0 S0 ch a w
  | _,_,_ => False

theorem yielded_at {all:List Oper} {a:Act} {j d:Nat} {b:Bool} (hd:guardDst all j = some d) (hv:a.tmps.getD d undef = .bool b) (hlt:d < a.tmps.size):yielded all.toArray a.tmps j = some b:=by
  unfold guardDst at hd
  rw [nthO_eq] at hd
  split at hd
  · rename_i o ho
    unfold yielded
    have h1:a.tmps[d]? = some (.bool b):=by
      rw [Array.getD_eq_getD_getElem?,Array.getElem?_eq_getElem hlt] at hv
      rw [Array.getElem?_eq_getElem hlt]
      simpa using hv
    simp [ho,hd,h1]
  · cases hd

theorem guarded {n:Nat} {all:List Oper} {s:St} {a:Act} {w:World} {ν:Nat → Value} {S:Nat → Prop} (h:Full n w0 S0 s a w ν S) {d:Nat} {b:Bool} {j:Nat} (hd:guardDst all j = some d) (hdn:d < n) (hb:s.get d = .iv .bool b):yielded all.toArray a.tmps j = some b:=by
  have hs:=h.slots d
  rw [hb] at hs
  have hv:=PRel_val_bool hs
  exact yielded_at hd hv (by rw [h.size]; exact hdn)

theorem PRel_undef {c:Ctx}:PRel c (.tup []) undef:=by
  simp only [PRel,PRels]
  exact ⟨[],rfl,rfl⟩

theorem guarded_undef {n:Nat} {all:List Oper} {s:St} {a:Act} {w:World} {ν:Nat → Value} {S:Nat → Prop} (h:Full n w0 S0 s a w ν S) {d:Nat} {j:Nat} (hd:guardDst all j = some d) (hb:s.get d = .tup []):yielded all.toArray a.tmps j = none:=by
  have hs:=h.slots d
  rw [hb] at hs
  simp only [PRel,PRels] at hs
  obtain ⟨vs,h1,h2⟩:=hs
  subst h2
  unfold guardDst at hd
  rw [nthO_eq] at hd
  split at hd
  · rename_i o ho
    unfold yielded
    rw [Array.getD_eq_getD_getElem?] at h1
    cases ht:a.tmps[d]? with
    | none => simp [ho,hd,ht]
    | some v =>
      rw [ht] at h1
      simp only [Option.getD_some] at h1
      subst h1
      simp [ho,hd,ht]
  · cases hd

theorem guardDst_lt {n:Nat} {all:List Oper} (hall:all.all (opOK n) = true) {j d:Nat} (hd:guardDst all j = some d):d < n:=by
  unfold guardDst at hd
  rw [nthO_eq] at hd
  split at hd
  · rename_i o ho
    rw [List.all_eq_true] at hall
    exact opOK_dst (hall o (List.mem_of_getElem? ho)) d hd
  · cases hd

mutual
theorem PRel_inn {ν:Nat → Value} {D:Nat → Prop} {w:World} {M M':Mem} {bl:List (Nat × Blk)} (hS:∀ b,M.S b → M'.S b):∀ {p:PV} {v:Value},PV.inn (keys bl) p = true → PRel ⟨ν,D,w,M⟩ p v → PRel ⟨ν,(⟨[],bl⟩:St).D,w,M'⟩ p v
  | .iv T x,v,hi,h => by simp only [PRel] at h ⊢; exact ⟨h.1,RepR_mono (M:=M) (fun _ _ => rfl) hS h.1 h.2⟩
  | .ref id off,v,hi,h => by simp only [PRel] at h ⊢; exact ⟨mem1_keys' hi,h.2⟩
  | .eptr T x off,v,hi,h => by
    simp only [PRel] at h ⊢
    obtain ⟨ho,g,o,cs,h1,h2,h3,h4,h5⟩:=h
    exact ⟨ho,g,o,cs,h1,hS _ h2,h3,h4,RepC_mono (M:=M) (fun _ _ => rfl) hS _ _ _ ho h5⟩
  | .lfull id,v,hi,h => by simp only [PRel] at h ⊢; exact ⟨mem1_keys' hi,h.2⟩
  | .lsl id sz off len,v,hi,h => by simp only [PRel] at h ⊢; exact ⟨mem1_keys' hi,h.2⟩
  | .lptr id sz i off,v,hi,h => by simp only [PRel] at h ⊢; exact ⟨mem1_keys' hi,h.2⟩
  | .lmap id,v,hi,h => by simp only [PRel] at h ⊢; exact ⟨mem1_keys' hi,h.2⟩
  | .agg cs,v,hi,h => by simp only [PRel] at h ⊢; obtain ⟨vs,h1,h0,h2⟩:=h; exact ⟨vs,h1,h0,PRels_inn hS hi h2⟩
  | .tup cs,v,hi,h => by simp only [PRel] at h ⊢; obtain ⟨vs,h1,h2⟩:=h; exact ⟨vs,h1,PRels_inn hS hi h2⟩
  | .nilsl,v,hi,h => by simp only [PRel] at h ⊢; exact h
  | .nilptr,v,hi,h => by simp only [PRel] at h ⊢; exact h
  | .aptr i base T n j,v,hi,h => by simp only [PRel] at h ⊢; exact ⟨mem1_keys' hi,h.2⟩
  | .bnd f cs,v,hi,h => by simp only [PRel] at h ⊢; obtain ⟨vs,h1,h2⟩:=h; exact ⟨vs,h1,PRels_inn hS hi h2⟩
  | .ifc f cs,v,hi,h => by simp only [PRel] at h ⊢; obtain ⟨vs,h1,h2⟩:=h; exact ⟨vs,h1,PRels_inn hS hi h2⟩
  | .clip T xs,v,hi,h => by simp only [PRel] at h ⊢; exact ⟨h.1,h.2.1,RepC_mono (M:=M) (fun _ _ => rfl) hS (.sl T) _ _ h.1 h.2.2⟩
  | .fn f cs,v,hi,h => by simp only [PRel] at h ⊢; obtain ⟨vs,h1,h2⟩:=h; exact ⟨vs,h1,PRels_inn hS hi h2⟩
  | .any,v,hi,h => by simp only [PRel]
theorem PRels_inn {ν:Nat → Value} {D:Nat → Prop} {w:World} {M M':Mem} {bl:List (Nat × Blk)} (hS:∀ b,M.S b → M'.S b):∀ {ps:List PV} {vs:List Value},PV.innL (keys bl) ps = true → PRels ⟨ν,D,w,M⟩ ps vs → PRels ⟨ν,(⟨[],bl⟩:St).D,w,M'⟩ ps vs
  | [],vs,hi,h => by simp only [PRels] at h ⊢; exact h
  | p :: ps,vs,hi,h => by
    simp only [PV.innL,Bool.and_eq_true] at hi
    simp only [PRels] at h ⊢
    obtain ⟨v,r,h1,h2,h3⟩:=h
    exact ⟨v,r,h1,PRel_inn hS hi.1 h2,PRels_inn hS hi.2 h3⟩
end
theorem leBl_at {s:St}:∀ {l:List (Nat × Blk)} {t:Nat} {q:Blk},leBl s l → look t l = some q → leB (look t s.bl) q
  | [],t,q,_,h => by cases h
  | p :: r,t,q,h,hq => by
    simp only [look] at hq
    cases hb:Nat.beq t p.1 with
    | true =>
      simp only [hb,cond_true,Option.some.injEq] at hq
      have:=Nat.eq_of_beq_eq_true hb
      subst this; subst hq
      exact h.1
    | false => simp only [hb,cond_false] at hq; exact leBl_at h.2 hq
theorem innBl_at {ks:List Nat}:∀ {l:List (Nat × Blk)} {t:Nat} {b:Blk},innBl ks l = true → look t l = some b → blkIn ks b = true
  | [],t,b,_,h => by cases h
  | p :: r,t,b,h,hq => by
    simp only [innBl,Bool.and_eq_true] at h
    simp only [look] at hq
    cases hb:Nat.beq t p.1 with
    | true => simp only [hb,cond_true,Option.some.injEq] at hq; rw [← hq]; exact h.1
    | false => simp only [hb,cond_false] at hq; exact innBl_at h.2 hq
theorem leCells_rel {c:Ctx}:∀ {ps qs:List PV} {vs:List Value},leCells ps qs → PRels c ps vs → PRels c qs vs
  | [],[],vs,_,h => h
  | p :: ps,q :: qs,vs,hl,h => by
    simp only [PRels] at h ⊢
    obtain ⟨v,r,h1,h2,h3⟩:=h
    refine ⟨v,r,h1,?_,leCells_rel hl.2 h3⟩
    rcases hl.1 with e | e
    · rw [← e]; exact h2
    · rw [e]; simp only [PRel]
  | [],_ :: _,_,hl,_ => hl.elim
  | _ :: _,[],_,hl,_ => hl.elim
theorem leB_some {o:Option Blk} {b:Blk} (h:leB o b):∃ c,o = some c:=by
  cases o with
  | some c => exact ⟨c,rfl⟩
  | none => cases b <;> exact h.elim
theorem BRel_le {ν:Nat → Value} {D:Nat → Prop} {w:World} {S S' O:Nat → Prop} {bl:List (Nat × Blk)} (hS:∀ b,S b → S' b) {i:Nat} {b c:Blk} (hl:leB (some c) b) (hin:blkIn (keys bl) b = true)
    (hn:∀ g,blockOf (ν i) = some g → ¬ S g → ¬ S' g) (h:BRel ⟨ν,D,w,⟨S,O⟩⟩ i c):BRel ⟨ν,(⟨[],bl⟩:St).D,w,⟨S',O⟩⟩ i b:=by
  cases b with
  | box ds te' =>
    cases c with
    | box cs te =>
      obtain ⟨hty,g,vs,e,h1,h2,h3,h4,h0,h5⟩:=h
      obtain ⟨hl,hle⟩:=hl
      exact ⟨by rcases hle with rfl | rfl; exact elemIs_none _ _; exact hty.keep rfl fun _ _ => rfl,g,vs,e,h1,h2,hn g (by simp only at h1; rw [h1]; rfl) h3,h4,h0,PRels_inn hS hin (leCells_rel hl h5)⟩
    | arr T xs te => simp [leB] at hl
    | mp K V es => simp [leB] at hl
    | it a b c => simp [leB] at hl
    | sit a b => simp [leB] at hl
  | arr T xs te =>
    have hce:c = .arr T xs te:=by cases c <;> exact hl
    subst hce
    obtain ⟨hty,ho,v,hv,h1,h2⟩:=h
    injection hv with hv
    simp only at hv
    refine ⟨hty.keep rfl fun _ _ => rfl,ho,v,by simp only [hv],h1,?_⟩
    rcases h2 with h2 | ⟨g,o,cap,cur,e,rfl,h3,h4,h5,h6,h7,h8,h9⟩
    · exact .inl h2
    · refine .inr ⟨g,o,cap,cur,e,rfl,h3,h4,hn g (by rw [hv]; rfl) h5,h6,h7,h8,fun j y hy => ?_⟩
      obtain ⟨cs,hl,hca,hr⟩:=h9 j y hy
      exact ⟨cs,hl,hca,RepC_mono (M:=⟨S,O⟩) (fun _ _ => rfl) hS _ _ _ ho hr⟩
  | mp K V es =>
    have hce:c = .mp K V es:=by cases c <;> exact hl
    subst hce
    obtain ⟨hok,hov,h0,r,ents,clock,h1,h2,h3,h4,h5,h6,h7⟩:=h
    refine ⟨hok,hov,h0,r,ents,clock,h1,h2,hn r (by simp only at h1; rw [h1]; rfl) h3,h4,h5,h6,fun j y hy => ?_⟩
    obtain ⟨e,ca,cb,a1,a2,a3,a4,a5⟩:=h7 j y hy
    exact ⟨e,ca,cb,a1,a2,RepC_mono (M:=⟨S,O⟩) (fun _ _ => rfl) hS _ _ _ hok a3,a4,RepC_mono (M:=⟨S,O⟩) (fun _ _ => rfl) hS _ _ _ hov a5⟩
  | it src since seen =>
    have hce:c = .it src since seen:=by cases c <;> exact hl
    subst hce
    obtain ⟨g,m,h1,h2,h3,h4,h6⟩:=h
    exact ⟨g,m,h1,h2,hn g (by simp only at h1; rw [h1]; rfl) h3,h4,PRels_inn hS hin h6⟩
  | sit x pos =>
    have hce:c = .sit x pos:=by cases c <;> exact hl
    subst hce
    obtain ⟨g,h1,h2,h3,h4,h5⟩:=h
    exact ⟨g,h1,h2,hn g (by simp only at h1; rw [h1]; rfl) h3,h4,h5⟩

theorem postH_of (hE:EnvOK E) {s:St} {a:Act} {w:World} (hr:Rel G.n w0 S0 s a w) (h:retX G s):PostH w0 S0 .any G.bl undef w:=by
  obtain ⟨ν,S,hf⟩:=hr.full
  obtain ⟨_,hle,hin,_⟩:=h
  have hold:∀ i b,look i G.bl = some b → ∃ c,look i s.bl = some c ∧ leB (some c) b:=by
    intro i b hb
    have h1:=leBl_at hle hb
    obtain ⟨c,hc⟩:=leB_some h1
    rw [hc] at h1
    exact ⟨c,hc,h1⟩
  refine ⟨hf.below,ν,S,hf.inS,hf.fresh,fun i hi ⟨b,hb⟩ => ?_,⟨hf.W.lt,hf.W.size,fun i b hb => ?_,fun i j b c hij hi hj => ?_⟩,by simp only [PRel]⟩
  · obtain ⟨c,hc,_⟩:=hold i b hb
    exact hf.kept i hi ⟨c,hc⟩
  · obtain ⟨c,hc,hlb⟩:=hold i b hb
    exact BRel_le (fun _ h => h) hlb (innBl_at hin hb) (fun g hg hn => hn) (hf.W.blk i c hc)
  · obtain ⟨b',hb',_⟩:=hold i b hi
    obtain ⟨c',hc',_⟩:=hold j c hj
    exact hf.W.ne i j b' c' hij hb' hc'

theorem keepA_of {s:St} {a:Act} {w:World} (hr:Rel G.n w0 S0 s a w) (h:retX G s):keepA G S0 a:=by
  obtain ⟨ν,S,hf⟩:=hr.full
  intro t i hk
  obtain ⟨h3,h4⟩:=keepL_at h.2.2.2 _ hk
  have hs:=hf.slots t
  dsimp only at h3 h4
  rw [h4] at hs
  simp only [PRel] at hs
  obtain ⟨hd,g,e1,e2⟩:=hs
  rw [e2,← e1]
  exact hf.kept i h3 hd
theorem boom_sound (hE:EnvOK E) {s:St} {a:Act} {w:World} {o:Oper} (ho:opOK G.n o = true) (hr:Rel G.n w0 S0 s a w) (hb:boomP E G s o) {next:Act → World → Prop} {Q:Exit → Act → World → Prop} (hQ:∀ ch w',PanQ G w0 S0 ch a w' → Q (.panic ch) a w'):o.wp E.P a w next Q:=by
  obtain ⟨ν,S,h⟩:=hr.full
  unfold boomP at hb
  split at hb
  · rename_i x hop
    have hx:=h.ev (opOK_arg ho (x:=x) (by simp [hop,Op.operands]))
    split at hb
    · rename_i t cs hev
      rw [hev] at hx
      simp only [PRel] at hx
      obtain ⟨u,hu,_⟩:=hx
      have hrun:(execOp a.eval o).run E.P w = .halt (.panic (.iface t u)) w:=by
        simp only [execOp,hop,hu,Instr.panic,goPanic,Sem.run_bind]
        rfl
      unfold Oper.wp
      rw [hrun]
      exact hQ _ _ ⟨hb.1,h.defers,⟨t,u,rfl⟩,keepA_of hr hb,postH_of hE hr hb⟩
    · exact hb.elim
  · rename_i c hop
    split at hb
    · rename_i g hcal
      obtain ⟨callee,args,argTypes⟩:=c
      simp only at hcal hb
      subst hcal
      have hg:=h.ev (x:=g) (opOK_arg ho (by simp [hop,Op.operands,Call.operands]))
      have hall:=evAll_rel h args.toList (fun y hy => opOK_arg ho (by
        have:y ∈ args:=Array.mem_toList_iff.1 hy
        simp [hop,Op.operands,Call.operands,this]))
      have run : ∀ (f : Nat) (cvs : List Value), a.eval g = .func (.func f) #[] cvs.toArray → ∀ fn : Func, E.P.funcs[f]? = some fn → fn.body.isSome = true → fn.name ≠ "runtime.NumGoroutine" → (execOp a.eval o).run E.P w = .ok (.enter f (args.toList.map a.eval ++ cvs).toArray) w := by
        intro f cvs hgv fn hfn1 hfn2 hfn3
        have hb:fn.body.isNone = false:=by cases hb:fn.body <;> simp_all
        have hn : (fn.name == "runtime.NumGoroutine") = false := by simpa using hfn3
        have harr:args.map a.eval ++ cvs.toArray = (args.toList.map a.eval ++ cvs).toArray:=by apply Array.toList_inj.1; simp
        simp only [execOp,hop,resolve,hgv,Deferred.ofValue,Sem.run_bind,Sem.run_pure,Result.andThen_ok,invoke,callFunc,run_program,hfn1,hn,Bool.false_eq_true,if_false,hb]
        simp only [Sem.run_pure,Array.empty_append,← harr]
      have main : ∀ (f : Nat) (pargs : List PV) (vargs : List Value), PRels h.c pargs vargs → (∀ fn : Func, E.P.funcs[f]? = some fn → fn.body.isSome = true → fn.name ≠ "runtime.NumGoroutine" → (execOp a.eval o).run E.P w = .ok (.enter f vargs.toArray) w) → boomC E G s f pargs → o.wp E.P a w next Q := by
        intro f pargs vargs hargs hrun hb
        unfold boomC at hb
        split at hb
        · rename_i As T hfn
          obtain ⟨⟨fn,hfn1,hfn2,hfn3⟩,hAs⟩:=fn_owns (hE.fn f As T hfn)
          have hrun:=hrun fn hfn1 hfn2 hfn3
          split at hb
          · rename_i xs hxs
            obtain ⟨hXC,hret⟩:=hb
            have hR:Reads ⟨[],true⟩ s h.c ⟨fun b => b < w.heap.size,fun g => w.heap.size ≤ g⟩:=⟨rfl,h.W.blk,fun b hb => h.W.lt b hb,fun id _ ⟨b,hb⟩ g hg => (h.blkB hb hg).2.2⟩
            unfold Oper.wp
            rw [hrun]
            refine (hXC w _ _ (fun _ h => h) (fun g hg => ⟨h.W.lt _ (h.tabs g hg).1,(h.tabs g hg).2⟩) (expAll_sound hR As _ xs _ hAs hxs hargs)).mono ?_
            rintro e w' ⟨ch,rfl,hch,hb,hd⟩
            have hgrow:=h.grow (below_grown ⟨hb,hd⟩) (fun _ h => h) (fun _ h => .inl h) (fun b hS => Nat.lt_of_lt_of_le (h.W.lt b hS) hb.size)
            exact hQ _ _ ⟨hret.1,h.defers,hch,keepA_of hgrow.rel hret,postH_of hE hgrow.rel hret⟩
          · exact hb.elim
        · rename_i hfn
          split at hb
          · rename_i As hhfn
            obtain ⟨⟨fn,hfn1,hfn2,hfn3⟩,hAs'⟩:=fn_owns (hE.hfn f As hhfn)
            have hAs:∀ T,some T ∈ As → owns T = 0:=fun T hT => hAs' T (List.mem_filterMap.2 ⟨some T,hT,rfl⟩)
            have hrun:=hrun fn hfn1 hfn2 hfn3
            split at hb
            · rename_i ps hps
              have hR:Reads ⟨keys s.bl,true⟩ s h.c ⟨S,own0 w0 S0⟩:=⟨rfl,h.W.blk,fun _ h => h,fun id hF ⟨b,hb⟩ g hg => by
                have hF':mem1 id (keys s.bl) = false:=hF
                rw [mem1_keys hb] at hF'; cases hF'⟩
              have hrel:=hArgs_rel hE hR hAs hps hargs
              split at hb
              · rename_i hchk
                simp only [Bool.and_eq_true] at hchk
                obtain ⟨⟨hnd,hinn⟩,hin⟩:=hchk
                obtain ⟨bl',hXH,hok,hret⟩:=hb
                simp only [Bool.and_eq_true] at hok
                obtain ⟨hkeep,hnew⟩:=hok
                obtain ⟨hWR,hft,hle⟩:=h.handed hnd hin
                unfold Oper.wp
                rw [hrun]
                refine (hXH w S (nuC ν _) vargs h.W.lt h.tabs hft (fun i b hb => (handed_look hb).1) hWR (PRels_ren (hle S (fun _ h => h)) hinn hrel)).mono ?_
                rintro e w' ⟨ch,rfl,hch,hk,ν',S',h1,h2,h3,hW',hp⟩
                obtain ⟨ν'',hf⟩:=h.hret (d:=none) hnd hin hk h1 h2 h3 hW' hp hkeep hnew (fun d hd => by cases hd)
                have hf':=hf.rel
                exact hQ _ _ ⟨hret.1,h.defers,hch,keepA_of (a:=a) (by simpa [Act.put] using hf') hret,postH_of hE (a:=a) (by simpa [Act.put] using hf') hret⟩
              · exact hb.elim
            · exact hb.elim
          · exact hb.elim
      split at hb
      · rename_i f caps hev
        rw [hev] at hg
        simp only [PRel] at hg
        obtain ⟨cvs,hgv,hcaps⟩:=hg
        exact main f _ _ (PRels_append hall hcaps) (run f cvs hgv) hb
      · rename_i f hev
        rw [hev] at hg
        simp only [PRel] at hg
        have hgv:a.eval g = .func (.func f) #[] ([]:List Value).toArray:=by
          obtain ⟨_,hg⟩:=hg
          simp only [RepR,RepV,RepC,List.cons.injEq,and_true] at hg
          exact hg
        have hr:=run f [] hgv
        simp only [List.append_nil] at hr
        exact main f _ _ hall hr hb
      · exact hb.elim
    · exact hb.elim
  · exact hb.elim

theorem one_op (hE:EnvOK E) {N:List Nat} {all:List Oper} (hall:all.all (opOK G.n) = true) {s:St} {a:Act} {w:World} {F:Reg} {o:Oper} (ho:opOK G.n o = true) (h:Rel G.n w0 S0 s a w) {K:St → Prop} {Q:Exit → Act → World → Prop} (hQ:∀ ch w',PanQ G w0 S0 ch a w' → Q (.panic ch) a w')
    (hr:match o.guard with
      | none => OutK E (stepF E F s o) (fun l => K (s.fin o.dst l)) ∨ (canPan E G N s o = true ∧ boomP E G s o)
      | some (j,want) => match guardDst all j with
        | some d => match s.get d with
          | .iv .bool b => (b = want → OutK E (stepF E F (s.set d (.iv .bool want)) o) (fun l => K ((s.set d (.iv .bool want)).fin o.dst l))) ∧
              (b = !want → K ((s.set d (.iv .bool (!want))).put o.dst (.tup [])))
          | .tup [] => K (s.put o.dst (.tup []))
          | _ => False
        | none => False) :
    if Region.wanted o (yielded all.toArray a.tmps) then o.wp E.P a w (fun a' w' => ∃ s',K s' ∧ Rel G.n w0 S0 s' a' w') Q else ∃ s',K s' ∧ Rel G.n w0 S0 s' (a.put o.dst undef) w:=by
  have hrel:=h
  obtain ⟨ν,S,hf⟩:=h.full
  split at hr
  · rename_i hg
    have hw:Region.wanted o (yielded all.toArray a.tmps) = true:=by simp [Region.wanted,hg]
    rw [if_pos hw]
    rcases hr with hr | ⟨_,hr⟩
    · exact op_sound hE hf ho hr
    · exact boom_sound hE ho hrel hr hQ
  · rename_i j want hg
    split at hr
    · rename_i d hd
      split at hr
      · rename_i b hb
        have hy:=guarded hf hd (guardDst_lt hall hd) hb
        have hsame:∀ v:Bool,b = v → Full G.n w0 S0 (s.set d (.iv .bool v)) a w ν S:=fun v e => hf.same (get_same hb e) rfl
        by_cases hbw:b = want
        · have hw:Region.wanted o (yielded all.toArray a.tmps) = true:=by simp [Region.wanted,hg,hy,hbw]
          rw [if_pos hw]
          exact op_sound hE (hsame want hbw) ho (hr.1 hbw)
        · have hbn:b = !want:=by cases b <;> cases want <;> simp_all
          have hw:¬ Region.wanted o (yielded all.toArray a.tmps) = true:=by simp [Region.wanted,hg,hy,hbw]
          rw [if_neg hw]
          refine ⟨_,hr.2 hbn,?_⟩
          exact ((hsame _ hbn).put (opOK_dst ho) PRel_undef).rel
      · rename_i hb
        have hy:=guarded_undef hf hd hb
        have hw:¬ Region.wanted o (yielded all.toArray a.tmps) = true:=by simp [Region.wanted,hg,hy]
        rw [if_neg hw]
        exact ⟨_,hr,(hf.put (opOK_dst ho) PRel_undef).rel⟩
      · exact hr.elim
    · exact hr.elim

theorem runs_list (hE:EnvOK E) {all:List Oper} (hall:all.all (opOK G.n) = true) {K:St → Prop} {N:List Nat}:∀ (os:List Oper) (acc:List (List Nat)) (s:St) (a:Act) (w:World),os.all (opOK G.n) = true → runs E G all N acc os s K → Rel G.n w0 S0 s a w →
    wpList E.P all.toArray (RegQ G w0 S0 K) os a w:=by
  intro os
  induction os with
  | nil => intro acc s a w _ h hr; exact ⟨s,h,hr⟩
  | cons o os ih =>
    intro acc s a w hos h hr
    simp only [List.all_cons,Bool.and_eq_true] at hos
    refine wpList_step fun K' hK' => ?_
    unfold runs at h
    have key:=one_op (hQ:=fun ch w' h => h) (Q:=RegQ G w0 S0 K) (F:=forb all N acc o) (K:=fun s' => runs E G all N (step1 N acc o) os s' K) hE hall hos.1 hr h
    split
    · rename_i hw
      rw [if_pos hw] at key
      exact Oper.wp_mono (fun a' w' ⟨s',h1,h2⟩ => hK' a' w' (ih _ s' a' w' hos.2 h1 h2)) key
    · rename_i hw
      rw [if_neg hw] at key
      obtain ⟨s',h1,h2⟩:=key
      exact hK' _ _ (ih _ s' _ w hos.2 h1 h2)

def DrawSound (E:Env) (dr:List Oper → Bool):Prop :=
  ∀ (G:Goal) (w0:World) (S0:Cx) (all:List Oper) (K:St → Prop) (s:St) (a:Act) (w:World),dr all = true → all.all (opOK G.n) = true → runs E G all (madeD all) [] all s K → Rel G.n w0 S0 s a w → (∀ s s' a w,K s → Rel G.n w0 S0 s' a w → Rel G.n w0 S0 s' a w) →
    wpAny E.P .any all.toArray (RegQ G w0 S0 K) all.toArray.size (Array.replicate all.toArray.size false) a { w with drawn:=w.drawn + 1 }
def tailR (E:Env) (G:Goal) (all:List Oper):Nat → List (List Nat) → St → (St → Prop) → Prop
  | 0,_,_,_ => False
  | f + 1,orders,s,K => match headsOf orders with
    | [] => K s
    | h :: hs => ∀ i,i ∈ h :: hs → ∃ o,nthO all i = some o ∧ runs E G all [] [] [o] s (fun s' => tailR E G all f (tailsOf i orders) s' K)
def OrdSound (E:Env) (dr:List Oper → List (List Nat) → Bool):Prop :=
  ∀ (G:Goal) (w0:World) (S0:Cx) (all:List Oper) (orders:List (List Nat)) (f:Nat) (K:St → Prop) (s:St) (a:Act) (w:World),dr all orders = true → keepOff G all = true → all.all (opOK G.n) = true → tailR E G all f orders s K → Rel G.n w0 S0 s a w →
    (∀ s s',(∀ t,s.get t = s'.get t) → s.bl = s'.bl → K s → K s') →
    wpAny E.P .any all.toArray (RegQ G w0 S0 K) all.toArray.size (Array.replicate all.toArray.size false) a { w with drawn:=w.drawn + 1 }
def drE (E:Env) (f:Nat) (d1:List Oper → Bool) (d2:List Oper → List (List Nat) → Bool) (d3:List Oper → Nat → Bool) (id:Nat) (ops:List Oper):Bool:=match E.fl f id with
  | [] => d1 ops
  | x :: l => match cutOf (x :: l) with | some c => d3 ops c | none => d2 ops (x :: l)
def CutSound (E:Env) (dr:List Oper → Nat → Bool):Prop :=
  ∀ (G:Goal) (w0:World) (S0:Cx) (all:List Oper) (c:Nat) (K:St → Prop) (s:St) (a:Act) (w:World),dr all c = true → all.all (opOK G.n) = true → runs E G all (madeD all) [] (all.take c) s (fun s' => runs E G all [] [] (all.drop c) s' K) → Rel G.n w0 S0 s a w →
    wpAny E.P .any all.toArray (RegQ G w0 S0 K) all.toArray.size (Array.replicate all.toArray.size false) a { w with drawn:=w.drawn + 1 }
theorem tailR_mono {E:Env} {G:Goal} {all:List Oper} {K K':St → Prop} (hK:∀ s,K s → K' s):∀ (f:Nat) (orders:List (List Nat)) (s:St),tailR E G all f orders s K → tailR E G all f orders s K'
  | 0,_,_,h => h.elim
  | f + 1,orders,s,h => by
    unfold tailR at h ⊢
    split at h
    · exact hK _ h
    · intro i hi
      obtain ⟨o,ho,hr⟩:=h i hi
      refine ⟨o,ho,?_⟩
      unfold runs at hr ⊢
      split at hr
      · exact hr.imp (fun h => OutK_mono (fun l hl => by unfold runs at hl ⊢; exact tailR_mono hK f _ _ hl) _ h) (fun h => h)
      · split at hr
        · split at hr
          · exact ⟨fun e => OutK_mono (fun l hl => by unfold runs at hl ⊢; exact tailR_mono hK f _ _ hl) _ (hr.1 e),fun e => by have:=hr.2 e; unfold runs at this ⊢; exact tailR_mono hK f _ _ this⟩
          · unfold runs at hr ⊢; exact tailR_mono hK f _ _ hr
          · exact hr.elim
        · exact hr.elim
theorem pw_tail {E:Env} {G:Goal} {all:List Oper} {k:List WI}:∀ (n:Nat) (orders:List (List Nat)) (s:St),pw E G n (.tail all orders :: k) s → tailR E G all n orders s (fun s' => ∃ m,m < n ∧ pw E G m k s'):=by
  intro n
  induction n using Nat.strongRecOn with
  | _ n ih =>
    intro orders s h
    cases n with
    | zero => simp only [pw] at h; exact h.elim
    | succ n =>
      have mono:∀ (f g:Nat) (orders:List (List Nat)) (s:St) (K K':St → Prop),f ≤ g → (∀ s,K s → K' s) → tailR E G all f orders s K → tailR E G all g orders s K':=by
        have rmono:∀ (os:List Oper) (acc:List (List Nat)) (s:St) (K K':St → Prop),(∀ s,K s → K' s) → runs E G all [] acc os s K → runs E G all [] acc os s K':=by
          intro os
          induction os with
          | nil => intro acc s K K' hK h; exact hK _ h
          | cons o os ih =>
            intro acc s K K' hK h
            unfold runs at h ⊢
            split at h
            · exact h.imp (fun h => OutK_mono (fun l hl => ih _ _ K K' hK hl) _ h) (fun h => h)
            · split at h
              · split at h
                · exact ⟨fun e => OutK_mono (fun l hl => ih _ _ K K' hK hl) _ (h.1 e),fun e => ih _ _ K K' hK (h.2 e)⟩
                · exact ih _ _ K K' hK h
                · exact h.elim
              · exact h.elim
        intro f
        induction f with
        | zero => intro g orders s K K' _ _ h; exact h.elim
        | succ f ihf =>
          intro g orders s K K' hfg hK h
          obtain ⟨g',rfl⟩:∃ g',g = g' + 1:=⟨g - 1,by omega⟩
          unfold tailR at h ⊢
          split at h
          · exact hK _ h
          · intro i hi
            obtain ⟨o,ho,hr⟩:=h i hi
            exact ⟨o,ho,rmono _ _ _ _ _ (fun s' h' => ihf g' _ _ K K' (by omega) hK h') hr⟩
      have rmono':∀ (o:Oper) (s:St) (K K':St → Prop),(∀ s,K s → K' s) → runs E G all [] [] [o] s K → runs E G all [] [] [o] s K':=by
        intro o s K K' hK h
        unfold runs at h ⊢
        split at h
        · exact h.imp (fun h => OutK_mono (fun l hl => by unfold runs at hl ⊢; exact hK _ hl) _ h) (fun h => h)
        · split at h
          · split at h
            · exact ⟨fun e => OutK_mono (fun l hl => by unfold runs at hl ⊢; exact hK _ hl) _ (h.1 e),fun e => by have:=h.2 e; unfold runs at this ⊢; exact hK _ this⟩
            · unfold runs at h ⊢; exact hK _ h
            · exact h.elim
          · exact h.elim
      simp only [pw] at h
      unfold tailR
      split at h
      · rename_i he
        rw [he]
        exact ⟨n,by omega,h⟩
      · rename_i x hs he
        rw [he]
        have each:∀ (m:Nat) (l:List Nat),m ≤ n → pt E G m all orders l k s → ∀ i,i ∈ l → ∃ o,nthO all i = some o ∧ ∃ j,j < m ∧ po E G j all [] [] [o] (.tail all (tailsOf i orders) :: k) s:=by
          intro m
          induction m with
          | zero => intro l _ h; simp only [pt] at h; exact h.elim
          | succ m ihm =>
            intro l hm h i hi
            cases l with
            | nil => cases hi
            | cons y l =>
              simp only [pt] at h
              rcases List.mem_cons.1 hi with rfl | hi
              · cases ho:nthO all i with
                | none => rw [ho] at h; exact h.1.elim
                | some o => rw [ho] at h; exact ⟨o,rfl,m,by omega,h.1⟩
              · obtain ⟨o,ho,j,hj,hp⟩:=ihm l (by omega) h.2 i hi
                exact ⟨o,ho,j,by omega,hp⟩
        intro i hi
        obtain ⟨o,ho,j,hj,hp⟩:=each n _ (Nat.le_refl _) h i hi
        refine ⟨o,ho,rmono' _ _ _ _ (fun s' hs' => ?_) (po_runs j [] [o] s hp)⟩
        obtain ⟨m',hm',hpw⟩:=hs'
        exact mono m' n _ _ _ _ (by omega) (fun s'' ⟨m2,h1,h2⟩ => ⟨m2,by omega,h2⟩) (ih m' (by omega) _ _ hpw)
end
end Go.Proofs.Ytefpgfdemmllpaa
namespace Go.Proofs.Ytefpgfdemmllpaa
open Go.RowKit

theorem ends_region {E:Env} {G:Goal} {w0:World} {S0:Cx} {id:Nat} {ops:Array Oper} {d:Bool} {k:List WI} {a:Act} {w:World} {K:St → Prop}
    (h:(Code.region id ops d).wp E.P (RegQ G w0 S0 K) a w) (hK:∀ s,K s → Walks E G k s):Ends E.P G.f (items (.code (.region id ops d) :: k)) a w (PostU E.P w0 S0 G):=by
  intro b cs hb hk
  obtain ⟨e,a',w',hq,harr⟩:=h b (items k) cs
  cases e with
  | normal =>
    obtain ⟨s,hs,hrel⟩:=hq
    obtain ⟨u,a2,w'',td,hR,hst⟩:=hK s hs w0 S0 a' w' hrel b cs hb hk
    exact ⟨u,a2,w'',td,hR,Steps.trans harr hst⟩
  | panic ch =>
    obtain ⟨td,hst⟩:=harr
    exact ⟨.panicking ch,a',w',td,hq,hst⟩
  | _ => exact hq.elim

theorem exitTo_of {id:Nat}:∀ {k k':List WI},exitW id k = some k' → exitTo id (items k) = some (items k')
  | [],k',h => by cases h
  | .blk i :: k,k',h => by
    simp only [exitW] at h
    split at h
    · rename_i hb
      have:=Nat.eq_of_beq_eq_true hb
      injection h with h
      subst h; subst this
      simp [items,WI.item,exitTo]
    · rename_i hb
      have hne:¬ i = id:=by
        intro e
        subst e
        simp at hb
      simp only [items,WI.item,exitTo]
      rw [if_neg (by simpa using hne)]
      exact exitTo_of h
  | .code c :: k,k',h => by simp only [exitW] at h; simpa [items,WI.item,exitTo] using exitTo_of h
  | .loop c :: k,k',h => by simp only [exitW] at h; simpa [items,WI.item,exitTo] using exitTo_of h
  | .tail all orders :: k,k',h => by cases h
  | .rest all B :: k,k',h => by cases h

def rvSem (tmps:Array Value):ResultVar → Go.Sem Value
  | .tmp t => pure (tmps.getD t undef)
  | .cell p t => do loadVar t (← asAddr (tmps.getD p undef))
theorem results_eq (fn:Func) (tmps:Array Value):results fn tmps = (do let vs ← fn.results.mapM (rvSem tmps); pure (if h:vs.size = 1 then vs[0] else .tuple vs)):=by
  unfold results
  have e:(fun x:ResultVar => match x with | .tmp t => pure (tmps.getD t undef) | .cell a t => do loadVar t (← asAddr (tmps.getD a undef)):ResultVar → Go.Sem Value) = rvSem tmps:=by
    funext x
    cases x <;> rfl
  rw [← e]
  rfl

theorem rvals_run {E:Env} (hE:EnvOK E) {n:Nat} {w0:World} {S0:Cx} {s:St} {a:Act} {w:World} {ν:Nat → Value} {S:Nat → Prop} (h:Full n w0 S0 s a w ν S):∀ (rv:List ResultVar) (ps:List PV),rvals E s rv = some ps →
    ∃ vs:List Value,(rv.mapM (rvSem a.tmps)).run E.P w = .ok vs w ∧ PRels h.c ps vs
  | [],ps,hr => by
    simp only [rvals,Option.some.injEq] at hr
    subst hr
    exact ⟨[],by simp,by simp only [PRels]⟩
  | .tmp t :: rv,ps,hr => by
    simp only [rvals] at hr
    split at hr
    · rename_i qs hq
      injection hr with hr
      subst hr
      obtain ⟨vs,h1,h2⟩:=rvals_run hE h rv qs hq
      refine ⟨a.tmps.getD t undef :: vs,?_,by simp only [PRels]; exact ⟨_,_,rfl,h.slots t,h2⟩⟩
      have h0:(rvSem a.tmps (.tmp t)).run E.P w = .ok (a.tmps.getD t undef) w:=rfl
      rw [List.mapM_cons,Sem.run_bind,h0]
      simp only [Result.andThen_ok]
      rw [Sem.run_bind,h1]
      simp only [Result.andThen_ok,Sem.run_pure]
    · cases hr
  | .cell t ty :: rv,ps,hr => by
    simp only [rvals] at hr
    split at hr
    · rename_i p qs hp hq
      injection hr with hr
      subst hr
      obtain ⟨vs,h1,h2⟩:=rvals_run hE h rv qs hq
      -- the load,as any load
      have hload:∃ v ad,a.tmps.getD t undef = .pointer (some ad) ∧ (loadVar ty ad).run E.P w = .ok v w ∧ PRel h.c p v:=by
        have hs:=h.slots t
        simp only [loadO] at hp
        split at hp
        · rename_i T hT
          have hf:=hE.facts hT
          split at hp
          · rename_i id off hev
            split at hp
            · rename_i cs te hl
              obtain ⟨hl,_⟩:=lk_some hl
              split at hp
              · rename_i hble
                have hble:=Nat.le_of_ble_eq_true hble
                injection hp with hp
                subst hp
                rw [hev] at hs
                simp only [PRel] at hs
                obtain ⟨hd,g,hg,hv⟩:=hs
                obtain ⟨hty,g',us,e,hg',hB,hnS,hh,h1',hrel⟩:=h.W.blk _ _ hl
                simp only at hg hg'
                rw [hg] at hg'
                obtain rfl:g = g':=by injection hg' with e1; injection e1 with e1; injection e1
                have hcl:=PRels_len hrel
                have hc:=(box_cells hh).part off T.cells
                rw [Nat.zero_add] at hc
                exact ⟨_,_,hv,run_loadVar hf (by rw [List.length_take,List.length_drop]; omega) hc,join_rel (by rw [List.length_take,List.length_drop]; omega) hf.val (fun u hu => h1' u (List.mem_of_mem_drop (List.mem_of_mem_take hu))) (PRels_take _ (PRels_drop _ hrel))⟩
              · cases hp
            · cases hp
          · rename_i U y off hev
            split at hp
            · rename_i hble
              have hble:=Nat.le_of_ble_eq_true hble
              injection hp with hp
              subst hp
              rw [hev] at hs
              simp only [PRel] at hs
              obtain ⟨hoU,g,ob,cs,hv,hS,hcl,hc,hr'⟩:=hs
              have hc':=hc.part off T.cells
              exact ⟨_,_,hv,run_loadVar hf (by rw [List.length_take,List.length_drop]; omega) hc',part_rel hoU hf.val hble hr'⟩
            · cases hp
          · split at hp
            · split at hp <;> cases hp
            · cases hp
          · split at hp
            · split at hp <;> cases hp
            · cases hp
          · cases hp
        · cases hp
      obtain ⟨v,ad,e1,e2,e3⟩:=hload
      refine ⟨v :: vs,?_,by simp only [PRels]; exact ⟨_,_,rfl,e3,h2⟩⟩
      have h0:(rvSem a.tmps (.cell t ty)).run E.P w = .ok v w:=by
        simp only [rvSem,e1,asAddr,Sem.run_bind,Sem.run_pure,Result.andThen_ok,e2]
      rw [List.mapM_cons,Sem.run_bind,h0]
      simp only [Result.andThen_ok]
      rw [Sem.run_bind,h1]
      simp only [Result.andThen_ok,Sem.run_pure]
    · cases hr

def oneOf (vs:List Value):Value:=if h:vs.length = 1 then vs[0] else .tuple vs.toArray
theorem value_of {F:Reg} {s:St} {c:Ctx} {M':Mem} (hR:Reads F s c M') {T:Ty} {r:T.den} {ps:List PV} {vs:List Value} (ho:owns T = 0 ∨ M' = c.M) (he:expR F s.bl T ps = some r) (hrel:PRels c ps vs):RepR T r c.w M' (oneOf vs):=by
  have posLen:∀ (T:Ty) (x:T.den) (us:List Value),RepT T x c.w M' us → 1 ≤ us.length:=by
    intro T x us hr
    cases T
    case tup => obtain ⟨v,r,rfl,_⟩:=hr; simp
    all_goals (obtain ⟨v,rfl,_⟩:=hr; simp)
  unfold expR at he
  cases T with
  | unit =>
    simp only at he
    split at he
    · simp only [PRels] at hrel
      subst hrel
      rfl
    · cases he
  | tup ta tb =>
    have hrt:=expT_sound hR (.tup ta tb) ps r vs ho (by simpa only using he) hrel
    obtain ⟨v,rest,rfl,h1,h2⟩:=hrt
    have:=posLen _ _ _ h2
    unfold oneOf
    rw [dif_neg (by simp; intro e; subst e; simp at this)]
    exact ⟨v :: rest,rfl,v,rest,rfl,h1,h2⟩
  | _ =>
    have hrt:=expT_sound hR _ ps r vs ho (by simpa only using he) hrel
    obtain ⟨v,rfl,h1⟩:=hrt
    exact h1

structure GoalOK (E:Env) (G:Goal):Prop where
  fn:∃ fn,E.P.funcs[G.f]? = some fn ∧ fn.results.toList = G.rv

theorem oneP_rel {c:Ctx} {ps:List PV} {vs:List Value} (h:PRels c ps vs):PRel c (onePV ps) (oneOf vs):=by
  have hl:=PRels_len h
  have many:ps.length ≠ 1 → PRel c (.tup ps) (oneOf vs):=by
    intro hne
    unfold oneOf
    rw [dif_neg (by omega)]
    simp only [PRel]
    exact ⟨vs,rfl,h⟩
  match ps,h,hl,many with
  | [p],h,hl,_ =>
    simp only [PRels] at h
    obtain ⟨v,r,rfl,h1,rfl⟩:=h
    simpa [onePV,oneOf] using h1
  | [],_,_,many => exact many (by simp)
  | _ :: _ :: _,_,_,many => exact many (by simp)

theorem ends_retQ {E:Env} {G:Goal} (hE:EnvOK E) (hG:GoalOK E G) {s:St} {p:PV} (h:retQ E G s p) {w0:World} {S0:Cx} {a:Act} {w:World} (hr:Rel G.n w0 S0 s a w) :
    ∃ fn v,E.P.funcs[G.f]? = some fn ∧ (results fn a.tmps).run E.P w = .ok v w ∧ a.defers = S0.df ∧ PostH w0 S0 p G.bl v w:=by
  obtain ⟨fn,hfn,hres⟩:=hG.fn
  obtain ⟨ν,S,hf⟩:=hr.full
  unfold retQ at h
  split at h
  · rename_i ps hps
    obtain ⟨hv,hle,hin⟩:=h
    obtain ⟨vs,hrun,hrel⟩:=rvals_run hE hf G.rv ps hps
    have hrun':(results fn a.tmps).run E.P w = .ok (oneOf vs) w:=by
      rw [results_eq,Sem.run_bind,Array.mapM_eq_mapM_toList,hres,Sem.run_map,hrun]
      simp only [Result.andThen_ok,Sem.run_pure]
      rfl
    have hold:∀ i b,look i G.bl = some b → ∃ c,look i s.bl = some c ∧ leB (some c) b:=by
      intro i b hb
      have h1:=leBl_at hle hb
      obtain ⟨c,hc⟩:=leB_some h1
      rw [hc] at h1
      exact ⟨c,hc,h1⟩
    -- all that is not left as a block is data from now on
    obtain ⟨S',hS'⟩:∃ S':Nat → Prop,S' = fun g => S g ∨ (own0 w0 S0 g ∧ g < w.heap.size ∧ ∀ i b,look i G.bl = some b → blockOf (ν i) ≠ some g):=⟨_,rfl⟩
    have hSS:∀ b,S b → S' b:=fun b hb => by rw [hS']; exact .inl hb
    have hnS:∀ i b,look i G.bl = some b → ∀ g,blockOf (ν i) = some g → ¬ S g → ¬ S' g:=by
      intro i b hb g hg hn
      rw [hS']
      rintro (h' | ⟨_,_,h'⟩)
      · exact hn h'
      · exact h' i b hb hg
    have hR:Reads ⟨keys G.bl,true⟩ s hf.c ⟨S',own0 w0 S0⟩:=by
      refine ⟨rfl,hf.W.blk,hSS,fun id hF ⟨b,hb⟩ g hg => ?_⟩
      have hF':mem1 id (keys G.bl) = false:=hF
      obtain ⟨g1,g2,g3⟩:=hf.blkB hb hg
      rw [hS']
      refine .inr ⟨g1,g3,fun i c hc hg' => ?_⟩
      obtain ⟨c',hc',_⟩:=hold i c hc
      exact hf.W.ne i id c' b (by rintro rfl; rw [mem1_keys hc] at hF'; cases hF') hc' hb g hg' hg
    refine ⟨fn,oneOf vs,hfn,hrun',hf.defers,⟨hf.below,ν,S',fun b hb => hSS b (hf.inS b hb),fun b hb => ?_,fun i hi ⟨b,hb⟩ => ?_,⟨fun b hb => ?_,hf.W.size,fun i b hb => ?_,fun i j b c hij hi hj => ?_⟩,?_⟩⟩
    · rw [hS'] at hb
      rcases hb with hb | hb
      · exact hf.fresh b hb
      · exact .inr hb.1
    · obtain ⟨c,hc,_⟩:=hold i b hb
      exact hf.kept i hi ⟨c,hc⟩
    · rw [hS'] at hb
      rcases hb with hb | hb
      · exact hf.W.lt b hb
      · exact hb.2.1
    · obtain ⟨c,hc,hlb⟩:=hold i b hb
      exact BRel_le hSS hlb (innBl_at hin hb) (fun g hg hn => hnS i b hb g hg hn) (hf.W.blk i c hc)
    · obtain ⟨b',hb',_⟩:=hold i b hi
      obtain ⟨c',hc',_⟩:=hold j c hj
      exact hf.W.ne i j b' c' hij hb' hc'
    · have gen:onePV ps = p ∧ PV.inn (keys G.bl) p = true → PRel ⟨ν,(⟨[],G.bl⟩:St).D,w,⟨S',own0 w0 S0⟩⟩ p (oneOf vs):=fun ⟨h1,h2⟩ => by
        have:=oneP_rel hrel
        rw [h1] at this
        exact PRel_inn hSS h2 this
      cases hp:p with
      | iv T r =>
        rw [hp] at hv
        simp only [PRel]
        exact ⟨hv.1,value_of hR (.inl hv.1) hv.2 hrel⟩
      | _ =>
        rw [hp] at hv gen
        exact gen hv
  · exact h.elim
theorem ends_ret {E:Env} {G:Goal} (hE:EnvOK E) (hG:GoalOK E G) {s:St} (h:retP E G s) {w0:World} {S0:Cx} {a:Act} {w:World} (hr:Rel G.n w0 S0 s a w) :
    PostU E.P w0 S0 G .returning a w:=by
  unfold retP at h
  unfold PostU
  split at h
  · exact h.elim
  · rename_i hp
    refine ⟨hp,?_⟩
    unfold PostG
    cases hm:G.more with
    | none =>
      rw [hm] at h
      obtain ⟨fn,v,h1,h2,h3,h4⟩:=ends_retQ hE hG h hr
      exact ⟨h3,fn,v,h1,h2,h4⟩
    | some Y =>
      rw [hm] at h
      obtain ⟨r,hy,h⟩:=h
      obtain ⟨fn,v,h1,h2,h3,h4⟩:=ends_retQ (G:={ G with bl:=Y.2.2.2 r }) hE ⟨hG.fn⟩ h hr
      exact ⟨h3,fn,v,h1,h2,r,hy,h4⟩
end Go.Proofs.Ytefpgfdemmllpaa
namespace Go.Proofs.Ytefpgfdemmllpaa
open Go.RowKit

theorem pw_sound {E:Env} (hE:EnvOK E) {G:Goal} (hG:GoalOK E G) {d1:List Oper → Bool} (hd1:DrawSound E d1) {d2:List Oper → List (List Nat) → Bool} (hd2:OrdSound E d2) {d3:List Oper → Nat → Bool} (hd3:CutSound E d3):∀ (m:Nat) (todo:List WI) (s:St),okT (drE E G.f d1 d2 d3) G.n todo = true → pw E G m todo s → Walks E G todo s:=by
  intro m
  induction m using Nat.strongRecOn with
  | _ m ih =>
    intro todo s hok h
    cases m with
    | zero => simp only [pw] at h; exact h.elim
    | succ m =>
      have stp:∀ (todo':List WI) (s':St),okT (drE E G.f d1 d2 d3) G.n todo' = true → pw E G m todo' s' → Walks E G todo' s':=ih m (by omega)
      simp only [pw] at h
      intro w0 S0 a w hr
      have ret:retP E G s → ∀ (todo:List Item),(∀ (b:Frame) (cs:List Frame),Go.step E.P (lone (b.at a todo) cs w) = .next (lone { b.at a todo with mode:=.returning } cs w)) → Ends E.P G.f todo a w (PostU E.P w0 S0 G):=by
        intro hret todo hstep b cs hb hk
        exact ⟨.returning,a,w,todo,ends_ret hE hG hret hr,.one (hstep b cs)⟩
      split at h
      · -- the body's end
        exact ret h _ (fun b cs => step_end)
      · rename_i id k
        simp only [okT,Bool.and_eq_true] at hok
        exact Ends.step (fun b cs => .one step_inBlock) (stp k s hok.2 h w0 S0 a w hr)
      · exact h w0 S0 a w hr
      · simp only [okT,okW,Bool.false_and] at hok; cases hok
      · simp only [okT,okW,Bool.false_and] at hok; cases hok
      · rename_i c k
        simp only [okT,okW,Bool.and_eq_true] at hok
        split at h
        · exact Ends.step (fun b cs => .one step_skip) (stp k s hok.2 h w0 S0 a w hr)
        · rename_i x y
          simp only [okC,Bool.and_eq_true] at hok
          exact Ends.step (fun b cs => .one step_seq) (stp _ s (by simp only [okT,okW,hok.1.1,hok.1.2,hok.2,Bool.and_self]) h w0 S0 a w hr)
        · rename_i id ops d
          simp only [okC,Bool.and_eq_true] at hok
          obtain ⟨⟨hall,hd⟩,hk⟩:=hok
          split at h
          · exact h w0 S0 a w hr
          split at h
          · refine ends_region (K:=fun s' => ∃ j,j < m ∧ pw E G j k s') (wp_region_list ?_) (fun s' ⟨j,hj,hp⟩ => ih j (by omega) k s' hk hp)
            have:=runs_list (w0:=w0) (S0:=S0) hE hall ops.toList [] s a w hall (po_runs m [] ops.toList s h) hr
            simpa using this
          · have hdd:drE E G.f d1 d2 d3 id ops.toList = true:=by simpa using hd
            unfold drE at hdd
            split at h
            · rename_i hfl
              rw [hfl] at hdd
              have hrn:=po_runs m [] ops.toList s h
              have hK:∀ s',(∃ j,j < m ∧ pw E G j k s') → Walks E G k s':=fun s' ⟨j,hj,hp⟩ => ih j (by omega) k s' hk hp
              have hmono:∀ (os:List Oper) (N:List Nat) (all:List Oper) (acc:List (List Nat)) (s:St) (K K':St → Prop),(∀ s,K s → K' s) → runs E G all N acc os s K → runs E G all N acc os s K':=by
                intro os N all
                induction os with
                | nil => intro acc s K K' hK h; exact hK _ h
                | cons o os ih =>
                  intro acc s K K' hK h
                  unfold runs at h ⊢
                  split at h
                  · exact h.imp (fun h => OutK_mono (fun l hl => ih _ _ K K' hK hl) _ h) (fun h => h)
                  · split at h
                    · split at h
                      · exact ⟨fun e => OutK_mono (fun l hl => ih _ _ K K' hK hl) _ (h.1 e),fun e => ih _ _ K K' hK (h.2 e)⟩
                      · exact ih _ _ K K' hK h
                      · exact h.elim
                    · exact h.elim
              have hrn':=hmono _ _ _ _ _ _ (fun s' => Walks E G k s') hK hrn
              refine ends_region (K:=fun s' => Walks E G k s') (wp_region_any hE.mixed ?_) (fun s' h => h)
              have:=hd1 G w0 S0 ops.toList (fun s' => Walks E G k s') s a w hdd hall hrn' hr (fun _ _ _ _ _ h => h)
              simpa using this
            · rename_i x l hfl
              rw [hfl] at hdd
              dsimp only at hdd
              split at h
              · rename_i c hcut
                rw [hcut] at hdd
                dsimp only at hdd
                have hrn:=po_runs m [] (ops.toList.take c) s h
                have hmono:∀ (os:List Oper) (N:List Nat) (all:List Oper) (acc:List (List Nat)) (s:St) (K K':St → Prop),(∀ s,K s → K' s) → runs E G all N acc os s K → runs E G all N acc os s K':=by
                  intro os N all
                  induction os with
                  | nil => intro acc s K K' hK h; exact hK _ h
                  | cons o os ih =>
                    intro acc s K K' hK h
                    unfold runs at h ⊢
                    split at h
                    · exact h.imp (fun h => OutK_mono (fun l hl => ih _ _ K K' hK hl) _ h) (fun h => h)
                    · split at h
                      · split at h
                        · exact ⟨fun e => OutK_mono (fun l hl => ih _ _ K K' hK hl) _ (h.1 e),fun e => ih _ _ K K' hK (h.2 e)⟩
                        · exact ih _ _ K K' hK h
                        · exact h.elim
                      · exact h.elim
                have hrn':=hmono _ _ _ _ _ _ (fun s' => runs E G ops.toList [] [] (ops.toList.drop c) s' (fun s'' => Walks E G k s'')) (fun s' ⟨j,hj,hp⟩ => by
                  cases j with
                  | zero => simp only [pw] at hp; exact hp.elim
                  | succ j =>
                    simp only [pw] at hp
                    exact hmono _ _ _ _ _ _ _ (fun s'' ⟨i,hi,hq⟩ => ih i (by omega) k s'' hk hq) (po_runs j [] (ops.toList.drop c) s' hp)) hrn
                refine ends_region (K:=fun s' => Walks E G k s') (wp_region_any hE.mixed ?_) (fun s' h => h)
                have:=hd3 G w0 S0 ops.toList c (fun s' => Walks E G k s') s a w hdd hall hrn' hr
                simpa using this
              rename_i hcut
              rw [hcut] at hdd
              dsimp only at hdd
              obtain ⟨hoff,h⟩:=h
              have ht:=pw_tail m _ _ h
              have hK:∀ s',(∃ j,j < m ∧ pw E G j k s') → Walks E G k s':=fun s' ⟨j,hj,hp⟩ => ih j (by omega) k s' hk hp
              refine ends_region (K:=fun s' => ∃ j,j < m ∧ pw E G j k s' ∨ Walks E G k s') (wp_region_any hE.mixed ?_) (fun s' ⟨j,h⟩ => by rcases h with ⟨h1,h2⟩ | h; exact ih j (by omega) k s' hk h2; exact h)
              have:=hd2 G w0 S0 ops.toList (x :: l) m (fun s' => ∃ j,j < m ∧ pw E G j k s' ∨ Walks E G k s') s a w hdd hoff hall ?_ hr ?_
              · simpa using this
              · refine tailR_mono (fun s' ⟨j,hj⟩ => ⟨j,.inl hj⟩) _ _ _ ht
              · intro s1 s2 hg hb ⟨j,h⟩
                have hw:Walks E G k s1:=by
                  rcases h with ⟨h1,h2⟩ | h
                  · exact ih j (by omega) k s1 hk h2
                  · exact h
                refine ⟨0,.inr fun w0 S0 a w hr => ?_⟩
                obtain ⟨ν,S,hf⟩:=hr.full
                exact hw w0 S0 a w (hf.same (s':=s1) hg hb).rel
        · rename_i x c1 c2
          simp only [okC,Bool.and_eq_true] at hok
          split at h
          · rename_i b hb
            obtain ⟨ν,S,hf⟩:=hr.full
            have hx:PRel hf.c (s.ev x) (a.eval x) ∨ True:=.inr trivial
            have hv:a.eval x = .bool b:=by
              cases x with
              | tmp t =>
                have:=hf.slots t
                simp only [St.ev] at hb
                rw [hb] at this
                exact PRel_val_bool this
              | const v =>
                simp only [St.ev] at hb
                cases v with
                | bool b' => simp only [cval,PV.iv.injEq,heq_eq_eq] at hb; simp only [Act.eval]; exact congrArg _ (by simpa using hb)
                | slice aa l c => cases aa <;> cases l <;> cases c <;> simp [cval] at hb
                | pointer aa => cases aa <;> simp [cval] at hb
                | _ => simp [cval] at hb
              | global g => simp [St.ev] at hb
              | func f => simp [St.ev] at hb
            cases b
            · exact Ends.step (fun b cs => .one (step_cond hv)) (stp _ s (by simp only [okT,okW,Bool.false_eq_true,if_false,hok.1.2,hok.2,Bool.and_self]) (h.2 rfl) w0 S0 a w hr)
            · exact Ends.step (fun b cs => .one (step_cond hv)) (stp _ s (by simp only [okT,okW,if_true,hok.1.1,hok.2,Bool.and_self]) (h.1 rfl) w0 S0 a w hr)
          · exact h.elim
        · rename_i id b
          simp only [okC] at hok
          exact Ends.step (fun b cs => .one step_block) (stp _ s (by simp only [okT,okW,hok.1,hok.2,Bool.and_self]) h w0 S0 a w hr)
        · exact h w0 S0 a w hr
        · rename_i id
          split at h
          · rename_i k' hk'
            have hok':∀ (k k':List WI),exitW id k = some k' → okT (drE E G.f d1 d2 d3) G.n k = true → okT (drE E G.f d1 d2 d3) G.n k' = true:=by
              intro k
              induction k with
              | nil => intro k' h; cases h
              | cons x k ih =>
                intro k' h hk
                simp only [okT,Bool.and_eq_true] at hk
                cases x with
                | blk i =>
                  simp only [exitW] at h
                  split at h
                  · injection h with h; subst h; exact hk.2
                  · exact ih k' h hk.2
                | code c => exact ih k' h hk.2
                | loop c => exact ih k' h hk.2
                | tail all o => cases h
                | rest all B => cases h
            exact Ends.step (fun b cs => .one (step_exit (exitTo_of hk'))) (stp k' s (hok' k k' hk' hok.2) h w0 S0 a w hr)
          · exact h.elim
        · exact ret h _ (fun b cs => step_ret)
        · exact h.elim

/-! ### Loops -/

def nilAt (bl:List (Nat × Blk)) (id:Nat):Prop:=match look id bl with | some (.arr _ [] _) => True | _ => False
def lenIs (s:St) (i n:Nat):Prop:=match look i s.bl with | some (.arr _ xs _) => xs.length = n | _ => False
def leV (s t:St) (p q:PV):Prop:=p = q ∨ q = .any ∨ (p = .nilsl ∧ match q with | .lfull id => look id s.bl = none ∧ nilAt t.bl id | _ => False) ∨ match q with | .iv T x => owns T = 0 ∧ exp ⟨keys s.bl,true⟩ s.bl T p = some x | .lsl j _ off n => (match p with | .lfull i => (Nat.beq i j && Nat.beq off 0) = true ∧ lenIs s i n | _ => False) | _ => False
def leVs (s t:St):List PV → List PV → Prop
  | [],[] => True | p :: ps,q :: qs => leV s t p q ∧ leVs s t ps qs | _,_ => False
def leW (s t:St) (i:Nat):Blk → Prop
  | .box ds e' => match look i s.bl with | some (.box cs e) => leVs s t cs ds ∧ (e' = none ∨ e' = e) | _ => False
  | .it ds a b => match look i s.bl with | some (.it cs a' b') => a' = a ∧ b' = b ∧ leVs s t cs ds | _ => False
  | .arr T xs e => match look i s.bl with | some b => b = .arr T xs e | none => i < P0 ∧ owns T = 0 ∧ xs = []
  | b => match look i s.bl with | some c => c = b | none => False
def leSl (s t:St):List (Nat × PV) → Prop
  | [] => True | p :: r => leV s t (s.get p.1) p.2 ∧ leSl s t r
def leWs (s t:St):List (Nat × Blk) → Prop
  | [] => True | p :: r => leW s t p.1 p.2 ∧ leWs s t r
def innSl (ks:List Nat):List (Nat × PV) → Bool
  | [] => true | p :: r => PV.inn ks p.2 && innSl ks r
structure Le (s t:St):Prop where
  sl:leSl s t t.sl
  bl:leWs s t t.bl
  inSl:innSl (keys t.bl) t.sl = true
  inBl:innBl (keys t.bl) t.bl = true

theorem leSl_at {s u:St}:∀ {l:List (Nat × PV)} {t:Nat} {q:PV},leSl s u l → look t l = some q → leV s u (s.get t) q
  | [],t,q,_,h => by cases h
  | p :: r,t,q,h,hq => by
    simp only [look] at hq
    cases hb:Nat.beq t p.1 with
    | true =>
      simp only [hb,cond_true,Option.some.injEq] at hq
      have:=Nat.eq_of_beq_eq_true hb
      subst this; subst hq
      exact h.1
    | false => simp only [hb,cond_false] at hq; exact leSl_at h.2 hq
theorem innSl_at {ks:List Nat}:∀ {l:List (Nat × PV)} {t:Nat} {q:PV},innSl ks l = true → look t l = some q → PV.inn ks q = true
  | [],t,q,_,h => by cases h
  | p :: r,t,q,h,hq => by
    simp only [innSl,Bool.and_eq_true] at h
    simp only [look] at hq
    cases hb:Nat.beq t p.1 with
    | true => simp only [hb,cond_true,Option.some.injEq] at hq; subst hq; exact h.1
    | false => simp only [hb,cond_false] at hq; exact innSl_at h.2 hq
theorem leWs_at {s u:St}:∀ {l:List (Nat × Blk)} {t:Nat} {q:Blk},leWs s u l → look t l = some q → leW s u t q
  | [],t,q,_,h => by cases h
  | p :: r,t,q,h,hq => by
    simp only [look] at hq
    cases hb:Nat.beq t p.1 with
    | true =>
      simp only [hb,cond_true,Option.some.injEq] at hq
      have:=Nat.eq_of_beq_eq_true hb
      subst this; subst hq
      exact h.1
    | false => simp only [hb,cond_false] at hq; exact leWs_at h.2 hq

theorem keys_mem1 {bl:List (Nat × Blk)} {i:Nat} {b:Blk} (h:look i bl = some b):mem1 i (keys bl) = true:=by
  induction bl with
  | nil => cases h
  | cons p r ih =>
    simp only [look] at h
    simp only [keys,List.map_cons,mem1]
    cases hb:Nat.beq i p.1 with
    | true => rfl
    | false => simp only [hb,cond_false] at h ⊢; exact ih h
theorem repR_of_V {T:Ty} {x:T.den} {w:World} {M:Mem} {v:Value} (h:RepV T x w M v):RepR T x w M v:=by
  cases T <;> first | exact h | exact h.elim
noncomputable def leNu (s:St) (ν:Nat → Value):Nat → Value:=fun i => match look i s.bl with | some _ => ν i | none => .slice none 0 0
theorem leV_rel {s t:St} {ν:Nat → Value} {w:World} {M:Mem} {p q:PV} {v:Value} (hW:∀ id b,look id s.bl = some b → BRel ⟨ν,s.D,w,M⟩ id b) (hl:leV s t p q) (hi:PV.inn (keys t.bl) q = true) (h:PRel ⟨ν,s.D,w,M⟩ p v):PRel ⟨leNu s ν,(⟨[],t.bl⟩:St).D,w,M⟩ q v:=by
  have up:Ctx.LeR (keys t.bl) (fun i => i) ⟨ν,fun i => s.D i ∧ mem1 i (keys t.bl) = true,w,M⟩ ⟨leNu s ν,(⟨[],t.bl⟩:St).D,w,M⟩ :=
    ⟨fun _ _ => rfl,fun _ h => h,fun i hi _ => mem1_keys' hi,fun i _ hd => by
      obtain ⟨⟨b,hb⟩,_⟩:=hd
      simp only [leNu,hb]⟩
  rcases hl with rfl | rfl | ⟨rfl,hq⟩ | hq
  · have h':PRel ⟨ν,fun i => s.D i ∧ mem1 i (keys t.bl) = true,w,M⟩ p v:=by
      have h1:=PRel_ren (ks:=keys t.bl) (ρ:=fun i => i) (c:=⟨ν,s.D,w,M⟩) (c':=⟨ν,fun i => s.D i ∧ mem1 i (keys t.bl) = true,w,M⟩) ⟨fun _ _ => rfl,fun _ h => h,fun i hi hd => ⟨hd,hi⟩,fun _ _ _ => rfl⟩ hi h
      rwa [ren_id] at h1
    have h2:=PRel_ren up hi h'
    rwa [ren_id] at h2
  · simp only [PRel]
  · cases q <;> first | exact hq.elim | skip
    rename_i id
    simp only [PRel] at h
    subst h
    obtain ⟨h1,h2⟩:=hq
    simp only [PRel,leNu,h1]
    exact ⟨mem1_keys' hi,trivial,_,_,_,rfl⟩
  · cases q <;> first | exact hq.elim | skip
    rotate_left
    · rename_i j sz off n
      cases p <;> first | exact hq.elim | skip
      rename_i i
      obtain ⟨hij,hn⟩:=hq
      simp only [Bool.and_eq_true] at hij
      have e1:=Nat.eq_of_beq_eq_true hij.1
      have e2:=Nat.eq_of_beq_eq_true hij.2
      subst e1; subst e2
      unfold lenIs at hn
      split at hn
      case h_2 => exact hn.elim
      rename_i T xs te hl
      subst hn
      simp only [PRel] at h ⊢
      obtain ⟨_,hv,aa,m,cap,hs⟩:=h
      have hB:=hW _ _ hl
      obtain ⟨_,_,u,hu,hlx,hcase⟩:=hB
      simp only [List.cons.injEq,and_true] at hu
      have hu:ν i = u:=hu
      have hν:leNu s ν i = ν i:=by simp only [leNu,hl]
      refine ⟨mem1_keys' hi,?_⟩
      rw [hν,hv,hu]
      rcases hcase with ⟨rfl,rfl⟩ | ⟨g,o,cap',cur,e',rfl,hle,_⟩
      · exact ⟨none,0,0,none,rfl,Nat.le_refl _,Nat.le_refl _,rfl,fun h => absurd h (Nat.lt_irrefl _)⟩
      · exact ⟨some ⟨g,o,none⟩,_,cap',some ⟨g,o,none⟩,rfl,by omega,hle,rfl,fun _ => ⟨g,o,rfl,by rw [Nat.zero_mul]; rfl⟩⟩
    rename_i T x
    obtain ⟨ho,he⟩:=hq
    have hR:Reads ⟨keys s.bl,true⟩ s ⟨ν,s.D,w,M⟩ M:=⟨rfl,hW,fun _ h => h,fun i hm hd => by
      obtain ⟨b,hb⟩:=hd
      rw [keys_mem1 hb] at hm
      cases hm⟩
    have hv:=exp_sound hR (.inl ho) he h
    simp only [PRel]
    exact ⟨ho,repR_of_V hv⟩
theorem leVs_rel {s t:St} {ν:Nat → Value} {w:World} {M:Mem} (hW:∀ id b,look id s.bl = some b → BRel ⟨ν,s.D,w,M⟩ id b):∀ {ps qs:List PV} {vs:List Value},leVs s t ps qs → PV.innL (keys t.bl) qs = true → PRels ⟨ν,s.D,w,M⟩ ps vs → PRels ⟨leNu s ν,(⟨[],t.bl⟩:St).D,w,M⟩ qs vs
  | [],[],vs,_,_,h => by simp only [PRels] at h ⊢; exact h
  | p :: ps,q :: qs,vs,hl,hi,h => by
    simp only [PV.innL,Bool.and_eq_true] at hi
    simp only [PRels] at h ⊢
    obtain ⟨v,r,h1,h2,h3⟩:=h
    exact ⟨v,r,h1,leV_rel hW hl.1 hi.1 h2,leVs_rel hW hl.2 hi.2 h3⟩
  | [],_ :: _,_,hl,_,_ => hl.elim
  | _ :: _,[],_,hl,_,_ => hl.elim

theorem Rel.weaken {n:Nat} {w0:World} {S0:Cx} {s t:St} {a:Act} {w:World} (hl:Le s t) (h:Rel n w0 S0 s a w):Rel n w0 S0 t a w:=by
  obtain ⟨ν,S,hf⟩:=h.full
  have hold:∀ i b,look i s.bl = some b → leNu s ν i = ν i:=fun i b hb => by simp only [leNu,hb]
  have hD:∀ i b,look i t.bl = some b → (∃ c,look i s.bl = some c) ∨ (i < P0 ∧ look i s.bl = none ∧ ∃ T te,owns T = 0 ∧ b = .arr T [] te):=by
    intro i b hb
    have:=leWs_at hl.bl hb
    cases hc:look i s.bl with
    | some c => exact .inl ⟨c,rfl⟩
    | none =>
      right
      cases b with
      | arr T xs te => simp only [leW,hc] at this; exact ⟨this.1,rfl,T,te,this.2.1,by rw [this.2.2]⟩
      | box ds te => simp only [leW,hc] at this
      | mp K V es => simp only [leW,hc] at this
      | it a b c => simp only [leW,hc] at this
      | sit a b => simp only [leW,hc] at this
  refine (Full.rel (ν:=leNu s ν) (S:=S) ⟨hf.below,hf.inS,hf.fresh,⟨hf.W.lt,hf.W.size,fun i b hb => ?_,fun i j b c hij hi hj g hg hg' => ?_⟩,fun x => ?_,hf.size,hf.defers,hf.few,fun i hi ⟨b,hb⟩ => ?_,hf.tab⟩)
  · have hw:=leWs_at hl.bl hb
    rcases hD i b hb with ⟨c,hc⟩ | ⟨_,hn,T,te,hoT,rfl⟩
    · have hr:=hf.W.blk i c hc
      cases b with
      | box ds te' =>
        simp only [leW,hc] at hw
        cases c with
        | box cs te =>
          obtain ⟨hty,g,vs,e,h1,h2,h3,h4,h0,h5⟩:=hr
          obtain ⟨hw,hle⟩:=hw
          exact ⟨by rcases hle with rfl | rfl; exact elemIs_none _ _; exact hty.keep (hold i _ hc) fun _ _ => rfl,g,vs,e,by simp only [hold i _ hc]; exact h1,h2,h3,h4,h0,leVs_rel hf.W.blk hw (innBl_at hl.inBl hb) h5⟩
        | arr T xs te => exact hw.elim
        | mp K V es => exact hw.elim
        | it a b c => exact hw.elim
        | sit a b => exact hw.elim
      | arr T xs te =>
        simp only [leW,hc] at hw
        subst hw
        obtain ⟨hty,ho,hr⟩:=hr
        exact ⟨hty.keep (hold i _ hc) fun _ _ => rfl,ho,by simp only [hold i _ hc]; exact hr⟩
      | mp K V es =>
        simp only [leW,hc] at hw
        subst hw
        obtain ⟨hok,hov,h0,r,ents,clock,h1,hr⟩:=hr
        exact ⟨hok,hov,h0,r,ents,clock,by simp only [hold i _ hc]; exact h1,hr⟩
      | it ds since seen =>
        simp only [leW,hc] at hw
        cases c with
        | it cs since' seen' =>
          obtain ⟨rfl,rfl,hw⟩:=hw
          obtain ⟨g,m,h1,h2,h3,h4,h6⟩:=hr
          exact ⟨g,m,by simp only [hold i _ hc]; exact h1,h2,h3,h4,leVs_rel hf.W.blk hw (innBl_at hl.inBl hb) h6⟩
        | _ => exact hw.elim
      | sit x pos =>
        simp only [leW,hc] at hw
        subst hw
        obtain ⟨g,h1,hr⟩:=hr
        exact ⟨g,by simp only [hold i _ hc]; exact h1,hr⟩
    · refine ⟨fun t' _ g hg => (by simp only [leNu,hn] at hg; cases hg),hoT,.slice none 0 0,by simp only [leNu,hn],by simp,.inl ⟨rfl,rfl⟩⟩
  · rcases hD i b hi with ⟨b',hb'⟩ | ⟨_,hn,_⟩
    · rcases hD j c hj with ⟨c',hc'⟩ | ⟨_,hn,_⟩
      · rw [hold i _ hb'] at hg
        rw [hold j _ hc'] at hg'
        exact hf.W.ne i j b' c' hij hb' hc' g hg hg'
      · simp only [leNu,hn] at hg'; cases hg'
    · simp only [leNu,hn] at hg; cases hg
  · unfold St.get
    split
    · rename_i q hq
      exact leV_rel hf.W.blk (leSl_at hl.sl hq) (innSl_at hl.inSl hq) (hf.slots x)
    · simp only [PRel]
  · rcases hD i b hb with ⟨c,hc⟩ | ⟨h',_⟩
    · rw [hold i c hc]; exact hf.kept i hi ⟨c,hc⟩
    · omega

theorem Walks.sealw {E:Env} {G:Goal} {todo:List WI} {s:St} (ks:List Nat) (h:Walks E G todo (s.sealw ks)):Walks E G todo s:=by
  intro w0 S0 a w hr
  obtain ⟨ν,S,hf⟩:=hr.full
  exact h w0 S0 a w (hf.sealed ks).rel

theorem Walks.weaken {E:Env} {G:Goal} {todo:List WI} {s t:St} (hl:Le s t) (h:Walks E G todo t):Walks E G todo s :=
  fun w0 S0 a w hr => h w0 S0 a w (hr.weaken hl)

theorem Walks.loop {E:Env} {G:Goal} {c:Code} {k:List WI} {X:Type} (st:X → St) (inv:X → Prop) (m:X → Nat)
    (h:∀ x,inv x → (∀ (s:St) (y:X),Le s (st y) → inv y → m y < m x → Walks E G (.loop c :: k) s) → Walks E G (.code c :: .loop c :: k) (st x)):∀ x,inv x → Walks E G (.code (.loop c) :: k) (st x):=by
  have main:∀ (n:Nat) (x:X),m x < n → inv x → Walks E G (.code c :: .loop c :: k) (st x):=by
    intro n
    induction n with
    | zero => intro x h; omega
    | succ n ih =>
      intro x hx hi
      refine h x hi fun s y hl hy hm => ?_
      intro w0 S0 a w hr
      exact Ends.step (fun b cs => .one step_inLoop) (ih y (by omega) hy w0 S0 a w (hr.weaken hl))
  intro x hi w0 S0 a w hr
  exact Ends.step (fun b cs => .one step_loop) (main (m x + 1) x (by omega) hi w0 S0 a w hr)

/-! ### A function's entry -/

def argPV:(T:Ty) → T.den → PV
  | .ptr t,x => .eptr t x 0
  | .clo f t,x => .fn f (capsOf t x)
  | T,x => .iv T x
theorem argPV_rel {c:Ctx} {T:Ty} {x:T.den} {v:Value} (ho:owns T = 0) (h:RepV T x c.w c.M v):PRel c (argPV T x) v:=by
  cases T with
  | ptr t =>
    obtain ⟨g,o,cs,hv,h1,h2,h3,h4⟩:=h
    injection hv with hv
    subst hv
    simp only [argPV,PRel]
    exact ⟨ho,g,o,cs,rfl,h1,h2,h3,h4⟩
  | clo f t =>
    obtain ⟨caps,hv,h1⟩:=h
    injection hv with hv
    subst hv
    simp only [argPV,PRel]
    exact ⟨caps,rfl,capsOf_rel t x caps ho h1⟩
  | _ => simp only [argPV,PRel]; exact ⟨ho,RepR_of_V h⟩

def entryPV:PV → PV
  | .iv T x => argPV T x | p => p
def entrySl:Nat → List PV → List (Nat × PV)
  | _,[] => [] | i,p :: r => (i,entryPV p) :: entrySl (i + 1) r
def okPs:List PV → Prop
  | [] => True | p :: r => okP p ∧ okPs r
theorem entry_rel {c:Ctx} {p:PV} {v:Value} (h:PRel c p v):PRel c (entryPV p) v:=by
  cases p with
  | iv T x =>
    simp only [PRel] at h
    simp only [entryPV]
    cases T with
    | tup a b => simp only [argPV,PRel]; exact h
    | _ => exact argPV_rel h.1 h.2
  | _ => exact h
theorem okPs_of {c:Ctx}:∀ {ps:List PV} {vs:List Value},PRels c ps vs → okPs ps
  | [],_,_ => trivial
  | p :: ps,vs,h => by
    simp only [PRels] at h
    obtain ⟨v,r,rfl,h1,h2⟩:=h
    exact ⟨okP_of h1,okPs_of h2⟩
theorem entrySl_rel {c:Ctx}:∀ (ps:List PV) (vs:List Value) (i t:Nat) (p:PV),PRels c ps vs → look t (entrySl i ps) = some p → i ≤ t ∧ ∃ v,vs[t - i]? = some v ∧ PRel c p v
  | [],vs,i,t,p,_,h => by cases h
  | x :: xs,vs,i,t,p,hr,h => by
    simp only [PRels] at hr
    obtain ⟨v,r,rfl,h1,h2⟩:=hr
    simp only [entrySl,look] at h
    cases hb:Nat.beq t i with
    | true =>
      have:=Nat.eq_of_beq_eq_true hb
      subst this
      simp only [hb,cond_true,Option.some.injEq] at h
      subst h
      exact ⟨Nat.le_refl _,v,by simp,entry_rel h1⟩
    | false =>
      simp only [hb,cond_false] at h
      obtain ⟨h3,u,h4,h5⟩:=entrySl_rel xs r (i + 1) t p h2 h
      refine ⟨by omega,u,?_,h5⟩
      rw [show t - i = (t - (i + 1)) + 1 from by omega]
      simpa using h4

theorem enter_walkU {E:Env} {f n:Nat} {fn:Func} {c:Code} {args:List PV} {bl bl':List (Nat × Blk)} {p:PV} {mo:Option ((T:Ty) × (T.den → Prop) × (T.den → PV) × (T.den → List (Nat × Blk)))} {pan:Bool} (hfn:E.P.funcs[f]? = some fn) (hb:fn.body = some c) (hn:fn.ntmps = n) (hlen:Nat.ble args.length n = true) (hfew:Nat.ble n 100000 = true)
    (hW:Walks E ⟨f,n,fn.results.toList,p,bl',mo,pan⟩ [.code c] ⟨entrySl 0 args,bl⟩) {w:World} {C:Cx} {vs:List Value} (hdf:C.df = []) (htab:TabX w C) (hrel:WRel ⟨[],bl⟩ C.ν w ⟨C.S,own0 w C⟩) (hps:PRels ⟨C.ν,(⟨[],bl⟩:St).D,w,⟨C.S,own0 w C⟩⟩ args vs) :
    Calls E.P f vs.toArray w fun e w' => match e with | .returned v => pan = false ∧ PostG w C ⟨f,n,fn.results.toList,p,bl',mo,pan⟩ v w' | .panicked ch => pan = true ∧ chOK ch ∧ PostH w C .any bl' undef w' | .outgrown => False:=by
  intro cs
  have hvl:vs.length = args.length:=(PRels_len hps).symm
  have hle:=Nat.le_of_ble_eq_true hlen
  let b:Frame:={ (default:Frame) with fn:=f,kind:=.normal }
  have henter:Frame.enter E.P f vs.toArray .normal = b.at { tmps:=vs.toArray ++ Array.replicate (fn.ntmps - vs.toArray.size) undef,defers:=[] } [.code c]:=by
    simp [Frame.enter,Frame.at,hfn,hb,b]
  have hrel:Rel n w C ⟨entrySl 0 args,bl⟩ { tmps:=vs.toArray ++ Array.replicate (fn.ntmps - vs.toArray.size) undef,defers:=[] } w:=by
    refine ⟨C.ν,C.S,Kept.refl _ _,fun _ h => h,fun _ h => .inl h,⟨hrel.lt,hrel.size,hrel.blk,hrel.ne⟩,fun t => ?_,?_,hdf.symm,Nat.le_of_ble_eq_true hfew,fun _ _ _ => rfl,htab⟩
    · unfold St.get
      split
      · rename_i q hp
        obtain ⟨_,v,hv,hr⟩:=entrySl_rel args vs 0 t q hps hp
        have htl:t < vs.length:=by
          rw [Nat.sub_zero] at hv
          exact (List.getElem?_eq_some_iff.1 hv).1
        have:(vs.toArray ++ Array.replicate (fn.ntmps - vs.toArray.size) undef).getD t undef = v:=by
          rw [Array.getD_eq_getD_getElem?,Array.getElem?_append_left (by simpa using htl)]
          rw [Nat.sub_zero] at hv
          simp [hv]
        rw [this]
        exact hr
      · simp only [PRel]
    · simp only [Array.size_append,List.size_toArray,Array.size_replicate,hn]
      omega
  obtain ⟨u,a',w',td,hpost,hst⟩:=hW w C _ w hrel b cs rfl rfl
  cases u with
  | run => exact hpost.elim
  | returning =>
    obtain ⟨h1,h2,fn',v,h3,h4,h5⟩:=hpost
    refine ⟨.returned v,w',{ b.at a' td with mode:=.returning },⟨h1,h5⟩,?_,rfl,⟨rfl,h2.trans hdf,rfl,fn',h3,h4⟩⟩
    rw [henter]
    exact hst
  | panicking ch =>
    obtain ⟨h1,h2,h3,_,h4⟩:=hpost
    refine ⟨.panicked ch,w',{ b.at a' td with mode:=.panicking ch },⟨h1,h3,h4⟩,?_,rfl,⟨rfl,h2.trans hdf,fn,hfn⟩⟩
    rw [henter]
    exact hst
theorem enter_walk {E:Env} {f n:Nat} {fn:Func} {c:Code} {args:List PV} {bl bl':List (Nat × Blk)} {p:PV} {mo:Option ((T:Ty) × (T.den → Prop) × (T.den → PV) × (T.den → List (Nat × Blk)))} (hfn:E.P.funcs[f]? = some fn) (hb:fn.body = some c) (hn:fn.ntmps = n) (hlen:Nat.ble args.length n = true) (hfew:Nat.ble n 100000 = true)
    (hW:Walks E ⟨f,n,fn.results.toList,p,bl',mo,false⟩ [.code c] ⟨entrySl 0 args,bl⟩) {w:World} {C:Cx} {vs:List Value} (hdf:C.df = []) (htab:TabX w C) (hrel:WRel ⟨[],bl⟩ C.ν w ⟨C.S,own0 w C⟩) (hps:PRels ⟨C.ν,(⟨[],bl⟩:St).D,w,⟨C.S,own0 w C⟩⟩ args vs) :
    Calls E.P f vs.toArray w fun e w' => ∃ v,e = .returned v ∧ PostG w C ⟨f,n,fn.results.toList,p,bl',mo,false⟩ v w':=by
  refine (enter_walkU hfn hb hn hlen hfew hW hdf htab hrel hps).mono ?_
  intro e w' h
  cases e with
  | returned v => exact ⟨v,rfl,h.2⟩
  | panicked ch => cases h.1
  | outgrown => exact h.elim
theorem enter_walkX {E:Env} {f n:Nat} {fn:Func} {c:Code} {args:List PV} {bl bl':List (Nat × Blk)} {p:PV} {mo:Option ((T:Ty) × (T.den → Prop) × (T.den → PV) × (T.den → List (Nat × Blk)))} (hfn:E.P.funcs[f]? = some fn) (hb:fn.body = some c) (hn:fn.ntmps = n) (hlen:Nat.ble args.length n = true) (hfew:Nat.ble n 100000 = true)
    (hW:Walks E ⟨f,n,fn.results.toList,p,bl',mo,true⟩ [.code c] ⟨entrySl 0 args,bl⟩) {w:World} {C:Cx} {vs:List Value} (hdf:C.df = []) (htab:TabX w C) (hrel:WRel ⟨[],bl⟩ C.ν w ⟨C.S,own0 w C⟩) (hps:PRels ⟨C.ν,(⟨[],bl⟩:St).D,w,⟨C.S,own0 w C⟩⟩ args vs) :
    Calls E.P f vs.toArray w fun e w' => ∃ ch,e = .panicked ch ∧ chOK ch ∧ PostH w C .any bl' undef w':=by
  refine (enter_walkU hfn hb hn hlen hfew hW hdf htab hrel hps).mono ?_
  intro e w' h
  cases e with
  | returned v => cases h.1
  | panicked ch => exact ⟨ch,rfl,h.2⟩
  | outgrown => exact h.elim

theorem HC.of_walk {E:Env} {f n:Nat} {fn:Func} {c:Code} {args:List PV} {bl bl':List (Nat × Blk)} {p:PV} (hfn:E.P.funcs[f]? = some fn) (hb:fn.body = some c) (hn:fn.ntmps = n) (hlen:Nat.ble args.length n = true) (hfew:Nat.ble n 100000 = true)
    (h:okPs args → okBl bl → Walks E ⟨f,n,fn.results.toList,p,bl',none,false⟩ [.code c] ⟨entrySl 0 args,bl⟩):HC E f args bl p bl':=by
  intro w S ν vs hS hT hft hP hrel hps
  refine enter_walk hfn hb hn hlen hfew (h (okPs_of hps) (okBl_of hrel)) rfl ⟨hT,fun g hg hX => ?_⟩ hrel hps
  obtain ⟨i,b,hb,hν⟩:=hX
  exact (BRel_at (hrel.blk i b hb) hν).2.1 (hT g hg).1

theorem HN.of_walk {E:Env} {f n:Nat} {fn:Func} {c:Code} {args:List PV} {bl:List (Nat × Blk)} {T:Ty} {Y:T.den → Prop} {p:T.den → PV} {bl':T.den → List (Nat × Blk)} (hfn:E.P.funcs[f]? = some fn) (hb:fn.body = some c) (hn:fn.ntmps = n) (hlen:Nat.ble args.length n = true) (hfew:Nat.ble n 100000 = true)
    (h:okPs args → okBl bl → Walks E ⟨f,n,fn.results.toList,.any,[],some ⟨T,Y,p,bl'⟩,false⟩ [.code c] ⟨entrySl 0 args,bl⟩):HN E f args bl T Y p bl':=by
  intro w S ν vs hS hT hft hP hrel hps
  refine (enter_walk (C:=⟨S,foot ν bl,ν,[]⟩) hfn hb hn hlen hfew (h (okPs_of hps) (okBl_of hrel)) rfl ⟨hT,fun g hg hX => ?_⟩ hrel hps).mono ?_
  · obtain ⟨i,b,hb,hν⟩:=hX
    exact (BRel_at (hrel.blk i b hb) hν).2.1 (hT g hg).1
  · rintro e w' ⟨v,rfl,r,hY,hp⟩
    exact ⟨v,r,rfl,hY,hp⟩
def ivs:List (Sigma Ty.den) → List PV
  | [] => [] | x :: r => .iv x.1 x.2 :: ivs r
def oks:List (Sigma Ty.den) → Prop
  | [] => True | x :: r => x.1.ok x.2 ∧ oks r
theorem oks_of {w:World} {M:Mem}:∀ (xs:List (Sigma Ty.den)) (vs:List Value),RepAs w M xs vs → oks xs
  | [],_,_ => trivial
  | x :: xs,vs,h => by
    obtain ⟨v,r,rfl,ho,h1,h2⟩:=h
    exact ⟨RepR_ok (RepR_of_V h1),oks_of xs r h2⟩
theorem ivs_rel {c:Ctx} {w:World} {M:Mem} (hw:c.w = w) (hS:∀ b,M.S b → c.M.S b):∀ {xs:List (Sigma Ty.den)} {vs:List Value},RepAs w M xs vs → PRels c (ivs xs) vs
  | [],vs,h => by simp only [RepAs] at h; subst h; simp only [ivs,PRels]
  | x :: xs,vs,h => by
    obtain ⟨v,r,rfl,ho,h1,h2⟩:=h
    simp only [ivs,PRels,PRel]
    exact ⟨v,r,rfl,⟨ho,RepR_of_V (RepV_mono (w:=w) (M:=M) (fun _ _ => by rw [hw]) hS ho h1)⟩,ivs_rel hw hS h2⟩
theorem ivs_len:∀ (xs:List (Sigma Ty.den)),(ivs xs).length = xs.length
  | [] => rfl
  | x :: xs => by simp only [ivs,List.length_cons,ivs_len xs]

theorem PC.of_walk {E:Env} {f n:Nat} {fn:Func} {c:Code} {xs:List (Sigma Ty.den)} {T:Ty} {r:T.den} (hfn:E.P.funcs[f]? = some fn) (hb:fn.body = some c) (hn:fn.ntmps = n) (hlen:Nat.ble xs.length n = true) (hfew:Nat.ble n 100000 = true)
    (h:oks xs → Walks E ⟨f,n,fn.results.toList,.iv T r,[],none,false⟩ [.code c] ⟨entrySl 0 (ivs xs),[]⟩):PC E f xs T r:=by
  intro w S vs hS hT hrep
  refine (enter_walk (args:=ivs xs) (bl:=[]) (C:=⟨S,fun _ => False,fun _ => undef,[]⟩) hfn hb hn (by rw [ivs_len]; exact hlen) hfew (h (oks_of _ _ hrep)) rfl ⟨hT,fun _ _ h => h⟩ ⟨hS,fun b hb => .inl hb,fun i b hb => (by cases hb),fun i j b c _ hi => (by cases hi)⟩ (ivs_rel (c:=⟨fun _ => undef,(⟨[],[]⟩:St).D,w,⟨S,own0 w ⟨S,fun _ => False,fun _ => undef,[]⟩⟩⟩) (w:=w) (M:=⟨S,fun g => w.heap.size ≤ g⟩) rfl (fun _ h => h) hrep)).mono ?_
  rintro e w' ⟨v,rfl,hk,ν,S',h1,h2,h3,hW,hp⟩
  simp only [PRel] at hp
  refine ⟨v,rfl,⟨⟨hk.os,hk.tape,hk.output,hk.size,fun k hk' => hk.block k hk' (fun h => h)⟩,hk.drawn⟩,S',h1,fun b hb => ?_,hW.lt,RepR_mono (w:=w') (w':=w') (M:=⟨S',own0 w ⟨S,fun _ => False,fun _ => undef,[]⟩⟩) (M':=⟨S',fun g => w.heap.size ≤ g⟩) (fun _ _ => rfl) (fun _ h => h) hp.1 hp.2⟩
  rcases h2 b hb with h' | h' | h'
  · exact .inl h'
  · exact .inr h'
  · exact h'.elim

theorem PN.of_walk {E:Env} {f n:Nat} {fn:Func} {c:Code} {xs:List (Sigma Ty.den)} {T:Ty} {Y:T.den → Prop} (hfn:E.P.funcs[f]? = some fn) (hb:fn.body = some c) (hn:fn.ntmps = n) (hlen:Nat.ble xs.length n = true) (hfew:Nat.ble n 100000 = true)
    (h:oks xs → Walks E ⟨f,n,fn.results.toList,.any,[],some ⟨T,Y,fun r => .iv T r,fun _ => []⟩,false⟩ [.code c] ⟨entrySl 0 (ivs xs),[]⟩):PN E f xs T Y:=by
  intro w S vs hS hT hrep
  refine (enter_walk (args:=ivs xs) (bl:=[]) (C:=⟨S,fun _ => False,fun _ => undef,[]⟩) hfn hb hn (by rw [ivs_len]; exact hlen) hfew (h (oks_of _ _ hrep)) rfl ⟨hT,fun _ _ h => h⟩ ⟨hS,fun b hb => .inl hb,fun i b hb => (by cases hb),fun i j b c _ hi => (by cases hi)⟩ (ivs_rel (c:=⟨fun _ => undef,(⟨[],[]⟩:St).D,w,⟨S,own0 w ⟨S,fun _ => False,fun _ => undef,[]⟩⟩⟩) (w:=w) (M:=⟨S,fun g => w.heap.size ≤ g⟩) rfl (fun _ h => h) hrep)).mono ?_
  rintro e w' ⟨v,rfl,r,hY,hk,ν,S',h1,h2,h3,hW,hp⟩
  simp only [PRel] at hp
  refine ⟨v,r,rfl,hY,⟨⟨hk.os,hk.tape,hk.output,hk.size,fun k hk' => hk.block k hk' (fun h => h)⟩,hk.drawn⟩,S',h1,fun b hb => ?_,hW.lt,RepR_mono (w:=w') (w':=w') (M:=⟨S',own0 w ⟨S,fun _ => False,fun _ => undef,[]⟩⟩) (M':=⟨S',fun g => w.heap.size ≤ g⟩) (fun _ _ => rfl) (fun _ h => h) hp.1 hp.2⟩
  rcases h2 b hb with h' | h' | h'
  · exact .inl h'
  · exact .inr h'
  · exact h'.elim

theorem XH.of_walk {E:Env} {f n:Nat} {fn:Func} {c:Code} {args:List PV} {bl bl':List (Nat × Blk)} (hfn:E.P.funcs[f]? = some fn) (hb:fn.body = some c) (hn:fn.ntmps = n) (hlen:Nat.ble args.length n = true) (hfew:Nat.ble n 100000 = true)
    (h:okPs args → okBl bl → Walks E ⟨f,n,fn.results.toList,.any,bl',none,true⟩ [.code c] ⟨entrySl 0 args,bl⟩):XH E f args bl bl':=by
  intro w S ν vs hS hT hft hP hrel hps
  refine enter_walkX hfn hb hn hlen hfew (h (okPs_of hps) (okBl_of hrel)) rfl ⟨hT,fun g hg hX => ?_⟩ hrel hps
  obtain ⟨i,b,hb,hν⟩:=hX
  exact (BRel_at (hrel.blk i b hb) hν).2.1 (hT g hg).1
theorem XC.of_walk {E:Env} {f n:Nat} {fn:Func} {c:Code} {xs:List (Sigma Ty.den)} (hfn:E.P.funcs[f]? = some fn) (hb:fn.body = some c) (hn:fn.ntmps = n) (hlen:Nat.ble xs.length n = true) (hfew:Nat.ble n 100000 = true)
    (h:oks xs → Walks E ⟨f,n,fn.results.toList,.any,[],none,true⟩ [.code c] ⟨entrySl 0 (ivs xs),[]⟩):XC E f xs:=by
  intro w S vs hS hT hrep
  refine (enter_walkX (args:=ivs xs) (bl:=[]) (C:=⟨S,fun _ => False,fun _ => undef,[]⟩) hfn hb hn (by rw [ivs_len]; exact hlen) hfew (h (oks_of _ _ hrep)) rfl ⟨hT,fun _ _ h => h⟩ ⟨hS,fun b hb => .inl hb,fun i b hb => (by cases hb),fun i j b c _ hi => (by cases hi)⟩ (ivs_rel (c:=⟨fun _ => undef,(⟨[],[]⟩:St).D,w,⟨S,own0 w ⟨S,fun _ => False,fun _ => undef,[]⟩⟩⟩) (w:=w) (M:=⟨S,fun g => w.heap.size ≤ g⟩) rfl (fun _ h => h) hrep)).mono ?_
  rintro e w' ⟨ch,rfl,hch,hk,_⟩
  exact ⟨ch,rfl,hch,⟨hk.os,hk.tape,hk.output,hk.size,fun k hk' => hk.block k hk' (fun h => h)⟩,hk.drawn⟩
end Go.Proofs.Ytefpgfdemmllpaa
