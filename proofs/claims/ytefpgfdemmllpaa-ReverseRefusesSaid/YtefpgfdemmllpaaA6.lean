/-
  The list of outcomes. Nothing here is trusted; no condition.
-/
import Derived.Test.YtefpgfdemmllpaaA5
set_option linter.unusedSimpArgs false
set_option linter.unusedVariables false
namespace Go.Proofs.Ytefpgfdemmllpaa

section
variable {F:Reg} {b1 b2:List (Nat × Blk)}
theorem boxAt_congr (h:∀ id,lk F b1 id = lk F b2 id) (id off:Nat):boxAt F b1 id off = boxAt F b2 id off:=by
  unfold boxAt; rw [h]
theorem asSl_congr (h:∀ id,lk F b1 id = lk F b2 id) (t:Ty) (p:PV):asSl F b1 t p = asSl F b2 t p:=by
  unfold asSl; cases p <;> simp only [h]
theorem asMp_congr (h:∀ id,lk F b1 id = lk F b2 id) (k v:Ty) (p:PV):asMp F b1 k v p = asMp F b2 k v p:=by
  unfold asMp; cases p <;> simp only [h]
theorem pk_congr (h:∀ id,lk F b1 id = lk F b2 id):∀ (T:Ty) (cs:List PV),owns T = 0 → pk F b1 T cs = pk F b2 T cs:=by
  intro T
  induction T with
  | own t _ => intro cs ho; simp [owns] at ho
  | pair a b iha ihb =>
    intro cs ho
    simp only [owns] at ho
    simp only [pk]
    rw [iha cs (by omega)]
    cases pk F b2 a cs with
    | none => rfl
    | some x => simp only; rw [ihb _ (by omega)]
  | st t ih => intro cs ho; simp only [owns] at ho; simp only [pk]; exact ih cs ho
  | sl t _ => intro cs ho; cases cs <;> simp only [pk,asSl_congr h]
  | mp a b _ _ => intro cs ho; cases cs <;> simp only [pk,asMp_congr h]
  | ptr t ih =>
    intro cs ho
    simp only [owns] at ho
    cases cs with
    | nil => rfl
    | cons c r =>
      cases c <;> simp only [pk,boxAt_congr h]
      split
      · rw [ih _ ho]
      · rfl
  | clo f t ih =>
    intro cs ho
    simp only [owns] at ho
    cases cs with
    | nil => rfl
    | cons c r => cases c <;> simp only [pk]; rw [ih _ ho]
  | _ => intro cs ho; cases cs <;> rfl
theorem exp_congr (h:∀ id,lk F b1 id = lk F b2 id) (T:Ty) (p:PV) (ho:owns T = 0):exp F b1 T p = exp F b2 T p:=by
  unfold exp
  cases T <;> simp only <;> first
    | rw [pk_congr h _ _ ho]
    | (cases p <;> simp only; rw [pk_congr h _ _ (by simpa [owns] using ho)])
theorem expAll_congr (h:∀ id,lk F b1 id = lk F b2 id):∀ (Ts:List Ty) (ps:List PV),(∀ T,T ∈ Ts → owns T = 0) → expAll F b1 Ts ps = expAll F b2 Ts ps
  | [],[],_ => rfl
  | [],_ :: _,_ => rfl
  | _ :: _,[],_ => rfl
  | T :: Ts,p :: ps,ho => by
    simp only [expAll]
    rw [exp_congr h T p (ho T (List.mem_cons_self ..)),expAll_congr h Ts ps (fun U hU => ho U (List.mem_cons_of_mem _ hU))]
theorem binEq_congr {E:Env} (hE:EnvOK E) (h:∀ id,lk F b1 id = lk F b2 id) (t:Nat) (neg:Bool) (x y:PV):binEq E F b1 t neg x y = binEq E F b2 t neg x y:=by
  unfold binEq
  cases ht:E.ty t with
  | none => rfl
  | some T =>
    have ho:=(hE.facts ht).own
    simp only [exp_congr h T _ ho]
theorem binO_congr {E:Env} (hE:EnvOK E) (h:∀ id,lk F b1 id = lk F b2 id) (op:BinOp) (t:Nat) (x y:PV):binO E F b1 op t x y = binO E F b2 op t x y:=by
  unfold binO
  simp only [binEq_congr hE h]
theorem lenO_congr {E:Env} (h:∀ id,lk F b1 id = lk F b2 id) (t:Nat) (p:PV):lenO E F b1 t p = lenO E F b2 t p:=by
  unfold lenO
  simp only [h]
theorem sliceO_congr (h:∀ id,lk F b1 id = lk F b2 id) (ar:Bool) (T:Ty) (p:PV) (lo hi:Option Int):sliceO F b1 ar T p lo hi = sliceO F b2 ar T p lo hi:=by
  unfold sliceO
  simp only [h]
theorem indexO_congr {E:Env} (h:∀ id,lk F b1 id = lk F b2 id) (t:Nat) (p:PV) (i:Int):indexO E F b1 t p i = indexO E F b2 t p i:=by
  unfold indexO
  simp only [h]
theorem loadO_congr {E:Env} (h:∀ id,lk F b1 id = lk F b2 id) (t:Nat) (p:PV):loadO E F b1 t p = loadO E F b2 t p:=by
  unfold loadO
  simp only [h]
theorem convO_congr {E:Env} (h:∀ id,lk F b1 id = lk F b2 id) (t1 t:Nat) (p:PV):convO E F b1 t1 t p = convO E F b2 t1 t p:=by
  unfold convO
  simp only [asSl_congr h]
theorem elemsO_congr (h:∀ id,lk F b1 id = lk F b2 id) (T:Ty) (ho:owns T = 0):∀ (ps:List (Nat × PV)) (i:Nat),elemsO F b1 T i ps = elemsO F b2 T i ps
  | [],_ => rfl
  | p :: r,i => by simp only [elemsO,exp_congr h T _ ho,elemsO_congr h T ho r (i + 1)]
theorem lookupO_congr {E:Env} (hE:EnvOK E) (h:∀ id,lk F b1 id = lk F b2 id) (t:Nat) (p q:PV) (ok:Bool):lookupO E F b1 t p q ok = lookupO E F b2 t p q ok:=by
  unfold lookupO
  cases hT:E.ty t with
  | none => rfl
  | some U =>
    cases U <;> try rfl
    rename_i A B
    obtain ⟨k',ve,hu,hTA,hTB,hvA,hvB,hoA,hoB⟩:=map_ty hE hT
    cases hk:E.mapKey t with
    | none => rfl
    | some kt => simp only [asMp_congr h,exp_congr h A _ hoA]
end
end Go.Proofs.Ytefpgfdemmllpaa
namespace Go.Proofs.Ytefpgfdemmllpaa

def freeReads (o:Oper):Option (List Operand):=match o.op with
  | .move x => some [x] | .assign x => some [x] | .nilCheck x => some [x] | .pick c a b => some [c,a,b]
  | .alloc _ => some [] | .box _ x => some [x]
  | .build _ parts => some (parts.toList.map (·.2)) | .buildSlice _ _ parts => some (parts.toList.map (·.2))
  | .load _ x => some [x] | .binOp _ _ x y _ => some [x,y] | .unOp _ _ x => some [x] | .convert _ _ x => some [x]
  | .slice _ x lo hi mx => some (x :: (lo.toList ++ (hi.toList ++ mx.toList)))
  | .fieldAddr _ x _ => some [x] | .field _ x _ => some [x] | .indexAddr _ x i => some [x,i] | .index _ x i => some [x,i] | .extract x _ => some [x] | .lookup _ x y _ => some [x,y]
  | .call c => match c.callee with
    | .value g => some (g :: c.args.toList)
    | .builtin .len => some c.args.toList | .builtin .cap => some c.args.toList | .builtin .min => some c.args.toList | .builtin .max => some c.args.toList
    | _ => none
  | _ => none

theorem evAll_congr {s t:St}:∀ {xs:List Operand},(∀ x,x ∈ xs → s.ev x = t.ev x) → evAll s xs = evAll t xs
  | [],_ => rfl
  | x :: xs,h => by simp only [evAll]; rw [h x (List.mem_cons_self ..),evAll_congr (fun y hy => h y (List.mem_cons_of_mem _ hy))]
theorem evParts_congr {s t:St}:∀ {xs:List (Nat × Operand)},(∀ x,x ∈ xs.map (·.2) → s.ev x = t.ev x) → evParts s xs = evParts t xs
  | [],_ => rfl
  | x :: xs,h => by
    simp only [evParts]
    rw [h x.2 (by simp),evParts_congr (xs:=xs) (fun y hy => h y (by rw [List.map_cons]; exact List.mem_cons_of_mem _ hy))]

theorem nilCmp_off {E:Env} {F:Reg} (he:F.e = false) (op:BinOp) (t:Nat) (a b:PV):nilCmp E F op t a b = none:=by
  have h1:∀ neg,nilCmp1 E F t neg a b = none:=by
    intro neg
    unfold nilCmp1
    rw [he]
    cases b <;> rfl
  cases op <;> first | rfl | exact h1 _
theorem stepF_congr {E:Env} (hE:EnvOK E) {F:Reg} (he:F.e = false) {s t:St} {o:Oper} {rs:List Operand} (ho:freeReads o = some rs)
    (hs:∀ x,x ∈ rs → s.ev x = t.ev x) (hb:∀ id,lk F s.bl id = lk F t.bl id) (hd:∀ d,o.dst = some d → look d s.bl = look d t.bl):stepF E F s o = stepF E F t o:=by
  obtain ⟨dst,op,ty,pos,af,g⟩:=o
  unfold freeReads at ho
  unfold stepF
  cases op <;> simp only [Option.some.injEq,reduceCtorEq] at ho
  all_goals try subst ho
  case move x => simp only [hs x (by simp)]
  case nilCheck x => simp only [hs x (by simp)]
  case assign x => simp only [hs x (by simp)]
  case pick c a b => simp only [hs c (by simp),hs a (by simp),hs b (by simp)]
  case binOp op t x y u => simp only [hs x (by simp),hs y (by simp),nilCmp_off he,binO_congr hE hb]
  case load u x => simp only [hs x (by simp),loadO_congr hb]
  case unOp u v x => simp only [hs x (by simp)]
  case convert u v x => simp only [hs x (by simp),convO_congr hb]
  case fieldAddr u x f => simp only [hs x (by simp)]
  case field u x f => simp only [hs x (by simp)]
  case extract x i => simp only [hs x (by simp)]
  case indexAddr u x i => simp only [hs x (by simp),hs i (by simp),indexO_congr hb]
  case index u x i => simp only [hs x (by simp),hs i (by simp)]
  case lookup u x y ok => simp only [hs x (by simp),hs y (by simp),lookupO_congr hE hb]
  case alloc u =>
    dsimp only
    cases dst with
    | none => cases E.ty u <;> rfl
    | some d => cases E.ty u with
      | none => rfl
      | some U => simp only [hd d rfl]
  case box u x =>
    dsimp only
    cases dst with
    | none => simp only [hs x (by simp)]
    | some d =>
      rw [hs x (by simp)]
      cases (t.ev x).cells with
      | none => rfl
      | some cs => simp only [hd d rfl]
  case build u parts => simp only [evParts_congr hs]
  case buildSlice u n parts =>
    simp only [evParts_congr hs]
    cases dst with
    | none => cases hu:E.ty u with
      | none => rfl
      | some U => cases U <;> rfl
    | some d =>
      cases hu:E.ty u with
      | none => rfl
      | some U =>
        have hU:=(hE.facts hu).own
        cases U <;> try rfl
        rename_i V
        simp only [owns] at hU
        simp only [hd d rfl,elemsO_congr hb V hU]
  case slice u x lo hi mx =>
    have hbd:∀ y:Option Operand,(∀ z,z ∈ y.toList → s.ev z = t.ev z) → bound s y = bound t y:=by
      intro y hy
      cases y with
      | none => rfl
      | some z => simp only [bound]; rw [hy z (by simp)]
    have h1:=hs x (by simp)
    have h2:=hbd lo (fun z hz => hs z (by simp [hz]))
    have h3:=hbd hi (fun z hz => hs z (by simp [hz]))
    simp only [h1,h2,h3,sliceO_congr hb]
    cases mx with
    | none => rfl
    | some m => simp only [hs m (by simp)]
  case call c =>
    obtain ⟨callee,args,ats⟩:=c
    have hc:∀ (f:Nat) (ps:List PV),callO E F s dst f ps = callO E F t dst f ps:=by
      intro f ps
      unfold callO
      cases hf:E.fn f with
      | none => simp only [he]; cases E.hfn f <;> rfl
      | some p =>
        obtain ⟨As,T⟩:=p
        have hAs:=hE.fn f As T hf
        unfold fnOK at hAs
        simp only [Bool.and_eq_true,List.all_eq_true] at hAs
        dsimp only
        rw [expAll_congr hb As _ (fun A hA => Nat.eq_of_beq_eq_true (hAs.2 A hA))]
    cases callee with
    | value g =>
      simp only [Option.some.injEq] at ho
      subst ho
      have h1:=hs g (by simp)
      have h2:=evAll_congr (xs:=args.toList) (fun x hx => hs x (List.mem_cons_of_mem _ hx))
      dsimp only
      rw [h1,h2]
      cases t.ev g with
      | fn f caps => exact hc f _
      | bnd f ps => exact hc f _
      | iv T x => cases T <;> first | rfl | exact hc _ _
      | _ => rfl
    | builtin b =>
      cases b <;> simp only [Option.some.injEq,reduceCtorEq] at ho
      all_goals
        subst ho
        have h2:=evAll_congr (xs:=args.toList) hs
        dsimp only
        rw [h2]
        try simp only [lenO_congr hb]
    | _ => simp at ho

def slotReads (o:Oper):Option (List Operand):=match o.op with
  | .move x => some [x] | .assign x => some [x] | .nilCheck x => some [x] | .pick c a b => some [c,a,b]
  | .build _ parts => some (parts.toList.map (·.2))
  | .binOp op _ x y _ => (match op with | .eql => none | .neq => none | _ => some [x,y]) | .unOp _ _ x => some [x]
  | .fieldAddr _ x _ => some [x] | .field _ x _ => some [x] | .index _ x i => some [x,i] | .extract x _ => some [x]
  | .call c => match c.callee with
    | .builtin .min => some c.args.toList | .builtin .max => some c.args.toList
    | _ => none
  | _ => none
theorem stepF_slots {E:Env} {F:Reg} {s t:St} {o:Oper} {rs:List Operand} (ho:slotReads o = some rs) (hs:∀ x,x ∈ rs → s.ev x = t.ev x):stepF E F s o = stepF E F t o:=by
  obtain ⟨dst,op,ty,pos,af,g⟩:=o
  unfold slotReads at ho
  unfold stepF
  cases op <;> simp only [Option.some.injEq,reduceCtorEq] at ho
  case move x => subst ho; simp only [hs x (by simp)]
  case nilCheck x => subst ho; simp only [hs x (by simp)]
  case assign x => subst ho; simp only [hs x (by simp)]
  case pick c a b => subst ho; simp only [hs c (by simp),hs a (by simp),hs b (by simp)]
  case build u parts => subst ho; simp only [evParts_congr hs]
  case binOp op u x y v =>
    have hxy:∀ rs',some [x,y] = some rs' → s.ev x = t.ev x ∧ s.ev y = t.ev y ∨ rs' ≠ rs:=by
      intro rs' h
      by_cases e:rs' = rs
      · injection h with h
        subst h; subst e
        exact .inl ⟨hs x (by simp),hs y (by simp)⟩
      · exact .inr e
    cases op <;> simp only [Option.some.injEq,reduceCtorEq] at ho
    all_goals
      subst ho
      simp only [hs x (by simp),hs y (by simp)]
      simp only [nilCmp]
      unfold binO
      generalize t.ev x = a
      generalize t.ev y = b
      try rfl
      all_goals (cases a <;> first | rfl | (cases b <;> first | rfl | (rename_i T1 x1 T2 x2; cases T1 <;> cases T2 <;> rfl)))
  case unOp u v x => subst ho; simp only [hs x (by simp)]
  case fieldAddr u x f => subst ho; simp only [hs x (by simp)]
  case field u x f => subst ho; simp only [hs x (by simp)]
  case index u x i => subst ho; simp only [hs x (by simp),hs i (by simp)]
  case extract x i => subst ho; simp only [hs x (by simp)]
  case call c =>
    obtain ⟨callee,args,ats⟩:=c
    cases callee with
    | builtin b =>
      cases b <;> simp only [Option.some.injEq,reduceCtorEq] at ho
      all_goals
        subst ho
        have h2:=evAll_congr (xs:=args.toList) hs
        dsimp only
        rw [h2]
    | _ => simp at ho
end Go.Proofs.Ytefpgfdemmllpaa
namespace Go.Proofs.Ytefpgfdemmllpaa

structure Same (s t:St):Prop where
  get:∀ i,s.get i = t.get i
  blk:∀ i,look i s.bl = look i t.bl
theorem Same.refl (s:St):Same s s:=⟨fun _ => rfl,fun _ => rfl⟩
theorem Same.symm {s t:St} (h:Same s t):Same t s:=⟨fun i => (h.get i).symm,fun i => (h.blk i).symm⟩
theorem Same.trans {s t u:St} (h:Same s t) (h':Same t u):Same s u:=⟨fun i => (h.get i).trans (h'.get i),fun i => (h.blk i).trans (h'.blk i)⟩
theorem Same.ev {s t:St} (h:Same s t) (x:Operand):s.ev x = t.ev x:=by
  cases x <;> simp only [St.ev,h.get]
theorem Same.lk {s t:St} (h:Same s t) (F:Reg) (i:Nat):lk F s.bl i = lk F t.bl i:=by
  unfold Go.Proofs.Ytefpgfdemmllpaa.lk; rw [h.blk]
theorem Same.D {s t:St} (h:Same s t):s.D = t.D:=by
  funext i; unfold St.D; rw [h.blk]
theorem Rel.same {n:Nat} {w0:World} {S0:Cx} {s t:St} {a:Act} {w:World} (hs:Same s t) (h:Rel n w0 S0 s a w):Rel n w0 S0 t a w:=by
  obtain ⟨ν,S,h1,h2,h3,h4,h5,h6,h7,h8,h9,h10⟩:=h
  refine ⟨ν,S,h1,h2,h3,⟨h4.lt,h4.size,fun id b hb => ?_,fun i j b c hij hi hj => ?_⟩,fun i => ?_,h6,h7,h8,fun i hi hd => h9 i hi (by rw [hs.D]; exact hd),h10⟩
  · rw [← hs.blk] at hb; rw [← hs.D]; exact h4.blk id b hb
  · rw [← hs.blk] at hi hj; exact h4.ne i j b c hij hi hj
  · rw [← hs.get,← hs.D]; exact h5 i

inductive Res where
  | skip | done (l:Out)
def St.app (s:St) (d:Option Nat):Res → St
  | .skip => s.put d (.tup [])
  | .done l => s.fin d l
def Res.fine (d:Option Nat):Res → Bool
  | .skip => true
  | .done (.val _) => true
  | .done (.new _ _) => d.isSome
  | .done (.store _ _) => true
  | _ => false
def Res.slot (d:Option Nat):Res → Option (Nat × PV)
  | .skip => d.map (·,.tup []) | .done (.val v) => d.map (·,v) | .done (.new v _) => d.map (·,v) | _ => none
def Res.blk (d:Option Nat):Res → Option (Nat × Blk)
  | .done (.new _ b) => d.map (·,b) | .done (.store i b) => some (i,b) | _ => none
theorem app_get {s:St} {d:Option Nat} {r:Res} (h:r.fine d = true) (i:Nat):(s.app d r).get i = match r.slot d with | some p => (bif Nat.beq i p.1 then p.2 else s.get i) | none => s.get i:=by
  have key:∀ (e:Nat) (v:PV) (bl:List (Nat × Blk)),(⟨(e,v) :: s.sl,bl⟩:St).get i = bif Nat.beq i e then v else s.get i:=by
    intro e v bl
    simp only [St.get,look]
    cases Nat.beq i e <;> rfl
  cases r with
  | skip => cases d <;> simp only [St.app,St.put,Res.slot,Option.map_some,Option.map_none]; exact key _ _ _
  | done l =>
    cases l with
    | val v => cases d <;> simp only [St.app,St.fin,St.put,Res.slot,Option.map_some,Option.map_none]; exact key _ _ _
    | new v b => cases d <;> simp only [St.app,St.fin,Res.slot,Option.map_some,Option.map_none]; exact key _ _ _
    | store j b => rfl
    | _ => cases h
theorem app_blk {s:St} {d:Option Nat} {r:Res} (h:r.fine d = true) (i:Nat):look i (s.app d r).bl = match r.blk d with | some p => (bif Nat.beq i p.1 then some p.2 else look i s.bl) | none => look i s.bl:=by
  cases r with
  | skip => cases d <;> rfl
  | done l =>
    cases l with
    | val v => cases d <;> rfl
    | new v b => cases d <;> simp only [St.app,St.fin,Res.blk,Option.map_some,Option.map_none,look]
    | store j b => simp only [St.app,St.fin,Res.blk,look]
    | _ => cases h
theorem app_same {s t:St} (h:Same s t) {d:Option Nat} {r:Res} (hr:r.fine d = true):Same (s.app d r) (t.app d r):=by
  refine ⟨fun i => ?_,fun i => ?_⟩
  · rw [app_get hr,app_get hr]
    cases r.slot d <;> simp only [h.get]
  · rw [app_blk hr,app_blk hr]
    cases r.blk d <;> simp only [h.blk]

def apart2 (p q:Option Nat × Res):Prop:=(∀ x y,p.2.slot p.1 = some x → q.2.slot q.1 = some y → x.1 ≠ y.1) ∧ ∀ x y,p.2.blk p.1 = some x → q.2.blk q.1 = some y → x.1 ≠ y.1
theorem beq_ne' {i j:Nat} (h:i ≠ j):Nat.beq i j = false:=by
  cases hb:Nat.beq i j with
  | false => rfl
  | true => exact absurd (Nat.eq_of_beq_eq_true hb) h
theorem app_comm {s:St} {p q:Option Nat × Res} (h1:p.2.fine p.1 = true) (h2:q.2.fine q.1 = true) (h:apart2 p q):Same ((s.app p.1 p.2).app q.1 q.2) ((s.app q.1 q.2).app p.1 p.2):=by
  refine ⟨fun i => ?_,fun i => ?_⟩
  · rw [app_get h2,app_get h1,app_get h1,app_get h2]
    cases hq:q.2.slot q.1 with
    | none => rfl
    | some y =>
      cases hp:p.2.slot p.1 with
      | none => rfl
      | some x =>
        have hne:=h.1 x y hp hq
        simp only
        cases hb:Nat.beq i y.1 with
        | false => rfl
        | true => rw [Nat.eq_of_beq_eq_true hb,beq_ne' hne.symm]; rfl
  · rw [app_blk h2,app_blk h1,app_blk h1,app_blk h2]
    cases hq:q.2.blk q.1 with
    | none => rfl
    | some y =>
      cases hp:p.2.blk p.1 with
      | none => rfl
      | some x =>
        have hne:=h.2 x y hp hq
        simp only
        cases hb:Nat.beq i y.1 with
        | false => rfl
        | true => rw [Nat.eq_of_beq_eq_true hb,beq_ne' hne.symm]; rfl
end Go.Proofs.Ytefpgfdemmllpaa
namespace Go.Proofs.Ytefpgfdemmllpaa

def stD:List (Option Nat × Res) → (Nat → Bool) → Nat → St → St
  | [],_,_,s => s
  | p :: r,D,i,s => stD r D (i + 1) (match D i with | true => s.app p.1 p.2 | false => s)
theorem stD_same {D:Nat → Bool}:∀ {l:List (Option Nat × Res)} {i:Nat} {s t:St},(∀ p,p ∈ l → p.2.fine p.1 = true) → Same s t → Same (stD l D i s) (stD l D i t)
  | [],_,_,_,_,h => h
  | p :: r,i,s,t,hl,h => by
    simp only [stD]
    refine stD_same (fun q hq => hl q (List.mem_cons_of_mem _ hq)) ?_
    cases D i with
    | true => exact app_same h (hl p (List.mem_cons_self ..))
    | false => exact h
theorem stD_app {D:Nat → Bool} {q:Option Nat × Res} (hq:q.2.fine q.1 = true):∀ {l:List (Option Nat × Res)} {i:Nat} {s:St},(∀ p,p ∈ l → p.2.fine p.1 = true) → (∀ (k:Nat) p,l[k]? = some p → D (i + k) = true → apart2 q p) →
    Same (stD l D i (s.app q.1 q.2)) ((stD l D i s).app q.1 q.2)
  | [],_,s,_,_ => Same.refl _
  | p :: r,i,s,hl,hn => by
    simp only [stD]
    have hn':∀ (k:Nat) x,r[k]? = some x → D (i + 1 + k) = true → apart2 q x:=fun k x hx hD => hn (k + 1) x (by simpa using hx) (by rw [show i + (k + 1) = i + 1 + k from by omega]; exact hD)
    cases hD:D i with
    | false => exact stD_app hq (fun x hx => hl x (List.mem_cons_of_mem _ hx)) hn'
    | true =>
      refine Same.trans (stD_same (fun x hx => hl x (List.mem_cons_of_mem _ hx)) (app_comm hq (hl p (List.mem_cons_self ..)) (hn 0 p rfl hD))) ?_
      exact stD_app hq (fun x hx => hl x (List.mem_cons_of_mem _ hx)) hn'
theorem stD_ext {D D':Nat → Bool}:∀ {l:List (Option Nat × Res)} {i:Nat} {s:St},(∀ j,i ≤ j → D j = D' j) → stD l D i s = stD l D' i s
  | [],_,_,_ => rfl
  | p :: r,i,s,h => by
    simp only [stD]
    rw [h i (Nat.le_refl _),stD_ext (l:=r) (fun j hj => h j (by omega))]
theorem stD_insert {D D':Nat → Bool} {j:Nat} (hD:D j = false) (hD':D' j = true) (he:∀ m,m ≠ j → D m = D' m):∀ {l:List (Option Nat × Res)} {i:Nat} {s:St} {p:Option Nat × Res},(∀ p,p ∈ l → p.2.fine p.1 = true) → i ≤ j → l[j - i]? = some p →
    (∀ (k:Nat) q,j < i + k → l[k]? = some q → D (i + k) = true → apart2 p q) → Same (stD l D' i s) ((stD l D i s).app p.1 p.2)
  | [],i,s,p,_,_,hp,_ => by simp at hp
  | q :: r,i,s,p,hl,hij,hp,hn => by
    simp only [stD]
    by_cases hi:i = j
    · subst hi
      rw [Nat.sub_self] at hp
      simp only [List.getElem?_cons_zero,Option.some.injEq] at hp
      subst hp
      rw [hD,hD']
      simp only
      rw [← stD_ext (D:=D) (D':=D') (fun m hm => he m (by omega))]
      exact stD_app (hl q (List.mem_cons_self ..)) (fun x hx => hl x (List.mem_cons_of_mem _ hx)) (fun k x hx hDk => hn (k + 1) x (by omega) (by simpa using hx) (by rw [show i + (k + 1) = i + 1 + k from by omega]; exact hDk))
    · rw [← he i hi]
      have:j - i = (j - (i + 1)) + 1:=by omega
      rw [this,List.getElem?_cons_succ] at hp
      exact stD_insert hD hD' he (fun x hx => hl x (List.mem_cons_of_mem _ hx)) (by omega) hp (fun k x hk hx hDk => hn (k + 1) x (by omega) (by simpa using hx) (by rw [show i + (k + 1) = i + 1 + k from by omega]; exact hDk))

theorem stD_get {D D':Nat → Bool} {t:Nat}:∀ {l:List (Option Nat × Res)} {i:Nat} {s u:St},(∀ p,p ∈ l → p.2.fine p.1 = true) → (∀ (k:Nat) p,l[k]? = some p → D (i + k) ≠ D' (i + k) → p.1 ≠ some t) → s.get t = u.get t → (stD l D i s).get t = (stD l D' i u).get t
  | [],_,_,_,_,_,h => h
  | p :: r,i,s,u,hl,hn,h => by
    simp only [stD]
    have hp:=hl p (List.mem_cons_self ..)
    have hslot:p.1 ≠ some t → ∀ v:St,(v.app p.1 p.2).get t = v.get t:=by
      intro hne v
      rw [app_get hp]
      cases hs:p.2.slot p.1 with
      | none => rfl
      | some x =>
        have hx:p.1 = some x.1:=by
          obtain ⟨d,r⟩:=p
          cases r with
          | skip => cases d <;> simp [Res.slot] at hs; rw [← hs]
          | done l => cases l <;> cases d <;> simp [Res.slot] at hs <;> rw [← hs]
        have:t ≠ x.1:=by rintro rfl; exact hne hx
        simp only [beq_ne' this,cond_false]
    refine stD_get (fun q hq => hl q (List.mem_cons_of_mem _ hq)) (fun k q hq hne => hn (k + 1) q (by simpa using hq) (by rw [show i + (k + 1) = i + 1 + k from by omega]; exact hne)) ?_
    cases hD:D i with
    | true =>
      cases hD':D' i with
      | true =>
        simp only
        rw [app_get hp,app_get hp,h]
      | false =>
        have:=hn 0 p rfl (by simp [hD,hD'])
        simp only
        rw [hslot this,h]
    | false =>
      cases hD':D' i with
      | true =>
        have:=hn 0 p rfl (by simp [hD,hD'])
        simp only
        rw [hslot this,h]
      | false => exact h
theorem stD_blk {D D':Nat → Bool} {t:Nat}:∀ {l:List (Option Nat × Res)} {i:Nat} {s u:St},(∀ p,p ∈ l → p.2.fine p.1 = true) → (∀ (k:Nat) p,l[k]? = some p → D (i + k) ≠ D' (i + k) → ∀ x,p.2.blk p.1 = some x → x.1 ≠ t) → look t s.bl = look t u.bl → look t (stD l D i s).bl = look t (stD l D' i u).bl
  | [],_,_,_,_,_,h => h
  | p :: r,i,s,u,hl,hn,h => by
    simp only [stD]
    have hp:=hl p (List.mem_cons_self ..)
    have hblk:(∀ x,p.2.blk p.1 = some x → x.1 ≠ t) → ∀ v:St,look t (v.app p.1 p.2).bl = look t v.bl:=by
      intro hne v
      rw [app_blk hp]
      cases hs:p.2.blk p.1 with
      | none => rfl
      | some x =>
        simp only [beq_ne' (hne x hs).symm,cond_false]
    refine stD_blk (fun q hq => hl q (List.mem_cons_of_mem _ hq)) (fun k q hq hne => hn (k + 1) q (by simpa using hq) (by rw [show i + (k + 1) = i + 1 + k from by omega]; exact hne)) ?_
    cases hD:D i with
    | true =>
      cases hD':D' i with
      | true =>
        simp only
        rw [app_blk hp,app_blk hp,h]
      | false =>
        have:=hn 0 p rfl (by simp [hD,hD'])
        simp only
        rw [hblk this,h]
    | false =>
      cases hD':D' i with
      | true =>
        have:=hn 0 p rfl (by simp [hD,hD'])
        simp only
        rw [hblk this,h]
      | false => exact h
end Go.Proofs.Ytefpgfdemmllpaa
namespace Go.Proofs.Ytefpgfdemmllpaa
theorem wp_const {P:Program} {o:Oper} {a:Act} {w:World} {C:Prop} {Q:Exit → Act → World → Prop} (hQ:∀ e a w,Q e a w → C) (hl:LetsOut Q → C) (h:o.wp P a w (fun _ _ => C) Q):C:=by
  unfold Oper.wp at h
  generalize (execOp a.eval o).run P w = r at h
  cases r with
  | ok n w' =>
    cases n <;> simp only [Oper.upon] at h
    all_goals first
      | exact h
      | (obtain ⟨e,w'',fr,hR,_⟩:=h []
         cases e with
         | returned v => exact hR
         | panicked c => exact hQ _ _ _ hR
         | outgrown => exact hl hR)
      | (obtain ⟨v,w'',hR,_⟩:=h default []
         exact hR)
  | halt x w' =>
    cases x <;> simp only [Oper.upon] at h
    all_goals exact hQ _ _ _ h
end Go.Proofs.Ytefpgfdemmllpaa
namespace Go.Proofs.Ytefpgfdemmllpaa
def Comes1 (E:Env):Out → Out → Prop
  | .need p o,l => p ∧ Comes1 E o l
  | .exi T p f,l => ∃ x:T.den,p x ∧ Comes1 E (f x) l
  | .call f xs T g,l => ∃ r:T.den,PC E f xs T r ∧ T.ok r ∧ Comes1 E (g r) l
  | .ncall _ _ _ _,_ => False
  | .fail _,_ => False
  | .val v,l => l = .val v
  | .new v b,l => l = .new v b
  | .store i b,l => l = .store i b
  | .append i j b,l => l = .append i j b
  | .hret ids p bl,l => l = .hret ids p bl
  | .sealed ks v,l => l = .sealed ks v
  | .hncall _ _ _ _ _ _ _,_ => False | .upd _ _ _,_ => False | .sstore _ _ _,_ => False | .imp _ _,_ => False | .both _ _,_ => False | .allx _ _ _,_ => False | .alln _ _,_ => False
  | .hcall f args bl ids fl used d,l => ∃ p bl',HC E f args bl p bl' ∧ hOK bl bl' fl used d p = true ∧ okP p ∧ okBl bl' ∧ l = .hret ids p bl'
def Out.pl:Out → Prop
  | .need _ o => o.pl | .exi _ _ f => ∀ x,(f x).pl | .call _ _ _ g => ∀ r,(g r).pl
  | .ncall _ _ _ _ => False | .hncall _ _ _ _ _ _ _ => False | .upd _ _ _ => False | .sstore _ _ _ => False | .imp _ _ => False | .both _ _ => False | .allx _ _ _ => False | .alln _ _ => False
  | _ => True
theorem OutK_comes {E:Env}:∀ (o:Out) (K:Out → Prop),o.pl → OutK E o K → OutK E o (fun l => K l ∧ Comes1 E o l):=by
  intro o
  induction o with
  | need p o ih => intro K hp h; exact ⟨h.1,OutK_mono (fun l hl => ⟨hl.1,h.1,hl.2⟩) o (ih K hp h.2)⟩
  | exi T p f ih => intro K hp ⟨x,h1,h2⟩; exact ⟨x,h1,OutK_mono (fun l hl => ⟨hl.1,x,h1,hl.2⟩) (f x) (ih x K (hp x) h2)⟩
  | call f xs T g ih => intro K hp ⟨r,h1,h2⟩; exact ⟨r,h1,fun hr => OutK_mono (fun l hl => ⟨hl.1,r,h1,hr,hl.2⟩) (g r) (ih r K (hp r) (h2 hr))⟩
  | fail m => intro K _ h; exact h
  | val v => intro K _ h; exact ⟨h,rfl⟩
  | new v b => intro K _ h; exact ⟨h,rfl⟩
  | store i b => intro K _ h; exact ⟨h,rfl⟩
  | append i j b => intro K _ h; exact ⟨h,rfl⟩
  | hret ids p bl => intro K _ h; exact ⟨h,rfl⟩
  | sealed ks v => intro K _ h; exact ⟨h,rfl⟩
  | hcall f args bl ids fl used d => intro K _ ⟨p,bl',h1,h2,h3⟩; exact ⟨p,bl',h1,h2,fun a b => ⟨h3 a b,p,bl',h1,h2,a,b,rfl⟩⟩
  | upd i b v => intro K hp; exact hp.elim
  | sstore ks i b => intro K hp; exact hp.elim
  | ncall f xs T g ih => intro K hp; exact hp.elim
  | hncall f args bl ids fl used d => intro K hp; exact hp.elim
  | imp p o => intro K hp; exact hp.elim
  | both a b => intro K hp; exact hp.elim
  | allx T p f => intro K hp; exact hp.elim
  | alln p f => intro K hp; exact hp.elim
theorem Comes1.outK {E:Env}:∀ {o l:Out},Comes1 E o l → OutK E o (fun l' => l' = l):=by
  intro o
  induction o with
  | need p o ih => intro l h; exact ⟨h.1,ih h.2⟩
  | exi T p f ih => intro l ⟨x,h1,h2⟩; exact ⟨x,h1,ih x h2⟩
  | call f xs T g ih => intro l ⟨r,h1,_,h3⟩; exact ⟨r,h1,fun _ => ih r h3⟩
  | fail m => intro l h; exact h
  | hcall f args bl ids fl used d => intro l ⟨p,bl',h1,h2,h3,h4,e⟩; exact ⟨p,bl',h1,h2,fun _ _ => e.symm⟩
  | upd i b v => intro l h; exact h.elim
  | sstore ks i b => intro l h; exact h.elim
  | ncall f xs T g ih => intro l h; exact h.elim
  | hncall f args bl ids fl used d => intro l h; exact h.elim
  | imp p o => intro l h; exact h.elim
  | both a b => intro l h; exact h.elim
  | allx T p f => intro l h; exact h.elim
  | alln p f => intro l h; exact h.elim
  | _ => intro l h; exact h.symm
end Go.Proofs.Ytefpgfdemmllpaa
namespace Go.Proofs.Ytefpgfdemmllpaa
variable {E:Env} {w0:World} {S0:Cx}
theorem outcome_of (hE:EnvOK E) {n:Nat} {s:St} {a:Act} {w:World} {F:Reg} {o:Oper} (h:Rel n w0 S0 s a w) (ho:opOK n o = true) {K:St → Prop} {C:Prop}
    (hp:(stepF E F s o).pl) (hout:OutK E (stepF E F s o) (fun l => K (s.fin o.dst l)))
    (hC:∀ l a' w',Comes1 E (stepF E F s o) l → K (s.fin o.dst l) → Rel n w0 S0 (s.fin o.dst l) a' w' → C):C:=by
  obtain ⟨ν,S,hf⟩:=h.full
  have h1:=OutK_comes _ _ hp hout
  have h2:=op_sound (Q:=fun _ _ _ => False) (K:=fun s' => ∃ l,s' = s.fin o.dst l ∧ Comes1 E (stepF E F s o) l ∧ K s') hE hf ho (OutK_mono (fun l hl => ⟨l,rfl,hl.2,hl.1⟩) _ h1)
  refine wp_const (Q:=fun _ _ _ => False) (fun _ _ _ h => h.elim) (fun ⟨_,_,h⟩ => h.elim) (Oper.wp_mono (fun a' w' ⟨s',⟨l,e,hc,hk⟩,hr⟩ => ?_) h2)
  subst e
  exact hC l a' w' hc hk hr
end Go.Proofs.Ytefpgfdemmllpaa
