/-
  The list of outcomes. Nothing here is trusted; no condition.
-/
import Derived.Test.YtbbmofoiipjbgaaA5
set_option linter.unusedSimpArgs false
set_option linter.unusedVariables false
namespace Go.Proofs.Ytbbmofoiipjbgaa
variable {cH:Prop} [fV cH]
section
variable {F:cm} {b1 b2:List (Nat×aJ)}
theorem uV(h: ∀id,lk F b1 id=lk F b2 id)(id off:Nat):oQ F b1 id off=oQ F b2 id off:=by unfold oQ;rw[h]
theorem p3(h: ∀id,lk F b1 id=lk F b2 id)(t:Ty)(p:PV):eo F b1 t p=eo F b2 t p:=by unfold eo;cases p<;>simp only[h]
theorem p4(h: ∀id,lk F b1 id=lk F b2 id)(k v:Ty)(p:PV):jo F b1 k v p=jo F b2 k v p:=by unfold jo;cases p<;>simp only[h]
theorem uW(h: ∀id,lk F b1 id=lk F b2 id): ∀(T:Ty)(cs:List PV),aB T=0→pk F b1 T cs=pk F b2 T cs:=by
 intro T;induction T with|own t _=>intro cs ho;simp[aB]at ho|pair a b et dR=>intro cs ho;simp only[aB]at ho;simp only[pk];rw[et cs (by omega)];(cases pk F b2 a cs with|none=>rfl|some x=>simp only;rw[dR _ (by omega)])|st t ih=>intro cs ho;simp only[aB]at ho;simp only[pk];exact ih cs ho|sl t _=>intro cs ho;cases cs<;>simp only[pk,p3 h]|mp a b _ _=>intro cs ho;cases cs<;>simp only[pk,p4 h]|ptr t ih=>intro cs ho;simp only[aB]at ho;(cases cs with|nil=>rfl|cons c r=>cases c<;>simp only[pk,uV h];split;(·rw[ih _ ho]);·rfl)|ea f t ih=>intro cs ho;simp only[aB]at ho;(cases cs with|nil=>rfl|cons c r=>cases c<;>simp only[pk];rw[ih _ ho])|_=>intro cs ho;cases cs<;>rfl
theorem ir(h: ∀id,lk F b1 id=lk F b2 id)(T:Ty)(p:PV)(ho:aB T=0):exp F b1 T p=exp F b2 T p:=by
 unfold exp;cases T<;>simp only<;>first|rw[uW h _ _ ho]|(cases p<;>simp only;rw[uW h _ _ (by simpa[aB]using ho)])
theorem mC(h: ∀id,lk F b1 id=lk F b2 id): ∀(Ts:List Ty)(ps:List PV),(∀T,T∈Ts→aB T=0)→dM F b1 Ts ps=dM F b2 Ts ps|[],[],_=>rfl|[],_::_,_=>rfl|_::_,[],_=>rfl|T::Ts,p::ps,ho=>by simp only[dM];rw[ir h T p (ho T (List.mem_cons_self ..)),mC h Ts ps (fun U hU=>ho U (List.mem_cons_of_mem _ hU))]
theorem uX {E:Env} (hE:aA E)(h: ∀id,lk F b1 id=lk F b2 id)(t:Nat)(neg:Bool)(x y:PV):jH E F b1 t neg x y=jH E F b2 t neg x y:=by
 unfold jH;cases ht:E.ty t with|none=>rfl|some T=>have ho:=(hE.facts ht).own;simp only[ir h T _ ho]
theorem wY {E:Env} (hE:aA E)(h: ∀id,lk F b1 id=lk F b2 id)(op:BinOp)(t:Nat)(x y:PV):oR E F b1 op t x y=oR E F b2 op t x y:=by unfold oR;simp only[uX hE h]
theorem wZ {E:Env} (h: ∀id,lk F b1 id=lk F b2 id)(t:Nat)(p:PV):qO E F b1 t p=qO E F b2 t p:=by unfold qO;simp only[h]
theorem sT(h: ∀id,lk F b1 id=lk F b2 id)(ar:Bool)(T:Ty)(p:PV)(lo hi:Option Int):iC F b1 ar T p lo hi=iC F b2 ar T p lo hi:=by unfold iC;simp only[h]
theorem sU {E:Env} (h: ∀id,lk F b1 id=lk F b2 id)(t:Nat)(p:PV)(i:Int):g7 E F b1 t p i=g7 E F b2 t p i:=by unfold g7;simp only[h]
theorem uY {E:Env} (h: ∀id,lk F b1 id=lk F b2 id)(t:Nat)(p:PV):gK E F b1 t p=gK E F b2 t p:=by unfold gK;simp only[h]
theorem uZ {E:Env} (h: ∀id,lk F b1 id=lk F b2 id)(t1 t:Nat)(p:PV):kU E F b1 t1 t p=kU E F b2 t1 t p:=by unfold kU;simp only[p3 h]
theorem mD(h: ∀id,lk F b1 id=lk F b2 id)(T:Ty)(ho:aB T=0): ∀(ps:List (Nat×PV))(i:Nat),iE F b1 T i ps=iE F b2 T i ps|[],_=>rfl|p::r,i=>by simp only[iE,ir h T _ ho,mD h T ho r (i+1)]
theorem q4 {E:Env} (hE:aA E)(h: ∀id,lk F b1 id=lk F b2 id)(t:Nat)(p q:PV)(ok:Bool):iH E F b1 t p q ok=iH E F b2 t p q ok:=by
 unfold iH;cases hT:E.ty t with|none=>rfl|some U=>(cases U<;>try rfl);rename_i A B;obtain⟨k',ve,hu,Hd,Oe,AP,tF,DF,yd⟩:=pB hE hT;cases hk:E.mapKey t with|none=>rfl|some kt=>simp only[p4 h,ir h A _ DF]
end
end Go.Proofs.Ytbbmofoiipjbgaa
namespace Go.Proofs.Ytbbmofoiipjbgaa
variable {cH:Prop} [fV cH]
def eS(o:Oper):Option (List Operand):=match o.op with|.move x=>some [x]|.assign x=>some [x]|.nilCheck x=>some [x]|.pick c a b=>some [c,a,b]|.alloc _=>some []|.box _ x=>some [x]|.build _ parts=>some (parts.toList.map (·.2))|.buildSlice _ _ parts=>some (parts.toList.map (·.2))|.load _ x=>some [x]|.binOp _ _ x y _=>some [x,y]|.unOp _ _ x=>some [x]|.convert _ _ x=>some [x]|.slice _ x lo hi mx=>some (x::(lo.toList++(hi.toList++mx.toList)))|.fieldAddr _ x _=>some [x]|.field _ x _=>some [x]|.indexAddr _ x i=>some [x,i]|.index _ x i=>some [x,i]|.extract x _=>some [x]|.lookup _ x y _=>some [x,y]|.call c=>(match c.callee with|.value g=>some (g::c.args.toList)|.builtin .len=>some c.args.toList|.builtin .cap=>some c.args.toList|.builtin .min=>some c.args.toList|.builtin .max=>some c.args.toList|_=>none)|_=>none
theorem cJ {s t:St} : ∀ {xs:List Operand},(∀x,x∈xs→s.ev x=t.ev x)→bB s xs=bB t xs|[],_=>rfl|x::xs,h=>by simp only[bB];rw[h x (List.mem_cons_self ..),cJ (fun y hy=>h y (List.mem_cons_of_mem _ hy))]
theorem dQ {s t:St} : ∀ {xs:List (Nat×Operand)},(∀x,x∈xs.map (·.2)→s.ev x=t.ev x)→ck s xs=ck t xs|[],_=>rfl|x::xs,h=>by simp only[ck];rw[h x.2 (by simp),dQ (xs:=xs) (fun y hy=>h y (by rw[List.map_cons];exact List.mem_cons_of_mem _ hy))]
theorem p5 {E:Env} {F:cm} (he:F.e=false)(op:BinOp)(t:Nat)(a b:PV):jI E F op t a b=none:=by
 (have h1: ∀neg,iA E F t neg a b=none:=by intro neg;unfold iA;rw[he];cases b<;>rfl);cases op<;>first|rfl|exact h1 _
theorem u0 {E:Env} (hE:aA E) {F:cm} (he:F.e=false) {s t:St} {o:Oper} {rs:List Operand} (ho:eS o=some rs)(hs: ∀x,x∈rs→s.ev x=t.ev x)(hb: ∀id,lk F s.bl id=lk F t.bl id)(hd: ∀d,o.dst=some d→look d s.bl=look d t.bl):aj E F s o=aj E F t o:=by
 obtain⟨dst,op,ty,pos,af,g⟩:=o;unfold eS at ho;unfold aj;cases op<;>simp only[Option.some.injEq,reduceCtorEq]at ho;(all_goals try subst ho);(case move x=>simp only[hs x (by simp)])
 (case nilCheck x=>simp only[hs x (by simp)]);(case assign x=>simp only[hs x (by simp)]);(case pick c a b=>simp only[hs c (by simp),hs a (by simp),hs b (by simp)])
 (case binOp op t x y u=>simp only[hs x (by simp),hs y (by simp),p5 he,wY hE hb]);(case load u x=>simp only[hs x (by simp),uY hb]);(case unOp u v x=>simp only[hs x (by simp)])
 (case convert u v x=>simp only[hs x (by simp),uZ hb]);(case fieldAddr u x f=>simp only[hs x (by simp)]);(case field u x f=>simp only[hs x (by simp)]);(case extract x i=>simp only[hs x (by simp)])
 (case indexAddr u x i=>simp only[hs x (by simp),hs i (by simp),sU hb]);(case index u x i=>simp only[hs x (by simp),hs i (by simp)]);(case lookup u x y ok=>simp only[hs x (by simp),hs y (by simp),q4 hE hb])
 (case alloc u=>dsimp only;cases dst with|none=>cases E.ty u<;>rfl|some d=>cases E.ty u with|none=>rfl|some U=>simp only[hd d rfl]);(case box u x=>dsimp only;cases dst with|none=>simp only[hs x (by simp)]|some d=>rw[hs x (by simp)];cases(t.ev x).cells with|none=>rfl|some cs=>simp only[hd d rfl])
 (case build u parts=>simp only[dQ hs]);(case buildSlice u n parts=>simp only[dQ hs];cases dst with|none=>(cases hu:E.ty u with|none=>rfl|some U=>cases U<;>rfl)|some d=>cases hu:E.ty u with|none=>rfl|some U=>have hU:=(hE.facts hu).own;(cases U<;>try rfl);rename_i V;simp only[aB]at hU;simp only[hd d rfl,mD hb V hU])
 (case slice u x lo hi mx=>(have SA: ∀y:Option Operand,(∀z,z∈y.toList→s.ev z=t.ev z)→bound s y=bound t y:=by intro y hy;cases y with|none=>rfl|some z=>simp only[bound];rw[hy z (by simp)]);have h1:=hs x (by simp);have h2:=SA lo (fun z hz=>hs z (by simp[hz]));have h3:=SA hi (fun z hz=>hs z (by simp[hz]));simp only[h1,h2,h3,sT hb];cases mx with|none=>rfl|some m=>simp only[hs m (by simp)])
 case call c=>obtain⟨callee,args,tH⟩:=c;(have hc: ∀(f:Nat)(ps:List PV),du E F s dst f ps=du E F t dst f ps:=by intro f ps;unfold du;cases hf:E.fn f with|none=>simp only[he];cases E.dx f<;>rfl|some p=>obtain⟨As,T⟩:=p;have wP:=hE.fn f As T hf;unfold sn at wP;simp only[Bool.and_eq_true,List.all_eq_true]at wP;dsimp only;rw[mC hb As _ (fun A hA=>Nat.eq_of_beq_eq_true (wP.2 A hA))]);cases callee with|value g=>simp only[Option.some.injEq]at ho;subst ho;have h1:=hs g (by simp);have h2:=cJ (xs:=args.toList) (fun x hx=>hs x (List.mem_cons_of_mem _ hx));dsimp only;rw[h1,h2];(cases t.ev g with|fn f cw=>exact hc f _|oa f ps=>exact hc f _|iv T x=>(cases T<;>first|rfl|exact hc _ _)|_=>rfl)|builtin b=>cases b<;>simp only[Option.some.injEq,reduceCtorEq]at ho;(all_goals subst ho;have h2:=cJ (xs:=args.toList) hs;dsimp only;rw[h2];try simp only[wZ hb])|_=>simp at ho
def aN(o:Oper):Option (List Operand):=match o.op with|.move x=>some [x]|.assign x=>some [x]|.nilCheck x=>some [x]|.pick c a b=>some [c,a,b]|.build _ parts=>some (parts.toList.map (·.2))|.binOp op _ x y _=>(match op with|.eql=>none|.neq=>none|_=>some [x,y])|.unOp _ _ x=>some [x]|.fieldAddr _ x _=>some [x]|.field _ x _=>some [x]|.index _ x i=>some [x,i]|.extract x _=>some [x]|.call c=>(match c.callee with|.builtin .min=>some c.args.toList|.builtin .max=>some c.args.toList|_=>none)|_=>none
theorem kc {E:Env} {F:cm} {s t:St} {o:Oper} {rs:List Operand} (ho:aN o=some rs)(hs: ∀x,x∈rs→s.ev x=t.ev x):aj E F s o=aj E F t o:=by
 obtain⟨dst,op,ty,pos,af,g⟩:=o;unfold aN at ho;unfold aj;cases op<;>simp only[Option.some.injEq,reduceCtorEq]at ho;(case move x=>subst ho;simp only[hs x (by simp)])
 (case nilCheck x=>subst ho;simp only[hs x (by simp)]);(case assign x=>subst ho;simp only[hs x (by simp)]);(case pick c a b=>subst ho;simp only[hs c (by simp),hs a (by simp),hs b (by simp)])
 (case build u parts=>subst ho;simp only[dQ hs]);(case binOp op u x y v=>(have qK: ∀AV,some [x,y]=some AV→s.ev x=t.ev x∧s.ev y=t.ev y∨AV≠rs:=by intro AV h;by_cases e:AV=rs;(·injection h with h;subst h;subst e;exact .inl ⟨hs x (by simp),hs y (by simp)⟩);·exact .inr e);cases op<;>simp only[Option.some.injEq,reduceCtorEq]at ho;all_goals subst ho;simp only[hs x (by simp),hs y (by simp)];simp only[jI];unfold oR;generalize t.ev x=a;generalize t.ev y=b;(try rfl);all_goals(cases a<;>first|rfl|(cases b<;>first|rfl|(rename_i T1 x1 T2 x2;cases T1<;>cases T2<;>rfl))))
 (case unOp u v x=>subst ho;simp only[hs x (by simp)]);(case fieldAddr u x f=>subst ho;simp only[hs x (by simp)]);(case field u x f=>subst ho;simp only[hs x (by simp)])
 (case index u x i=>subst ho;simp only[hs x (by simp),hs i (by simp)]);(case extract x i=>subst ho;simp only[hs x (by simp)]);case call c=>obtain⟨callee,args,tH⟩:=c;cases callee with|builtin b=>cases b<;>simp only[Option.some.injEq,reduceCtorEq]at ho;(all_goals subst ho;have h2:=cJ (xs:=args.toList) hs;dsimp only;rw[h2])|_=>simp at ho
end Go.Proofs.Ytbbmofoiipjbgaa
namespace Go.Proofs.Ytbbmofoiipjbgaa
variable {cH:Prop} [fV cH]
structure dp(s t:St):Prop where
 get: ∀i,s.get i=t.get i
 bJ: ∀i,look i s.bl=look i t.bl
theorem dp.refl(s:St):dp s s:=⟨fun _=>rfl,fun _=>rfl⟩
theorem dp.symm {s t:St} (h:dp s t):dp t s:=⟨fun i=>(h.get i).symm,fun i=>(h.bJ i).symm⟩
theorem dp.trans {s t u:St} (h:dp s t)(h':dp t u):dp s u:=⟨fun i=>(h.get i).trans (h'.get i),fun i=>(h.bJ i).trans (h'.bJ i)⟩
theorem dp.ev {s t:St} (h:dp s t)(x:Operand):s.ev x=t.ev x:=by cases x<;>simp only[St.ev,h.get]
theorem dp.lk {s t:St} (h:dp s t)(F:cm)(i:Nat):lk F s.bl i=lk F t.bl i:=by unfold Go.Proofs.Ytbbmofoiipjbgaa.lk;rw[h.bJ]
theorem dp.D {s t:St} (h:dp s t):s.D=t.D:=by funext i;unfold St.D;rw[h.bJ]
theorem Rel.same {n:Nat} {w0:World} {S0:Cx} {s t:St} {a:Act} {w:World} (hs:dp s t)(h:Rel n w0 S0 s a w):Rel n w0 S0 t a w:=by
 obtain⟨ν,S,h1,h2,h3,h4,h5,h6,h7,h8,h9,gF⟩:=h;refine⟨ν,S,h1,h2,h3,⟨h4.lt,h4.size,fun id b hb=>?_,fun i j b c ew hi hj=>?_⟩,fun i=>?_,h6,h7,h8,fun i hi hd=>h9 i hi (by rw[hs.D];exact hd),gF⟩
 (·rw[←hs.bJ]at hb;rw[←hs.D];exact h4.bJ id b hb);(·rw[←hs.bJ]at hi hj;exact h4.ne i j b c ew hi hj);·rw[←hs.get,←hs.D];exact h5 i
inductive fK where|skip|done(l:Out)
def St.app(s:St)(d:Option Nat):fK→St|.skip=>s.put d (.bC [])|.done l=>s.fin d l
def fK.dX(d:Option Nat):fK→Bool|.skip=>true|.done (.val _)=>true|.done (.new _ _)=>d.isSome|.done (.store _ _)=>true|_=>false
def fK.slot(d:Option Nat):fK→Option (Nat×PV)|.skip=>d.map (·,.bC [])|.done (.val v)=>d.map (·,v)|.done (.new v _)=>d.map (·,v)|_=>none
def fK.bJ(d:Option Nat):fK→Option (Nat×aJ)|.done (.new _ b)=>d.map (·,b)|.done (.store i b)=>some (i,b)|_=>none
theorem fL {s:St} {d:Option Nat} {r:fK} (h:r.dX d=true)(i:Nat):(s.app d r).get i=match r.slot d with|some p=>(bif Nat.beq i p.1 then p.2 else s.get i)|none=>s.get i:=by
 (have key: ∀(e:Nat)(v:PV)(bl:List (Nat×aJ)),(⟨(e,v)::s.sl,bl⟩:St).get i=bif Nat.beq i e then v else s.get i:=by intro e v bl;simp only[St.get,look];cases Nat.beq i e<;>rfl)
 cases r with|skip=>cases d<;>simp only[St.app,St.put,fK.slot,Option.map_some,Option.map_none];exact key _ _ _|done l=>cases l with|val v=>cases d<;>simp only[St.app,St.fin,St.put,fK.slot,Option.map_some,Option.map_none];exact key _ _ _|new v b=>cases d<;>simp only[St.app,St.fin,fK.slot,Option.map_some,Option.map_none];exact key _ _ _|store j b=>rfl|_=>cases h
theorem fM {s:St} {d:Option Nat} {r:fK} (h:r.dX d=true)(i:Nat):look i (s.app d r).bl=match r.bJ d with|some p=>(bif Nat.beq i p.1 then some p.2 else look i s.bl)|none=>look i s.bl:=by
 cases r with|skip=>cases d<;>rfl|done l=>cases l with|val v=>cases d<;>rfl|new v b=>cases d<;>simp only[St.app,St.fin,fK.bJ,Option.map_some,Option.map_none,look]|store j b=>simp only[St.app,St.fin,fK.bJ,look]|_=>cases h
theorem u1 {s t:St} (h:dp s t) {d:Option Nat} {r:fK} (hr:r.dX d=true):dp (s.app d r) (t.app d r):=by
 refine⟨fun i=>?_,fun i=>?_⟩;(·rw[fL hr,fL hr];cases r.slot d<;>simp only[h.get]);·rw[fM hr,fM hr];cases r.bJ d<;>simp only[h.bJ]
def sV(p q:Option Nat×fK):Prop:=(∀x y,p.2.slot p.1=some x→q.2.slot q.1=some y→x.1≠y.1)∧ ∀x y,p.2.bJ p.1=some x→q.2.bJ q.1=some y→x.1≠y.1
theorem cl {i j:Nat} (h:i≠j):Nat.beq i j=false:=by cases hb:Nat.beq i j with|false=>rfl|true=>exact absurd (Nat.eq_of_beq_eq_true hb) h
theorem Ce {s:St} {p q:Option Nat×fK} (h1:p.2.dX p.1=true)(h2:q.2.dX q.1=true)(h:sV p q):dp ((s.app p.1 p.2).app q.1 q.2) ((s.app q.1 q.2).app p.1 p.2):=by
 refine⟨fun i=>?_,fun i=>?_⟩;(·rw[fL h2,fL h1,fL h1,fL h2];cases hq:q.2.slot q.1 with|none=>rfl|some y=>cases hp:p.2.slot p.1 with|none=>rfl|some x=>have cA:=h.1 x y hp hq;simp only;cases hb:Nat.beq i y.1 with|false=>rfl|true=>rw[Nat.eq_of_beq_eq_true hb,cl cA.symm];rfl)
 ·rw[fM h2,fM h1,fM h1,fM h2];cases hq:q.2.bJ q.1 with|none=>rfl|some y=>cases hp:p.2.bJ p.1 with|none=>rfl|some x=>have cA:=h.2 x y hp hq;simp only;cases hb:Nat.beq i y.1 with|false=>rfl|true=>rw[Nat.eq_of_beq_eq_true hb,cl cA.symm];rfl
end Go.Proofs.Ytbbmofoiipjbgaa
namespace Go.Proofs.Ytbbmofoiipjbgaa
variable {cH:Prop} [fV cH]
def en:List (Option Nat×fK)→(Nat→Bool)→Nat→St→St|[],_,_,s=>s|p::r,D,i,s=>en r D (i+1) (match D i with|true=>s.app p.1 p.2|false=>s)
theorem mE {D:Nat→Bool} : ∀ {l:List (Option Nat×fK)} {i:Nat} {s t:St},(∀p,p∈l→p.2.dX p.1=true)→dp s t→dp (en l D i s) (en l D i t)|[],_,_,_,_,h=>h|p::r,i,s,t,hl,h=>by simp only[en];refine mE (fun q hq=>hl q (List.mem_cons_of_mem _ hq)) ?_;cases D i with|true=>exact u1 h (hl p (List.mem_cons_self ..))|false=>exact h
theorem sW {D:Nat→Bool} {q:Option Nat×fK} (hq:q.2.dX q.1=true): ∀ {l:List (Option Nat×fK)} {i:Nat} {s:St},(∀p,p∈l→p.2.dX p.1=true)→(∀(k:Nat)p,l[k]?=some p→D (i+k)=true→sV q p)→dp (en l D i (s.app q.1 q.2)) ((en l D i s).app q.1 q.2)|[],_,s,_,_=>dp.refl _|p::r,i,s,hl,hn=>by simp only[en];have No: ∀(k:Nat)x,r[k]?=some x→D (i+1+k)=true→sV q x:=fun k x hx hD=>hn (k+1) x (by simpa using hx) (by rw[show i+(k+1)=i+1+k from by omega];exact hD);cases hD:D i with|false=>exact sW hq (fun x hx=>hl x (List.mem_cons_of_mem _ hx)) No|true=>refine dp.trans (mE (fun x hx=>hl x (List.mem_cons_of_mem _ hx)) (Ce hq (hl p (List.mem_cons_self ..)) (hn 0 p rfl hD))) ?_;exact sW hq (fun x hx=>hl x (List.mem_cons_of_mem _ hx)) No
theorem yw {D D':Nat→Bool} : ∀ {l:List (Option Nat×fK)} {i:Nat} {s:St},(∀j,i≤j→D j=D' j)→en l D i s=en l D' i s|[],_,_,_=>rfl|p::r,i,s,h=>by simp only[en];rw[h i (Nat.le_refl _),yw (l:=r) (fun j hj=>h j (by omega))]
theorem p6 {D D':Nat→Bool} {j:Nat} (hD:D j=false)(DG:D' j=true)(he: ∀m,m≠j→D m=D' m): ∀ {l:List (Option Nat×fK)} {i:Nat} {s:St} {p:Option Nat×fK},(∀p,p∈l→p.2.dX p.1=true)→i≤j→l[j-i]?=some p→(∀(k:Nat)q,j<i+k→l[k]?=some q→D (i+k)=true→sV p q)→dp (en l D' i s) ((en l D i s).app p.1 p.2)|[],i,s,p,_,_,hp,_=>(by simp at hp)|q::r,i,s,p,hl,ew,hp,hn=>by simp only[en];by_cases hi:i=j;(·subst hi;rw[Nat.sub_self]at hp;simp only[List.getElem?_cons_zero,Option.some.injEq]at hp;subst hp;rw[hD,DG];simp only;rw[←yw (D:=D) (D':=D') (fun m hm=>he m (by omega))];exact sW (hl q (List.mem_cons_self ..)) (fun x hx=>hl x (List.mem_cons_of_mem _ hx)) (fun k x hx Ej=>hn (k+1) x (by omega) (by simpa using hx) (by rw[show i+(k+1)=i+1+k from by omega];exact Ej)));·rw[←he i hi];(have:j-i=(j-(i+1))+1:=by omega);rw[this,List.getElem?_cons_succ]at hp;exact p6 hD DG he (fun x hx=>hl x (List.mem_cons_of_mem _ hx)) (by omega) hp (fun k x hk hx Ej=>hn (k+1) x (by omega) (by simpa using hx) (by rw[show i+(k+1)=i+1+k from by omega];exact Ej))
theorem yx {D D':Nat→Bool} {t:Nat} : ∀ {l:List (Option Nat×fK)} {i:Nat} {s u:St},(∀p,p∈l→p.2.dX p.1=true)→(∀(k:Nat)p,l[k]?=some p→D (i+k)≠D' (i+k)→p.1≠some t)→s.get t=u.get t→(en l D i s).get t=(en l D' i u).get t|[],_,_,_,_,_,h=>h|p::r,i,s,u,hl,hn,h=>by simp only[en];have hp:=hl p (List.mem_cons_self ..);(have Gc:p.1≠some t→ ∀v:St,(v.app p.1 p.2).get t=v.get t:=by intro cA v;rw[fL hp];cases hs:p.2.slot p.1 with|none=>rfl|some x=>(have hx:p.1=some x.1:=by obtain⟨d,r⟩:=p;cases r with|skip=>cases d<;>simp[fK.slot]at hs;rw[←hs]|done l=>cases l<;>cases d<;>simp[fK.slot]at hs<;>rw[←hs]);(have:t≠x.1:=by rintro rfl;exact cA hx);simp only[cl this,cond_false]);refine yx (fun q hq=>hl q (List.mem_cons_of_mem _ hq)) (fun k q hq cA=>hn (k+1) q (by simpa using hq) (by rw[show i+(k+1)=i+1+k from by omega];exact cA)) ?_;cases hD:D i with|true=>(cases DG:D' i with|true=>simp only;rw[fL hp,fL hp,h]|false=>have:=hn 0 p rfl (by simp[hD,DG]);simp only;rw[Gc this,h])|false=>cases DG:D' i with|true=>have:=hn 0 p rfl (by simp[hD,DG]);simp only;rw[Gc this,h]|false=>exact h
theorem sX {D D':Nat→Bool} {t:Nat} : ∀ {l:List (Option Nat×fK)} {i:Nat} {s u:St},(∀p,p∈l→p.2.dX p.1=true)→(∀(k:Nat)p,l[k]?=some p→D (i+k)≠D' (i+k)→ ∀x,p.2.bJ p.1=some x→x.1≠t)→look t s.bl=look t u.bl→look t (en l D i s).bl=look t (en l D' i u).bl|[],_,_,_,_,_,h=>h|p::r,i,s,u,hl,hn,h=>by simp only[en];have hp:=hl p (List.mem_cons_self ..);(have qV:(∀x,p.2.bJ p.1=some x→x.1≠t)→ ∀v:St,look t (v.app p.1 p.2).bl=look t v.bl:=by intro cA v;rw[fM hp];cases hs:p.2.bJ p.1 with|none=>rfl|some x=>simp only[cl (cA x hs).symm,cond_false]);refine sX (fun q hq=>hl q (List.mem_cons_of_mem _ hq)) (fun k q hq cA=>hn (k+1) q (by simpa using hq) (by rw[show i+(k+1)=i+1+k from by omega];exact cA)) ?_;cases hD:D i with|true=>(cases DG:D' i with|true=>simp only;rw[fM hp,fM hp,h]|false=>have:=hn 0 p rfl (by simp[hD,DG]);simp only;rw[qV this,h])|false=>cases DG:D' i with|true=>have:=hn 0 p rfl (by simp[hD,DG]);simp only;rw[qV this,h]|false=>exact h
end Go.Proofs.Ytbbmofoiipjbgaa
namespace Go.Proofs.Ytbbmofoiipjbgaa
variable {cH:Prop} [fV cH]
theorem Cf {P:Program} {o:Oper} {a:Act} {w:World} {C:Prop} {Q:Exit→Act→World→Prop} (hQ: ∀e a w,Q e a w→C)(hl:LetsOut Q→C)(h:o.wp P a w (fun _ _=>C) Q):C:=by
 unfold Oper.wp at h;generalize(execOp a.eval o).run P w=r at h;cases r with|ok n w'=>cases n<;>simp only[Oper.upon]at h;(all_goals first|exact h|(obtain⟨e,AH,fr,hR,_⟩:=h [];cases e with|returned v=>exact hR|panicked c=>exact hQ _ _ _ hR|outgrown=>exact hl hR)|(obtain⟨v,AH,hR,_⟩:=h default [];exact hR))|halt x w'=>cases x<;>simp only[Oper.upon]at h;all_goals exact hQ _ _ _ h
end Go.Proofs.Ytbbmofoiipjbgaa
namespace Go.Proofs.Ytbbmofoiipjbgaa
variable {cH:Prop} [fV cH]
def dY(E:Env):Out→Out→Prop|.bE p o,l=>p∧dY E o l|.m7 T p f,l=> ∃x:T.den,p x∧dY E (f x) l|.call f xs T g,l=> ∃r:T.den,PC E f xs T r∧T.ok r∧dY E (g r) l|.gH _ _ _ _,_=>False|.fail _,_=>False|.val v,l=>l= .val v|.new v b,l=>l= .new v b|.store i b,l=>l= .store i b|.append i j b,l=>l= .append i j b|.b7 ids p bl,l=>l= .b7 ids p bl|.cL ks v,l=>l= .cL ks v|.er _ _ _ _ _ _ _,_=>False|.kZ _ _ _,_=>False|.dz _ _ _,_=>False|.imp _ _,_=>False|.both _ _,_=>False|.jE _ _ _,_=>False|.lO _ _,_=>False|.gI f args bl ids fl used d,l=> ∃p bl',HC E f args bl p bl'∧o7 bl bl' fl used d p=true∧Bd p∧lW bl'∧l= .b7 ids p bl'
def Out.pl:Out→Prop|.bE _ o=>o.pl|.m7 _ _ f=> ∀x,(f x).pl|.call _ _ _ g=> ∀r,(g r).pl|.gH _ _ _ _=>False|.er _ _ _ _ _ _ _=>False|.kZ _ _ _=>False|.dz _ _ _=>False|.imp _ _=>False|.both _ _=>False|.jE _ _ _=>False|.lO _ _=>False|_=>True
theorem w3 {E:Env} : ∀(o:Out)(K:Out→Prop),o.pl→aP E o K→aP E o (fun l=>K l∧dY E o l):=by
 intro o;induction o with|bE p o ih=>intro K hp h;exact⟨h.1,aQ (fun l hl=>⟨hl.1,h.1,hl.2⟩) o (ih K hp h.2)⟩|m7 T p f ih=>intro K hp⟨x,h1,h2⟩;exact⟨x,h1,aQ (fun l hl=>⟨hl.1,x,h1,hl.2⟩) (f x) (ih x K (hp x) h2)⟩|call f xs T g ih=>intro K hp⟨r,h1,h2⟩;exact⟨r,h1,fun hr=>aQ (fun l hl=>⟨hl.1,r,h1,hr,hl.2⟩) (g r) (ih r K (hp r) (h2 hr))⟩|fail m=>intro K _ h;exact h|val v=>intro K _ h;exact⟨h,rfl⟩|new v b=>intro K _ h;exact⟨h,rfl⟩|store i b=>intro K _ h;exact⟨h,rfl⟩|append i j b=>intro K _ h;exact⟨h,rfl⟩|b7 ids p bl=>intro K _ h;exact⟨h,rfl⟩|cL ks v=>intro K _ h;exact⟨h,rfl⟩|gI f args bl ids fl used d=>intro K _⟨p,bl',h1,h2,h3⟩;exact⟨p,bl',h1,h2,fun a b=>⟨h3 a b,p,bl',h1,h2,a,b,rfl⟩⟩|kZ i b v=>intro K hp;exact hp.elim|dz ks i b=>intro K hp;exact hp.elim|gH f xs T g ih=>intro K hp;exact hp.elim|er f args bl ids fl used d=>intro K hp;exact hp.elim|imp p o=>intro K hp;exact hp.elim|both a b=>intro K hp;exact hp.elim|jE T p f=>intro K hp;exact hp.elim|lO p f=>intro K hp;exact hp.elim
theorem dY.OI {E:Env} : ∀ {o l:Out},dY E o l→aP E o (fun l'=>l'=l):=by
 intro o;induction o with|bE p o ih=>intro l h;exact⟨h.1,ih h.2⟩|m7 T p f ih=>intro l⟨x,h1,h2⟩;exact⟨x,h1,ih x h2⟩|call f xs T g ih=>intro l⟨r,h1,_,h3⟩;exact⟨r,h1,fun _=>ih r h3⟩|fail m=>intro l h;exact h|gI f args bl ids fl used d=>intro l⟨p,bl',h1,h2,h3,h4,e⟩;exact⟨p,bl',h1,h2,fun _ _=>e.symm⟩|kZ i b v=>intro l h;exact h.elim|dz ks i b=>intro l h;exact h.elim|gH f xs T g ih=>intro l h;exact h.elim|er f args bl ids fl used d=>intro l h;exact h.elim|imp p o=>intro l h;exact h.elim|both a b=>intro l h;exact h.elim|jE T p f=>intro l h;exact h.elim|lO p f=>intro l h;exact h.elim|_=>intro l h;exact h.symm
end Go.Proofs.Ytbbmofoiipjbgaa
namespace Go.Proofs.Ytbbmofoiipjbgaa
variable {cH:Prop} [fV cH]
variable {E:Env} {w0:World} {S0:Cx}
theorem p7(hE:aA E) {n:Nat} {s:St} {a:Act} {w:World} {F:cm} {o:Oper} (h:Rel n w0 S0 s a w)(ho:bF n o=true) {K:St→Prop} {C:Prop} (hp:(aj E F s o).pl)(ae:aP E (aj E F s o) (fun l=>K (s.fin o.dst l)))(hC: ∀l a' w',dY E (aj E F s o) l→K (s.fin o.dst l)→Rel n w0 S0 (s.fin o.dst l) a' w'→C):C:=by
 obtain⟨ν,S,hf⟩:=h.full;have h1:=w3 _ _ hp ae;have h2:=j9 (Q:=fun _ _ _=>False) (K:=fun s'=> ∃l,s'=s.fin o.dst l∧dY E (aj E F s o) l∧K s') hE hf ho (aQ (fun l hl=>⟨l,rfl,hl.2,hl.1⟩) _ h1)
 refine Cf (Q:=fun _ _ _=>False) (fun _ _ _ h=>h.elim) (fun⟨_,_,h⟩=>h.elim) (Oper.wp_mono (fun a' w'⟨s',⟨l,e,hc,hk⟩,hr⟩=>?_) h2);subst e;exact hC l a' w' hc hk hr
end Go.Proofs.Ytbbmofoiipjbgaa
