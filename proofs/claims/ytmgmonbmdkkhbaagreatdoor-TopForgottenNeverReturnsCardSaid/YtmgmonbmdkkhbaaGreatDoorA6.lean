/-
  The list of outcomes. Nothing here is trusted; no condition.
-/
import Derived.Test.YtmgmonbmdkkhbaaGreatDoorA5
set_option linter.unusedSimpArgs false
set_option linter.unusedVariables false
namespace Go.Proofs.YtmgmonbmdkkhbaaGreatDoor
variable {c8:Prop} [hZ c8]
section
variable {F:cG} {b1 b2:List (Nat×aL)}
theorem Ay(h: ∀id,lk F b1 id=lk F b2 id)(id off:Nat):sV F b1 id off=sV F b2 id off:=by unfold sV;rw[h]
theorem uh(h: ∀id,lk F b1 id=lk F b2 id)(t:Ty)(p:PV):fH F b1 t p=fH F b2 t p:=by unfold fH;cases p<;>simp only[h]
theorem ui(h: ∀id,lk F b1 id=lk F b2 id)(k v:Ty)(p:PV):lq F b1 k v p=lq F b2 k v p:=by unfold lq;cases p<;>simp only[h]
theorem Az(h: ∀id,lk F b1 id=lk F b2 id): ∀(T:Ty)(cs:List PV),aJ T=0→pk F b1 T cs=pk F b2 T cs:=by
 intro T;induction T with|own t _=>intro cs ho;simp[aJ]at ho|pair a b fK fi=>intro cs ho;simp only[aJ]at ho;simp only[pk];rw[fK cs (by omega)];(cases pk F b2 a cs with|none=>rfl|some x=>simp only;rw[fi _ (by omega)])|st t ih=>intro cs ho;simp only[aJ]at ho;simp only[pk];exact ih cs ho|sl t _=>intro cs ho;cases cs<;>simp only[pk,uh h]|mp a b _ _=>intro cs ho;cases cs<;>simp only[pk,ui h]|ptr t ih=>intro cs ho;simp only[aJ]at ho;(cases cs with|nil=>rfl|cons c r=>cases c<;>simp only[pk,Ay h];split;(·rw[ih _ ho]);·rfl)|fh f t ih=>intro cs ho;simp only[aJ]at ho;(cases cs with|nil=>rfl|cons c r=>cases c<;>simp only[pk];rw[ih _ ho])|_=>intro cs ho;cases cs<;>rfl
theorem jX(h: ∀id,lk F b1 id=lk F b2 id)(T:Ty)(p:PV)(ho:aJ T=0):exp F b1 T p=exp F b2 T p:=by
 unfold exp;cases T<;>simp only<;>first|rw[Az h _ _ ho]|(cases p<;>simp only;rw[Az h _ _ (by simpa[aJ]using ho)])
theorem pL(h: ∀id,lk F b1 id=lk F b2 id): ∀(Ts:List Ty)(ps:List PV),(∀T,T∈Ts→aJ T=0)→eY F b1 Ts ps=eY F b2 Ts ps|[],[],_=>rfl|[],_::_,_=>rfl|_::_,[],_=>rfl|T::Ts,p::ps,ho=>by simp only[eY];rw[jX h T p (ho T (List.mem_cons_self ..)),pL h Ts ps (fun U hU=>ho U (List.mem_cons_of_mem _ hU))]
theorem AA {E:Env} (hE:aE E)(h: ∀id,lk F b1 id=lk F b2 id)(t:Nat)(neg:Bool)(x y:PV):lJ E F b1 t neg x y=lJ E F b2 t neg x y:=by
 unfold lJ;cases ht:E.ty t with|none=>rfl|some T=>have ho:=(hE.facts ht).own;simp only[jX h T _ ho]
theorem CL {E:Env} (hE:aE E)(h: ∀id,lk F b1 id=lk F b2 id)(op:BinOp)(t:Nat)(x y:PV):sW E F b1 op t x y=sW E F b2 op t x y:=by unfold sW;simp only[AA hE h]
theorem CM {E:Env} (h: ∀id,lk F b1 id=lk F b2 id)(t:Nat)(p:PV):rX E F b1 t p=rX E F b2 t p:=by unfold rX;simp only[h]
theorem yc(h: ∀id,lk F b1 id=lk F b2 id)(ar:Bool)(T:Ty)(p:PV)(lo hi:Option Int):kr F b1 ar T p lo hi=kr F b2 ar T p lo hi:=by unfold kr;simp only[h]
theorem yd {E:Env} (h: ∀id,lk F b1 id=lk F b2 id)(t:Nat)(p:PV)(i:Int):jF E F b1 t p i=jF E F b2 t p i:=by unfold jF;simp only[h]
theorem AD {E:Env} (h: ∀id,lk F b1 id=lk F b2 id)(t:Nat)(p:PV):jk E F b1 t p=jk E F b2 t p:=by unfold jk;simp only[h]
theorem AE {E:Env} (h: ∀id,lk F b1 id=lk F b2 id)(t1 t:Nat)(p:PV):nI E F b1 t1 t p=nI E F b2 t1 t p:=by unfold nI;simp only[uh h]
theorem pM(h: ∀id,lk F b1 id=lk F b2 id)(T:Ty)(ho:aJ T=0): ∀(ps:List (Nat×PV))(i:Nat),kx F b1 T i ps=kx F b2 T i ps|[],_=>rfl|p::r,i=>by simp only[kx,jX h T _ ho,pM h T ho r (i+1)]
theorem vU {E:Env} (hE:aE E)(h: ∀id,lk F b1 id=lk F b2 id)(t:Nat)(p q:PV)(ok:Bool):kA E F b1 t p q ok=kA E F b2 t p q ok:=by
 unfold kA;cases hT:E.ty t with|none=>rfl|some U=>(cases U<;>try rfl);rename_i A B;obtain⟨k',ve,hu,Th,hTB,GU,y7,Ll,D4⟩:=tG hE hT;cases hk:E.mapKey t with|none=>rfl|some kt=>simp only[ui h,jX h A _ Ll]
end
end Go.Proofs.YtmgmonbmdkkhbaaGreatDoor
namespace Go.Proofs.YtmgmonbmdkkhbaaGreatDoor
variable {c8:Prop} [hZ c8]
def gu(o:Oper):Option (List Operand):=match o.op with|.move x=>some [x]|.assign x=>some [x]|.nilCheck x=>some [x]|.pick c a b=>some [c,a,b]|.alloc _=>some []|.box _ x=>some [x]|.build _ parts=>some (parts.toList.map (·.2))|.buildSlice _ _ parts=>some (parts.toList.map (·.2))|.load _ x=>some [x]|.binOp _ _ x y _=>some [x,y]|.unOp _ _ x=>some [x]|.convert _ _ x=>some [x]|.slice _ x lo hi mx=>some (x::(lo.toList++(hi.toList++mx.toList)))|.fieldAddr _ x _=>some [x]|.field _ x _=>some [x]|.indexAddr _ x i=>some [x,i]|.index _ x i=>some [x,i]|.extract x _=>some [x]|.lookup _ x y _=>some [x,y]|.call c=>(match c.callee with|.value g=>some (g::c.args.toList)|.builtin .len=>some c.args.toList|.builtin .cap=>some c.args.toList|.builtin .min=>some c.args.toList|.builtin .max=>some c.args.toList|_=>none)|_=>none
theorem dm {s t:St} : ∀ {xs:List Operand},(∀x,x∈xs→s.ev x=t.ev x)→bJ s xs=bJ t xs|[],_=>rfl|x::xs,h=>by simp only[bJ];rw[h x (List.mem_cons_self ..),dm (fun y hy=>h y (List.mem_cons_of_mem _ hy))]
theorem fe {s t:St} : ∀ {xs:List (Nat×Operand)},(∀x,x∈xs.map (·.2)→s.ev x=t.ev x)→cE s xs=cE t xs|[],_=>rfl|x::xs,h=>by simp only[cE];rw[h x.2 (by simp),fe (xs:=xs) (fun y hy=>h y (by rw[List.map_cons];exact List.mem_cons_of_mem _ hy))]
theorem uj {E:Env} {F:cG} (he:F.e=false)(op:BinOp)(t:Nat)(a b:PV):lK E F op t a b=none:=by
 (have h1: ∀neg,kp E F t neg a b=none:=by intro neg;unfold kp;rw[he];cases b<;>rfl);cases op<;>first|rfl|exact h1 _
theorem AF {E:Env} (hE:aE E) {F:cG} (he:F.e=false) {s t:St} {o:Oper} {rs:List Operand} (ho:gu o=some rs)(hs: ∀x,x∈rs→s.ev x=t.ev x)(hb: ∀id,lk F s.bl id=lk F t.bl id)(hd: ∀d,o.dst=some d→look d s.bl=look d t.bl):ai E F s o=ai E F t o:=by
 obtain⟨dst,op,ty,pos,af,g⟩:=o;unfold gu at ho;unfold ai;cases op<;>simp only[Option.some.injEq,reduceCtorEq]at ho;(all_goals try subst ho);(case move x=>simp only[hs x (by simp)])
 (case nilCheck x=>simp only[hs x (by simp)]);(case assign x=>simp only[hs x (by simp)]);(case pick c a b=>simp only[hs c (by simp),hs a (by simp),hs b (by simp)])
 (case binOp op t x y u=>simp only[hs x (by simp),hs y (by simp),uj he,CL hE hb]);(case load u x=>simp only[hs x (by simp),AD hb]);(case unOp u v x=>simp only[hs x (by simp)])
 (case convert u v x=>simp only[hs x (by simp),AE hb]);(case fieldAddr u x f=>simp only[hs x (by simp)]);(case field u x f=>simp only[hs x (by simp)]);(case extract x i=>simp only[hs x (by simp)])
 (case indexAddr u x i=>simp only[hs x (by simp),hs i (by simp),yd hb]);(case index u x i=>simp only[hs x (by simp),hs i (by simp)]);(case lookup u x y ok=>simp only[hs x (by simp),hs y (by simp),vU hE hb])
 (case alloc u=>dsimp only;cases dst with|none=>cases E.ty u<;>rfl|some d=>cases E.ty u with|none=>rfl|some U=>simp only[hd d rfl]);(case box u x=>dsimp only;cases dst with|none=>simp only[hs x (by simp)]|some d=>rw[hs x (by simp)];cases(t.ev x).cells with|none=>rfl|some cs=>simp only[hd d rfl])
 (case build u parts=>simp only[fe hs]);(case buildSlice u n parts=>simp only[fe hs];cases dst with|none=>(cases hu:E.ty u with|none=>rfl|some U=>cases U<;>rfl)|some d=>cases hu:E.ty u with|none=>rfl|some U=>have hU:=(hE.facts hu).own;(cases U<;>try rfl);rename_i V;simp only[aJ]at hU;simp only[hd d rfl,pM hb V hU])
 (case slice u x lo hi mx=>(have hbd: ∀y:Option Operand,(∀z,z∈y.toList→s.ev z=t.ev z)→bound s y=bound t y:=by intro y hy;cases y with|none=>rfl|some z=>simp only[bound];rw[hy z (by simp)]);have h1:=hs x (by simp);have h2:=hbd lo (fun z hz=>hs z (by simp[hz]));have h3:=hbd hi (fun z hz=>hs z (by simp[hz]));simp only[h1,h2,h3,yc hb];cases mx with|none=>rfl|some m=>simp only[hs m (by simp)])
 case call c=>obtain⟨callee,args,y8⟩:=c;(have hc: ∀(f:Nat)(ps:List PV),ef E F s dst f ps=ef E F t dst f ps:=by intro f ps;unfold ef;cases hf:E.fn f with|none=>simp only[he];cases E.cC f<;>rfl|some p=>obtain⟨As,T⟩:=p;have CC:=hE.fn f As T hf;unfold xE at CC;simp only[Bool.and_eq_true,List.all_eq_true]at CC;dsimp only;rw[pL hb As _ (fun A hA=>Nat.eq_of_beq_eq_true (CC.2 A hA))]);cases callee with|value g=>simp only[Option.some.injEq]at ho;subst ho;have h1:=hs g (by simp);have h2:=dm (xs:=args.toList) (fun x hx=>hs x (List.mem_cons_of_mem _ hx));dsimp only;rw[h1,h2];(cases t.ev g with|fn f cL=>exact hc f _|rW f ps=>exact hc f _|iv T x=>(cases T<;>first|rfl|exact hc _ _)|_=>rfl)|builtin b=>cases b<;>simp only[Option.some.injEq,reduceCtorEq]at ho;(all_goals subst ho;have h2:=dm (xs:=args.toList) hs;dsimp only;rw[h2];try simp only[CM hb])|_=>simp at ho
def aQ(o:Oper):Option (List Operand):=match o.op with|.move x=>some [x]|.assign x=>some [x]|.nilCheck x=>some [x]|.pick c a b=>some [c,a,b]|.build _ parts=>some (parts.toList.map (·.2))|.binOp op _ x y _=>(match op with|.eql=>none|.neq=>none|_=>some [x,y])|.unOp _ _ x=>some [x]|.fieldAddr _ x _=>some [x]|.field _ x _=>some [x]|.index _ x i=>some [x,i]|.extract x _=>some [x]|.call c=>(match c.callee with|.builtin .min=>some c.args.toList|.builtin .max=>some c.args.toList|_=>none)|_=>none
theorem mh {E:Env} {F:cG} {s t:St} {o:Oper} {rs:List Operand} (ho:aQ o=some rs)(hs: ∀x,x∈rs→s.ev x=t.ev x):ai E F s o=ai E F t o:=by
 obtain⟨dst,op,ty,pos,af,g⟩:=o;unfold aQ at ho;unfold ai;cases op<;>simp only[Option.some.injEq,reduceCtorEq]at ho;(case move x=>subst ho;simp only[hs x (by simp)])
 (case nilCheck x=>subst ho;simp only[hs x (by simp)]);(case assign x=>subst ho;simp only[hs x (by simp)]);(case pick c a b=>subst ho;simp only[hs c (by simp),hs a (by simp),hs b (by simp)])
 (case build u parts=>subst ho;simp only[fe hs]);(case binOp op u x y v=>(have hxy: ∀GZ,some [x,y]=some GZ→s.ev x=t.ev x∧s.ev y=t.ev y∨GZ≠rs:=by intro GZ h;by_cases e:GZ=rs;(·injection h with h;subst h;subst e;exact .inl ⟨hs x (by simp),hs y (by simp)⟩);·exact .inr e);cases op<;>simp only[Option.some.injEq,reduceCtorEq]at ho;all_goals subst ho;simp only[hs x (by simp),hs y (by simp)];simp only[lK];unfold sW;generalize t.ev x=a;generalize t.ev y=b;(try rfl);all_goals(cases a<;>first|rfl|(cases b<;>first|rfl|(rename_i T1 x1 T2 x2;cases T1<;>cases T2<;>rfl))))
 (case unOp u v x=>subst ho;simp only[hs x (by simp)]);(case fieldAddr u x f=>subst ho;simp only[hs x (by simp)]);(case field u x f=>subst ho;simp only[hs x (by simp)])
 (case index u x i=>subst ho;simp only[hs x (by simp),hs i (by simp)]);(case extract x i=>subst ho;simp only[hs x (by simp)]);case call c=>obtain⟨callee,args,y8⟩:=c;cases callee with|builtin b=>cases b<;>simp only[Option.some.injEq,reduceCtorEq]at ho;(all_goals subst ho;have h2:=dm (xs:=args.toList) hs;dsimp only;rw[h2])|_=>simp at ho
end Go.Proofs.YtmgmonbmdkkhbaaGreatDoor
namespace Go.Proofs.YtmgmonbmdkkhbaaGreatDoor
variable {c8:Prop} [hZ c8]
structure ec(s t:St):Prop where
 get: ∀i,s.get i=t.get i
 bM: ∀i,look i s.bl=look i t.bl
theorem ec.refl(s:St):ec s s:=⟨fun _=>rfl,fun _=>rfl⟩
theorem ec.symm {s t:St} (h:ec s t):ec t s:=⟨fun i=>(h.get i).symm,fun i=>(h.bM i).symm⟩
theorem ec.trans {s t u:St} (h:ec s t)(h':ec t u):ec s u:=⟨fun i=>(h.get i).trans (h'.get i),fun i=>(h.bM i).trans (h'.bM i)⟩
theorem ec.ev {s t:St} (h:ec s t)(x:Operand):s.ev x=t.ev x:=by cases x<;>simp only[St.ev,h.get]
theorem ec.lk {s t:St} (h:ec s t)(F:cG)(i:Nat):lk F s.bl i=lk F t.bl i:=by unfold Go.Proofs.YtmgmonbmdkkhbaaGreatDoor.lk;rw[h.bM]
theorem ec.D {s t:St} (h:ec s t):s.D=t.D:=by funext i;unfold St.D;rw[h.bM]
theorem Rel.same {n:Nat} {w0:World} {S0:Cx} {s t:St} {a:Act} {w:World} (hs:ec s t)(h:Rel n w0 S0 s a w):Rel n w0 S0 t a w:=by
 obtain⟨ν,S,h1,h2,h3,h4,h5,h6,h7,h8,h9,h10⟩:=h;refine⟨ν,S,h1,h2,h3,⟨h4.lt,h4.size,fun id b hb=>?_,fun i j b c dG hi hj=>?_⟩,fun i=>?_,h6,h7,h8,fun i hi hd=>h9 i hi (by rw[hs.D];exact hd),h10⟩
 (·rw[←hs.bM]at hb;rw[←hs.D];exact h4.bM id b hb);(·rw[←hs.bM]at hi hj;exact h4.ne i j b c dG hi hj);·rw[←hs.get,←hs.D];exact h5 i
inductive ie where|skip|done(l:Out)
def St.app(s:St)(d:Option Nat):ie→St|.skip=>s.put d (.aP [])|.done l=>s.fin d l
def ie.n7(d:Option Nat):ie→Bool|.skip=>true|.done (.val _)=>true|.done (.new _ _)=>d.isSome|.done (.store _ _)=>true|_=>false
def ie.slot(d:Option Nat):ie→Option (Nat×PV)|.skip=>d.map (·,.aP [])|.done (.val v)=>d.map (·,v)|.done (.new v _)=>d.map (·,v)|_=>none
def ie.bM(d:Option Nat):ie→Option (Nat×aL)|.done (.new _ b)=>d.map (·,b)|.done (.store i b)=>some (i,b)|_=>none
theorem ig {s:St} {d:Option Nat} {r:ie} (h:r.n7 d=true)(i:Nat):(s.app d r).get i=match r.slot d with|some p=>(bif Nat.beq i p.1 then p.2 else s.get i)|none=>s.get i:=by
 (have key: ∀(e:Nat)(v:PV)(bl:List (Nat×aL)),(⟨(e,v)::s.sl,bl⟩:St).get i=bif Nat.beq i e then v else s.get i:=by intro e v bl;simp only[St.get,look];cases Nat.beq i e<;>rfl)
 cases r with|skip=>cases d<;>simp only[St.app,St.put,ie.slot,Option.map_some,Option.map_none];exact key _ _ _|done l=>cases l with|val v=>cases d<;>simp only[St.app,St.fin,St.put,ie.slot,Option.map_some,Option.map_none];exact key _ _ _|new v b=>cases d<;>simp only[St.app,St.fin,ie.slot,Option.map_some,Option.map_none];exact key _ _ _|store j b=>rfl|_=>cases h
theorem ij {s:St} {d:Option Nat} {r:ie} (h:r.n7 d=true)(i:Nat):look i (s.app d r).bl=match r.bM d with|some p=>(bif Nat.beq i p.1 then some p.2 else look i s.bl)|none=>look i s.bl:=by
 cases r with|skip=>cases d<;>rfl|done l=>cases l with|val v=>cases d<;>rfl|new v b=>cases d<;>simp only[St.app,St.fin,ie.bM,Option.map_some,Option.map_none,look]|store j b=>simp only[St.app,St.fin,ie.bM,look]|_=>cases h
theorem AG {s t:St} (h:ec s t) {d:Option Nat} {r:ie} (hr:r.n7 d=true):ec (s.app d r) (t.app d r):=by
 refine⟨fun i=>?_,fun i=>?_⟩;(·rw[ig hr,ig hr];cases r.slot d<;>simp only[h.get]);·rw[ij hr,ij hr];cases r.bM d<;>simp only[h.bM]
def ye(p q:Option Nat×ie):Prop:=(∀x y,p.2.slot p.1=some x→q.2.slot q.1=some y→x.1≠y.1)∧ ∀x y,p.2.bM p.1=some x→q.2.bM q.1=some y→x.1≠y.1
theorem cF {i j:Nat} (h:i≠j):Nat.beq i j=false:=by cases hb:Nat.beq i j with|false=>rfl|true=>exact absurd (Nat.eq_of_beq_eq_true hb) h
theorem Iq {s:St} {p q:Option Nat×ie} (h1:p.2.n7 p.1=true)(h2:q.2.n7 q.1=true)(h:ye p q):ec ((s.app p.1 p.2).app q.1 q.2) ((s.app q.1 q.2).app p.1 p.2):=by
 refine⟨fun i=>?_,fun i=>?_⟩;(·rw[ig h2,ig h1,ig h1,ig h2];cases hq:q.2.slot q.1 with|none=>rfl|some y=>cases hp:p.2.slot p.1 with|none=>rfl|some x=>have cz:=h.1 x y hp hq;simp only;cases hb:Nat.beq i y.1 with|false=>rfl|true=>rw[Nat.eq_of_beq_eq_true hb,cF cz.symm];rfl)
 ·rw[ij h2,ij h1,ij h1,ij h2];cases hq:q.2.bM q.1 with|none=>rfl|some y=>cases hp:p.2.bM p.1 with|none=>rfl|some x=>have cz:=h.2 x y hp hq;simp only;cases hb:Nat.beq i y.1 with|false=>rfl|true=>rw[Nat.eq_of_beq_eq_true hb,cF cz.symm];rfl
end Go.Proofs.YtmgmonbmdkkhbaaGreatDoor
namespace Go.Proofs.YtmgmonbmdkkhbaaGreatDoor
variable {c8:Prop} [hZ c8]
def fG:List (Option Nat×ie)→(Nat→Bool)→Nat→St→St|[],_,_,s=>s|p::r,D,i,s=>fG r D (i+1) (match D i with|true=>s.app p.1 p.2|false=>s)
theorem pN {D:Nat→Bool} : ∀ {l:List (Option Nat×ie)} {i:Nat} {s t:St},(∀p,p∈l→p.2.n7 p.1=true)→ec s t→ec (fG l D i s) (fG l D i t)|[],_,_,_,_,h=>h|p::r,i,s,t,hl,h=>by simp only[fG];refine pN (fun q hq=>hl q (List.mem_cons_of_mem _ hq)) ?_;cases D i with|true=>exact AG h (hl p (List.mem_cons_self ..))|false=>exact h
theorem yf {D:Nat→Bool} {q:Option Nat×ie} (hq:q.2.n7 q.1=true): ∀ {l:List (Option Nat×ie)} {i:Nat} {s:St},(∀p,p∈l→p.2.n7 p.1=true)→(∀(k:Nat)p,l[k]?=some p→D (i+k)=true→ye q p)→ec (fG l D i (s.app q.1 q.2)) ((fG l D i s).app q.1 q.2)|[],_,s,_,_=>ec.refl _|p::r,i,s,hl,hn=>by simp only[fG];have hn': ∀(k:Nat)x,r[k]?=some x→D (i+1+k)=true→ye q x:=fun k x hx hD=>hn (k+1) x (by simpa using hx) (by rw[show i+(k+1)=i+1+k from by omega];exact hD);cases hD:D i with|false=>exact yf hq (fun x hx=>hl x (List.mem_cons_of_mem _ hx)) hn'|true=>refine ec.trans (pN (fun x hx=>hl x (List.mem_cons_of_mem _ hx)) (Iq hq (hl p (List.mem_cons_self ..)) (hn 0 p rfl hD))) ?_;exact yf hq (fun x hx=>hl x (List.mem_cons_of_mem _ hx)) hn'
theorem El {D D':Nat→Bool} : ∀ {l:List (Option Nat×ie)} {i:Nat} {s:St},(∀j,i≤j→D j=D' j)→fG l D i s=fG l D' i s|[],_,_,_=>rfl|p::r,i,s,h=>by simp only[fG];rw[h i (Nat.le_refl _),El (l:=r) (fun j hj=>h j (by omega))]
theorem uk {D D':Nat→Bool} {j:Nat} (hD:D j=false)(Lp:D' j=true)(he: ∀m,m≠j→D m=D' m): ∀ {l:List (Option Nat×ie)} {i:Nat} {s:St} {p:Option Nat×ie},(∀p,p∈l→p.2.n7 p.1=true)→i≤j→l[j-i]?=some p→(∀(k:Nat)q,j<i+k→l[k]?=some q→D (i+k)=true→ye p q)→ec (fG l D' i s) ((fG l D i s).app p.1 p.2)|[],i,s,p,_,_,hp,_=>(by simp at hp)|q::r,i,s,p,hl,dG,hp,hn=>by simp only[fG];by_cases hi:i=j;(·subst hi;rw[Nat.sub_self]at hp;simp only[List.getElem?_cons_zero,Option.some.injEq]at hp;subst hp;rw[hD,Lp];simp only;rw[←El (D:=D) (D':=D') (fun m hm=>he m (by omega))];exact yf (hl q (List.mem_cons_self ..)) (fun x hx=>hl x (List.mem_cons_of_mem _ hx)) (fun k x hx L6=>hn (k+1) x (by omega) (by simpa using hx) (by rw[show i+(k+1)=i+1+k from by omega];exact L6)));·rw[←he i hi];(have:j-i=(j-(i+1))+1:=by omega);rw[this,List.getElem?_cons_succ]at hp;exact uk hD Lp he (fun x hx=>hl x (List.mem_cons_of_mem _ hx)) (by omega) hp (fun k x hk hx L6=>hn (k+1) x (by omega) (by simpa using hx) (by rw[show i+(k+1)=i+1+k from by omega];exact L6))
theorem Em {D D':Nat→Bool} {t:Nat} : ∀ {l:List (Option Nat×ie)} {i:Nat} {s u:St},(∀p,p∈l→p.2.n7 p.1=true)→(∀(k:Nat)p,l[k]?=some p→D (i+k)≠D' (i+k)→p.1≠some t)→s.get t=u.get t→(fG l D i s).get t=(fG l D' i u).get t|[],_,_,_,_,_,h=>h|p::r,i,s,u,hl,hn,h=>by simp only[fG];have hp:=hl p (List.mem_cons_self ..);(have RX:p.1≠some t→ ∀v:St,(v.app p.1 p.2).get t=v.get t:=by intro cz v;rw[ig hp];cases hs:p.2.slot p.1 with|none=>rfl|some x=>(have hx:p.1=some x.1:=by obtain⟨d,r⟩:=p;cases r with|skip=>cases d<;>simp[ie.slot]at hs;rw[←hs]|done l=>cases l<;>cases d<;>simp[ie.slot]at hs<;>rw[←hs]);(have:t≠x.1:=by rintro rfl;exact cz hx);simp only[cF this,cond_false]);refine Em (fun q hq=>hl q (List.mem_cons_of_mem _ hq)) (fun k q hq cz=>hn (k+1) q (by simpa using hq) (by rw[show i+(k+1)=i+1+k from by omega];exact cz)) ?_;cases hD:D i with|true=>(cases Lp:D' i with|true=>simp only;rw[ig hp,ig hp,h]|false=>have:=hn 0 p rfl (by simp[hD,Lp]);simp only;rw[RX this,h])|false=>cases Lp:D' i with|true=>have:=hn 0 p rfl (by simp[hD,Lp]);simp only;rw[RX this,h]|false=>exact h
theorem yg {D D':Nat→Bool} {t:Nat} : ∀ {l:List (Option Nat×ie)} {i:Nat} {s u:St},(∀p,p∈l→p.2.n7 p.1=true)→(∀(k:Nat)p,l[k]?=some p→D (i+k)≠D' (i+k)→ ∀x,p.2.bM p.1=some x→x.1≠t)→look t s.bl=look t u.bl→look t (fG l D i s).bl=look t (fG l D' i u).bl|[],_,_,_,_,_,h=>h|p::r,i,s,u,hl,hn,h=>by simp only[fG];have hp:=hl p (List.mem_cons_self ..);(have vM:(∀x,p.2.bM p.1=some x→x.1≠t)→ ∀v:St,look t (v.app p.1 p.2).bl=look t v.bl:=by intro cz v;rw[ij hp];cases hs:p.2.bM p.1 with|none=>rfl|some x=>simp only[cF (cz x hs).symm,cond_false]);refine yg (fun q hq=>hl q (List.mem_cons_of_mem _ hq)) (fun k q hq cz=>hn (k+1) q (by simpa using hq) (by rw[show i+(k+1)=i+1+k from by omega];exact cz)) ?_;cases hD:D i with|true=>(cases Lp:D' i with|true=>simp only;rw[ij hp,ij hp,h]|false=>have:=hn 0 p rfl (by simp[hD,Lp]);simp only;rw[vM this,h])|false=>cases Lp:D' i with|true=>have:=hn 0 p rfl (by simp[hD,Lp]);simp only;rw[vM this,h]|false=>exact h
end Go.Proofs.YtmgmonbmdkkhbaaGreatDoor
namespace Go.Proofs.YtmgmonbmdkkhbaaGreatDoor
variable {c8:Prop} [hZ c8]
theorem Ir {P:Program} {o:Oper} {a:Act} {w:World} {C:Prop} {Q:Exit→Act→World→Prop} (hQ: ∀e a w,Q e a w→C)(hl:LetsOut Q→C)(h:o.wp P a w (fun _ _=>C) Q):C:=by
 unfold Oper.wp at h;generalize(execOp a.eval o).run P w=r at h;cases r with|ok n w'=>cases n<;>simp only[Oper.upon]at h;(all_goals first|exact h|(obtain⟨e,DP,fr,hR,_⟩:=h [];cases e with|returned v=>exact hR|panicked c=>exact hQ _ _ _ hR|outgrown=>exact hl hR)|(obtain⟨v,DP,hR,_⟩:=h default [];exact hR))|halt x w'=>cases x<;>simp only[Oper.upon]at h;all_goals exact hQ _ _ _ h
end Go.Proofs.YtmgmonbmdkkhbaaGreatDoor
namespace Go.Proofs.YtmgmonbmdkkhbaaGreatDoor
variable {c8:Prop} [hZ c8]
def fp(E:Env):Out→Out→Prop|.bU p o,l=>p∧fp E o l|.qA T p f,l=> ∃x:T.den,p x∧fp E (f x) l|.call f xs T g,l=> ∃r:T.den,PC E f xs T r∧T.ok r∧fp E (g r) l|.jh _ _ _ _,_=>False|.fail _,_=>False|.val v,l=>l= .val v|.new v b,l=>l= .new v b|.store i b,l=>l= .store i b|.append i j b,l=>l= .append i j b|.cx ids p bl,l=>l= .cx ids p bl|.dp ks v,l=>l= .dp ks v|.fJ _ _ _ _ _ _ _,_=>False|.nS _ _ _,_=>False|.ez _ _ _,_=>False|.imp _ _,_=>False|.both _ _,_=>False|.lG _ _ _,_=>False|.oO _ _,_=>False|.ji f args bl ids fl used d,l=> ∃p bl',HC E f args bl p bl'∧ti bl bl' fl used d p=true∧Hj p∧oY bl'∧l= .cx ids p bl'
def Out.pl:Out→Prop|.bU _ o=>o.pl|.qA _ _ f=> ∀x,(f x).pl|.call _ _ _ g=> ∀r,(g r).pl|.jh _ _ _ _=>False|.fJ _ _ _ _ _ _ _=>False|.nS _ _ _=>False|.ez _ _ _=>False|.imp _ _=>False|.both _ _=>False|.lG _ _ _=>False|.oO _ _=>False|_=>True
theorem CN {E:Env} : ∀(o:Out)(K:Out→Prop),o.pl→aR E o K→aR E o (fun l=>K l∧fp E o l):=by
 intro o;induction o with|bU p o ih=>intro K hp h;exact⟨h.1,aU (fun l hl=>⟨hl.1,h.1,hl.2⟩) o (ih K hp h.2)⟩|qA T p f ih=>intro K hp⟨x,h1,h2⟩;exact⟨x,h1,aU (fun l hl=>⟨hl.1,x,h1,hl.2⟩) (f x) (ih x K (hp x) h2)⟩|call f xs T g ih=>intro K hp⟨r,h1,h2⟩;exact⟨r,h1,fun hr=>aU (fun l hl=>⟨hl.1,r,h1,hr,hl.2⟩) (g r) (ih r K (hp r) (h2 hr))⟩|fail m=>intro K _ h;exact h|val v=>intro K _ h;exact⟨h,rfl⟩|new v b=>intro K _ h;exact⟨h,rfl⟩|store i b=>intro K _ h;exact⟨h,rfl⟩|append i j b=>intro K _ h;exact⟨h,rfl⟩|cx ids p bl=>intro K _ h;exact⟨h,rfl⟩|dp ks v=>intro K _ h;exact⟨h,rfl⟩|ji f args bl ids fl used d=>intro K _⟨p,bl',h1,h2,h3⟩;exact⟨p,bl',h1,h2,fun a b=>⟨h3 a b,p,bl',h1,h2,a,b,rfl⟩⟩|nS i b v=>intro K hp;exact hp.elim|ez ks i b=>intro K hp;exact hp.elim|jh f xs T g ih=>intro K hp;exact hp.elim|fJ f args bl ids fl used d=>intro K hp;exact hp.elim|imp p o=>intro K hp;exact hp.elim|both a b=>intro K hp;exact hp.elim|lG T p f=>intro K hp;exact hp.elim|oO p f=>intro K hp;exact hp.elim
theorem fp.an9 {E:Env} : ∀ {o l:Out},fp E o l→aR E o (fun l'=>l'=l):=by
 intro o;induction o with|bU p o ih=>intro l h;exact⟨h.1,ih h.2⟩|qA T p f ih=>intro l⟨x,h1,h2⟩;exact⟨x,h1,ih x h2⟩|call f xs T g ih=>intro l⟨r,h1,_,h3⟩;exact⟨r,h1,fun _=>ih r h3⟩|fail m=>intro l h;exact h|ji f args bl ids fl used d=>intro l⟨p,bl',h1,h2,h3,h4,e⟩;exact⟨p,bl',h1,h2,fun _ _=>e.symm⟩|nS i b v=>intro l h;exact h.elim|ez ks i b=>intro l h;exact h.elim|jh f xs T g ih=>intro l h;exact h.elim|fJ f args bl ids fl used d=>intro l h;exact h.elim|imp p o=>intro l h;exact h.elim|both a b=>intro l h;exact h.elim|lG T p f=>intro l h;exact h.elim|oO p f=>intro l h;exact h.elim|_=>intro l h;exact h.symm
end Go.Proofs.YtmgmonbmdkkhbaaGreatDoor
namespace Go.Proofs.YtmgmonbmdkkhbaaGreatDoor
variable {c8:Prop} [hZ c8]
variable {E:Env} {w0:World} {S0:Cx}
theorem um(hE:aE E) {n:Nat} {s:St} {a:Act} {w:World} {F:cG} {o:Oper} (h:Rel n w0 S0 s a w)(ho:bK n o=true) {K:St→Prop} {C:Prop} (hp:(ai E F s o).pl)(ab:aR E (ai E F s o) (fun l=>K (s.fin o.dst l)))(hC: ∀l a' w',fp E (ai E F s o) l→K (s.fin o.dst l)→Rel n w0 S0 (s.fin o.dst l) a' w'→C):C:=by
 obtain⟨ν,S,hf⟩:=h.full;have h1:=CN _ _ hp ab;have h2:=gG (Q:=fun _ _ _=>False) (K:=fun s'=> ∃l,s'=s.fin o.dst l∧fp E (ai E F s o) l∧K s') hE hf ho (aU (fun l hl=>⟨l,rfl,hl.2,hl.1⟩) _ h1)
 refine Ir (Q:=fun _ _ _=>False) (fun _ _ _ h=>h.elim) (fun⟨_,_,h⟩=>h.elim) (Oper.wp_mono (fun a' w'⟨s',⟨l,e,hc,hk⟩,hr⟩=>?_) h2);subst e;exact hC l a' w' hc hk hr
end Go.Proofs.YtmgmonbmdkkhbaaGreatDoor
