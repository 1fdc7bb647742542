/-
  The list of outcomes. Nothing here is trusted; no condition.
-/
import Derived.Test.YtgpkijnphchkpaaGreatA5
set_option linter.unusedSimpArgs false
set_option linter.unusedVariables false
namespace Go.Proofs.YtgpkijnphchkpaaGreat
variable {dM:Prop} [jN dM]
section
variable {F:dw} {b1 b2:List (Nat×aO)}
theorem Fz(h: ∀id,lk F b1 id=lk F b2 id)(id off:Nat):xC F b1 id off=xC F b2 id off:=by unfold xC;rw[h]
theorem yA(h: ∀id,lk F b1 id=lk F b2 id)(t:Ty)(p:PV):il F b1 t p=il F b2 t p:=by unfold il;cases p<;>simp only[h]
theorem yB(h: ∀id,lk F b1 id=lk F b2 id)(k v:Ty)(p:PV):mf F b1 k v p=mf F b2 k v p:=by unfold mf;cases p<;>simp only[h]
theorem FA(h: ∀id,lk F b1 id=lk F b2 id): ∀(T:Ty)(cs:List PV),aR T=0→pk F b1 T cs=pk F b2 T cs:=by
 intro T;induction T with|own t _=>intro cs ho;simp[aR]at ho|pair a b ir gE=>intro cs ho;simp only[aR]at ho;simp only[pk];rw[ir cs (by omega)];(cases pk F b2 a cs with|none=>rfl|some x=>simp only;rw[gE _ (by omega)])|st t ih=>intro cs ho;simp only[aR]at ho;simp only[pk];exact ih cs ho|sl t _=>intro cs ho;cases cs<;>simp only[pk,yA h]|mp a b _ _=>intro cs ho;cases cs<;>simp only[pk,yB h]|ptr t ih=>intro cs ho;simp only[aR]at ho;(cases cs with|nil=>rfl|cons c r=>cases c<;>simp only[pk,Fz h];split;(·rw[ih _ ho]);·rfl)|eQ f t ih=>intro cs ho;simp only[aR]at ho;(cases cs with|nil=>rfl|cons c r=>cases c<;>simp only[pk];rw[ih _ ho])|_=>intro cs ho;cases cs<;>rfl
theorem mE(h: ∀id,lk F b1 id=lk F b2 id)(T:Ty)(p:PV)(ho:aR T=0):exp F b1 T p=exp F b2 T p:=by
 unfold exp;cases T<;>simp only<;>first|rw[FA h _ _ ho]|(cases p<;>simp only;rw[FA h _ _ (by simpa[aR]using ho)])
theorem s4(h: ∀id,lk F b1 id=lk F b2 id): ∀(Ts:List Ty)(ps:List PV),(∀T,T∈Ts→aR T=0)→gn F b1 Ts ps=gn F b2 Ts ps|[],[],_=>rfl|[],_::_,_=>rfl|_::_,[],_=>rfl|T::Ts,p::ps,ho=>by simp only[gn];rw[mE h T p (ho T (List.mem_cons_self ..)),s4 h Ts ps (fun U hU=>ho U (List.mem_cons_of_mem _ hU))]
theorem FB {E:Env} (hE:aG E)(h: ∀id,lk F b1 id=lk F b2 id)(t:Nat)(neg:Bool)(x y:PV):ow E F b1 t neg x y=ow E F b2 t neg x y:=by
 unfold ow;cases ht:E.ty t with|none=>rfl|some T=>have ho:=(hE.facts ht).own;simp only[mE h T _ ho]
theorem IN {E:Env} (hE:aG E)(h: ∀id,lk F b1 id=lk F b2 id)(op:BinOp)(t:Nat)(x y:PV):xD E F b1 op t x y=xD E F b2 op t x y:=by unfold xD;simp only[FB hE h]
theorem IP {E:Env} (h: ∀id,lk F b1 id=lk F b2 id)(t:Nat)(p:PV):Av E F b1 t p=Av E F b2 t p:=by unfold Av;simp only[h]
theorem De(h: ∀id,lk F b1 id=lk F b2 id)(ar:Bool)(T:Ty)(p:PV)(lo hi:Option Int):m8 F b1 ar T p lo hi=m8 F b2 ar T p lo hi:=by unfold m8;simp only[h]
theorem Df {E:Env} (h: ∀id,lk F b1 id=lk F b2 id)(t:Nat)(p:PV)(i:Int):l5 E F b1 t p i=l5 E F b2 t p i:=by unfold l5;simp only[h]
theorem FC {E:Env} (h: ∀id,lk F b1 id=lk F b2 id)(t:Nat)(p:PV):lG E F b1 t p=lG E F b2 t p:=by unfold lG;simp only[h]
theorem FD {E:Env} (h: ∀id,lk F b1 id=lk F b2 id)(t1 t:Nat)(p:PV):qB E F b1 t1 t p=qB E F b2 t1 t p:=by unfold qB;simp only[yA h]
theorem s5(h: ∀id,lk F b1 id=lk F b2 id)(T:Ty)(ho:aR T=0): ∀(ps:List (Nat×PV))(i:Nat),na F b1 T i ps=na F b2 T i ps|[],_=>rfl|p::r,i=>by simp only[na,mE h T _ ho,s5 h T ho r (i+1)]
theorem AN {E:Env} (hE:aG E)(h: ∀id,lk F b1 id=lk F b2 id)(t:Nat)(p q:PV)(ok:Bool):nb E F b1 t p q ok=nb E F b2 t p q ok:=by
 unfold nb;cases hT:E.ty t with|none=>rfl|some U=>(cases U<;>try rfl);rename_i A B;obtain⟨k',ve,hu,hTA,hTB,N0,EB,Ui,Kh⟩:=ya hE hT;cases hk:E.mapKey t with|none=>rfl|some kt=>simp only[yB h,mE h A _ Ui]
end
end Go.Proofs.YtgpkijnphchkpaaGreat
namespace Go.Proofs.YtgpkijnphchkpaaGreat
variable {dM:Prop} [jN dM]
def jf(o:Oper):Option (List Operand):=match o.op with|.move x=>some [x]|.assign x=>some [x]|.nilCheck x=>some [x]|.pick c a b=>some [c,a,b]|.alloc _=>some []|.box _ x=>some [x]|.build _ parts=>some (parts.toList.map (·.2))|.buildSlice _ _ parts=>some (parts.toList.map (·.2))|.load _ x=>some [x]|.binOp _ _ x y _=>some [x,y]|.unOp _ _ x=>some [x]|.convert _ _ x=>some [x]|.slice _ x lo hi mx=>some (x::(lo.toList++(hi.toList++mx.toList)))|.fieldAddr _ x _=>some [x]|.field _ x _=>some [x]|.indexAddr _ x i=>some [x,i]|.index _ x i=>some [x,i]|.extract x _=>some [x]|.lookup _ x y _=>some [x,y]|.call c=>(match c.callee with|.value g=>some (g::c.args.toList)|.builtin .len=>some c.args.toList|.builtin .cap=>some c.args.toList|.builtin .min=>some c.args.toList|.builtin .max=>some c.args.toList|_=>none)|_=>none
theorem eW {s t:St} : ∀ {xs:List Operand},(∀x,x∈xs→s.ev x=t.ev x)→ct s xs=ct t xs|[],_=>rfl|x::xs,h=>by simp only[ct];rw[h x (List.mem_cons_self ..),eW (fun y hy=>h y (List.mem_cons_of_mem _ hy))]
theorem gx {s t:St} : ∀ {xs:List (Nat×Operand)},(∀x,x∈xs.map (·.2)→s.ev x=t.ev x)→dp s xs=dp t xs|[],_=>rfl|x::xs,h=>by simp only[dp];rw[h x.2 (by simp),gx (xs:=xs) (fun y hy=>h y (by rw[List.map_cons];exact List.mem_cons_of_mem _ hy))]
theorem yC {E:Env} {F:dw} (he:F.e=false)(op:BinOp)(t:Nat)(a b:PV):oy E F op t a b=none:=by
 (have h1: ∀neg,m6 E F t neg a b=none:=by intro neg;unfold m6;rw[he];cases b<;>rfl);cases op<;>first|rfl|exact h1 _
theorem FF {E:Env} (hE:aG E) {F:dw} (he:F.e=false) {s t:St} {o:Oper} {rs:List Operand} (ho:jf o=some rs)(hs: ∀x,x∈rs→s.ev x=t.ev x)(hb: ∀id,lk F s.bl id=lk F t.bl id)(hd: ∀d,o.dst=some d→look d s.bl=look d t.bl):aj E F s o=aj E F t o:=by
 obtain⟨dst,op,ty,pos,af,g⟩:=o;unfold jf at ho;unfold aj;cases op<;>simp only[Option.some.injEq,reduceCtorEq]at ho;(all_goals try subst ho);(case move x=>simp only[hs x (by simp)])
 (case nilCheck x=>simp only[hs x (by simp)]);(case assign x=>simp only[hs x (by simp)]);(case pick c a b=>simp only[hs c (by simp),hs a (by simp),hs b (by simp)])
 (case binOp op t x y u=>simp only[hs x (by simp),hs y (by simp),yC he,IN hE hb]);(case load u x=>simp only[hs x (by simp),FC hb]);(case unOp u v x=>simp only[hs x (by simp)])
 (case convert u v x=>simp only[hs x (by simp),FD hb]);(case fieldAddr u x f=>simp only[hs x (by simp)]);(case field u x f=>simp only[hs x (by simp)]);(case extract x i=>simp only[hs x (by simp)])
 (case indexAddr u x i=>simp only[hs x (by simp),hs i (by simp),Df hb]);(case index u x i=>simp only[hs x (by simp),hs i (by simp)]);(case lookup u x y ok=>simp only[hs x (by simp),hs y (by simp),AN hE hb])
 (case alloc u=>dsimp only;cases dst with|none=>cases E.ty u<;>rfl|some d=>cases E.ty u with|none=>rfl|some U=>simp only[hd d rfl]);(case box u x=>dsimp only;cases dst with|none=>simp only[hs x (by simp)]|some d=>rw[hs x (by simp)];cases(t.ev x).cells with|none=>rfl|some cs=>simp only[hd d rfl])
 (case build u parts=>simp only[gx hs]);(case buildSlice u n parts=>simp only[gx hs];cases dst with|none=>(cases hu:E.ty u with|none=>rfl|some U=>cases U<;>rfl)|some d=>cases hu:E.ty u with|none=>rfl|some U=>have hU:=(hE.facts hu).own;(cases U<;>try rfl);rename_i V;simp only[aR]at hU;simp only[hd d rfl,s5 hb V hU])
 (case slice u x lo hi mx=>(have hbd: ∀y:Option Operand,(∀z,z∈y.toList→s.ev z=t.ev z)→bound s y=bound t y:=by intro y hy;cases y with|none=>rfl|some z=>simp only[bound];rw[hy z (by simp)]);have h1:=hs x (by simp);have h2:=hbd lo (fun z hz=>hs z (by simp[hz]));have h3:=hbd hi (fun z hz=>hs z (by simp[hz]));simp only[h1,h2,h3,De hb];cases mx with|none=>rfl|some m=>simp only[hs m (by simp)])
 case call c=>obtain⟨callee,args,EC⟩:=c;(have hc: ∀(f:Nat)(ps:List PV),fD E F s dst f ps=fD E F t dst f ps:=by intro f ps;unfold fD;cases hf:E.fn f with|none=>simp only[he];cases E.dA f<;>rfl|some p=>obtain⟨As,T⟩:=p;have Iy:=hE.fn f As T hf;unfold CN at Iy;simp only[Bool.and_eq_true,List.all_eq_true]at Iy;dsimp only;rw[s4 hb As _ (fun A hA=>Nat.eq_of_beq_eq_true (Iy.2 A hA))]);cases callee with|value g=>simp only[Option.some.injEq]at ho;subst ho;have h1:=hs g (by simp);have h2:=eW (xs:=args.toList) (fun x hx=>hs x (List.mem_cons_of_mem _ hx));dsimp only;rw[h1,h2];(cases t.ev g with|fn f dC=>exact hc f _|wB f ps=>exact hc f _|iv T x=>(cases T<;>first|rfl|exact hc _ _)|_=>rfl)|builtin b=>cases b<;>simp only[Option.some.injEq,reduceCtorEq]at ho;(all_goals subst ho;have h2:=eW (xs:=args.toList) hs;dsimp only;rw[h2];try simp only[IP hb])|_=>simp at ho
def bf(o:Oper):Option (List Operand):=match o.op with|.move x=>some [x]|.assign x=>some [x]|.nilCheck x=>some [x]|.pick c a b=>some [c,a,b]|.build _ parts=>some (parts.toList.map (·.2))|.binOp op _ x y _=>(match op with|.eql=>none|.neq=>none|_=>some [x,y])|.unOp _ _ x=>some [x]|.fieldAddr _ x _=>some [x]|.field _ x _=>some [x]|.index _ x i=>some [x,i]|.extract x _=>some [x]|.call c=>(match c.callee with|.builtin .min=>some c.args.toList|.builtin .max=>some c.args.toList|_=>none)|_=>none
theorem oX {E:Env} {F:dw} {s t:St} {o:Oper} {rs:List Operand} (ho:bf o=some rs)(hs: ∀x,x∈rs→s.ev x=t.ev x):aj E F s o=aj E F t o:=by
 obtain⟨dst,op,ty,pos,af,g⟩:=o;unfold bf at ho;unfold aj;cases op<;>simp only[Option.some.injEq,reduceCtorEq]at ho;(case move x=>subst ho;simp only[hs x (by simp)])
 (case nilCheck x=>subst ho;simp only[hs x (by simp)]);(case assign x=>subst ho;simp only[hs x (by simp)]);(case pick c a b=>subst ho;simp only[hs c (by simp),hs a (by simp),hs b (by simp)])
 (case build u parts=>subst ho;simp only[gx hs]);(case binOp op u x y v=>(have hxy: ∀N7,some [x,y]=some N7→s.ev x=t.ev x∧s.ev y=t.ev y∨N7≠rs:=by intro N7 h;by_cases e:N7=rs;(·injection h with h;subst h;subst e;exact .inl ⟨hs x (by simp),hs y (by simp)⟩);·exact .inr e);cases op<;>simp only[Option.some.injEq,reduceCtorEq]at ho;all_goals subst ho;simp only[hs x (by simp),hs y (by simp)];simp only[oy];unfold xD;generalize t.ev x=a;generalize t.ev y=b;(try rfl);all_goals(cases a<;>first|rfl|(cases b<;>first|rfl|(rename_i T1 x1 T2 x2;cases T1<;>cases T2<;>rfl))))
 (case unOp u v x=>subst ho;simp only[hs x (by simp)]);(case fieldAddr u x f=>subst ho;simp only[hs x (by simp)]);(case field u x f=>subst ho;simp only[hs x (by simp)])
 (case index u x i=>subst ho;simp only[hs x (by simp),hs i (by simp)]);(case extract x i=>subst ho;simp only[hs x (by simp)]);case call c=>obtain⟨callee,args,EC⟩:=c;cases callee with|builtin b=>cases b<;>simp only[Option.some.injEq,reduceCtorEq]at ho;(all_goals subst ho;have h2:=eW (xs:=args.toList) hs;dsimp only;rw[h2])|_=>simp at ho
end Go.Proofs.YtgpkijnphchkpaaGreat
namespace Go.Proofs.YtgpkijnphchkpaaGreat
variable {dM:Prop} [jN dM]
structure fv(s t:St):Prop where
 get: ∀i,s.get i=t.get i
 cv: ∀i,look i s.bl=look i t.bl
theorem fv.refl(s:St):fv s s:=⟨fun _=>rfl,fun _=>rfl⟩
theorem fv.symm {s t:St} (h:fv s t):fv t s:=⟨fun i=>(h.get i).symm,fun i=>(h.cv i).symm⟩
theorem fv.trans {s t u:St} (h:fv s t)(h':fv t u):fv s u:=⟨fun i=>(h.get i).trans (h'.get i),fun i=>(h.cv i).trans (h'.cv i)⟩
theorem fv.ev {s t:St} (h:fv s t)(x:Operand):s.ev x=t.ev x:=by cases x<;>simp only[St.ev,h.get]
theorem fv.lk {s t:St} (h:fv s t)(F:dw)(i:Nat):lk F s.bl i=lk F t.bl i:=by unfold Go.Proofs.YtgpkijnphchkpaaGreat.lk;rw[h.cv]
theorem fv.D {s t:St} (h:fv s t):s.D=t.D:=by funext i;unfold St.D;rw[h.cv]
theorem Rel.same {n:Nat} {w0:World} {S0:Cx} {s t:St} {a:Act} {w:World} (hs:fv s t)(h:Rel n w0 S0 s a w):Rel n w0 S0 t a w:=by
 obtain⟨ν,S,h1,h2,h3,h4,h5,h6,h7,h8,h9,h10⟩:=h;refine⟨ν,S,h1,h2,h3,⟨h4.lt,h4.size,fun id b hb=>?_,fun i j b c fi hi hj=>?_⟩,fun i=>?_,h6,h7,h8,fun i hi hd=>h9 i hi (by rw[hs.D];exact hd),h10⟩
 (·rw[←hs.cv]at hb;rw[←hs.D];exact h4.cv id b hb);(·rw[←hs.cv]at hi hj;exact h4.ne i j b c fi hi hj);·rw[←hs.get,←hs.D];exact h5 i
inductive dB where|skip|done(l:Out)
def St.app(s:St)(d:Option Nat):dB→St|.skip=>s.put d (.bn [])|.done l=>s.fin d l
def dB.rj(d:Option Nat):dB→Bool|.skip=>true|.done (.val _)=>true|.done (.new _ _)=>d.isSome|.done (.store _ _)=>true|_=>false
def dB.slot(d:Option Nat):dB→Option (Nat×PV)|.skip=>d.map (·,.bn [])|.done (.val v)=>d.map (·,v)|.done (.new v _)=>d.map (·,v)|_=>none
def dB.cv(d:Option Nat):dB→Option (Nat×aO)|.done (.new _ b)=>d.map (·,b)|.done (.store i b)=>some (i,b)|_=>none
theorem kf {s:St} {d:Option Nat} {r:dB} (h:r.rj d=true)(i:Nat):(s.app d r).get i=match r.slot d with|some p=>(bif Nat.beq i p.1 then p.2 else s.get i)|none=>s.get i:=by
 (have key: ∀(e:Nat)(v:PV)(bl:List (Nat×aO)),(⟨(e,v)::s.sl,bl⟩:St).get i=bif Nat.beq i e then v else s.get i:=by intro e v bl;simp only[St.get,look];cases Nat.beq i e<;>rfl)
 cases r with|skip=>cases d<;>simp only[St.app,St.put,dB.slot,Option.map_some,Option.map_none];exact key _ _ _|done l=>cases l with|val v=>cases d<;>simp only[St.app,St.fin,St.put,dB.slot,Option.map_some,Option.map_none];exact key _ _ _|new v b=>cases d<;>simp only[St.app,St.fin,dB.slot,Option.map_some,Option.map_none];exact key _ _ _|store j b=>rfl|_=>cases h
theorem kg {s:St} {d:Option Nat} {r:dB} (h:r.rj d=true)(i:Nat):look i (s.app d r).bl=match r.cv d with|some p=>(bif Nat.beq i p.1 then some p.2 else look i s.bl)|none=>look i s.bl:=by
 cases r with|skip=>cases d<;>rfl|done l=>cases l with|val v=>cases d<;>rfl|new v b=>cases d<;>simp only[St.app,St.fin,dB.cv,Option.map_some,Option.map_none,look]|store j b=>simp only[St.app,St.fin,dB.cv,look]|_=>cases h
theorem FG {s t:St} (h:fv s t) {d:Option Nat} {r:dB} (hr:r.rj d=true):fv (s.app d r) (t.app d r):=by
 refine⟨fun i=>?_,fun i=>?_⟩;(·rw[kf hr,kf hr];cases r.slot d<;>simp only[h.get]);·rw[kg hr,kg hr];cases r.cv d<;>simp only[h.cv]
def Dg(p q:Option Nat×dB):Prop:=(∀x y,p.2.slot p.1=some x→q.2.slot q.1=some y→x.1≠y.1)∧ ∀x y,p.2.cv p.1=some x→q.2.cv q.1=some y→x.1≠y.1
theorem du {i j:Nat} (h:i≠j):Nat.beq i j=false:=by cases hb:Nat.beq i j with|false=>rfl|true=>exact absurd (Nat.eq_of_beq_eq_true hb) h
theorem Px {s:St} {p q:Option Nat×dB} (h1:p.2.rj p.1=true)(h2:q.2.rj q.1=true)(h:Dg p q):fv ((s.app p.1 p.2).app q.1 q.2) ((s.app q.1 q.2).app p.1 p.2):=by
 refine⟨fun i=>?_,fun i=>?_⟩;(·rw[kf h2,kf h1,kf h1,kf h2];cases hq:q.2.slot q.1 with|none=>rfl|some y=>cases hp:p.2.slot p.1 with|none=>rfl|some x=>have bW:=h.1 x y hp hq;simp only;cases hb:Nat.beq i y.1 with|false=>rfl|true=>rw[Nat.eq_of_beq_eq_true hb,du bW.symm];rfl)
 ·rw[kg h2,kg h1,kg h1,kg h2];cases hq:q.2.cv q.1 with|none=>rfl|some y=>cases hp:p.2.cv p.1 with|none=>rfl|some x=>have bW:=h.2 x y hp hq;simp only;cases hb:Nat.beq i y.1 with|false=>rfl|true=>rw[Nat.eq_of_beq_eq_true hb,du bW.symm];rfl
end Go.Proofs.YtgpkijnphchkpaaGreat
namespace Go.Proofs.YtgpkijnphchkpaaGreat
variable {dM:Prop} [jN dM]
def ik:List (Option Nat×dB)→(Nat→Bool)→Nat→St→St|[],_,_,s=>s|p::r,D,i,s=>ik r D (i+1) (match D i with|true=>s.app p.1 p.2|false=>s)
theorem s6 {D:Nat→Bool} : ∀ {l:List (Option Nat×dB)} {i:Nat} {s t:St},(∀p,p∈l→p.2.rj p.1=true)→fv s t→fv (ik l D i s) (ik l D i t)|[],_,_,_,_,h=>h|p::r,i,s,t,hl,h=>by simp only[ik];refine s6 (fun q hq=>hl q (List.mem_cons_of_mem _ hq)) ?_;cases D i with|true=>exact FG h (hl p (List.mem_cons_self ..))|false=>exact h
theorem Dh {D:Nat→Bool} {q:Option Nat×dB} (hq:q.2.rj q.1=true): ∀ {l:List (Option Nat×dB)} {i:Nat} {s:St},(∀p,p∈l→p.2.rj p.1=true)→(∀(k:Nat)p,l[k]?=some p→D (i+k)=true→Dg q p)→fv (ik l D i (s.app q.1 q.2)) ((ik l D i s).app q.1 q.2)|[],_,s,_,_=>fv.refl _|p::r,i,s,hl,hn=>by simp only[ik];have hn': ∀(k:Nat)x,r[k]?=some x→D (i+1+k)=true→Dg q x:=fun k x hx hD=>hn (k+1) x (by simpa using hx) (by rw[show i+(k+1)=i+1+k from by omega];exact hD);cases hD:D i with|false=>exact Dh hq (fun x hx=>hl x (List.mem_cons_of_mem _ hx)) hn'|true=>refine fv.trans (s6 (fun x hx=>hl x (List.mem_cons_of_mem _ hx)) (Px hq (hl p (List.mem_cons_self ..)) (hn 0 p rfl hD))) ?_;exact Dh hq (fun x hx=>hl x (List.mem_cons_of_mem _ hx)) hn'
theorem Ky {D D':Nat→Bool} : ∀ {l:List (Option Nat×dB)} {i:Nat} {s:St},(∀j,i≤j→D j=D' j)→ik l D i s=ik l D' i s|[],_,_,_=>rfl|p::r,i,s,h=>by simp only[ik];rw[h i (Nat.le_refl _),Ky (l:=r) (fun j hj=>h j (by omega))]
theorem yD {D D':Nat→Bool} {j:Nat} (hD:D j=false)(Um:D' j=true)(he: ∀m,m≠j→D m=D' m): ∀ {l:List (Option Nat×dB)} {i:Nat} {s:St} {p:Option Nat×dB},(∀p,p∈l→p.2.rj p.1=true)→i≤j→l[j-i]?=some p→(∀(k:Nat)q,j<i+k→l[k]?=some q→D (i+k)=true→Dg p q)→fv (ik l D' i s) ((ik l D i s).app p.1 p.2)|[],i,s,p,_,_,hp,_=>(by simp at hp)|q::r,i,s,p,hl,fi,hp,hn=>by simp only[ik];by_cases hi:i=j;(·subst hi;rw[Nat.sub_self]at hp;simp only[List.getElem?_cons_zero,Option.some.injEq]at hp;subst hp;rw[hD,Um];simp only;rw[←Ky (D:=D) (D':=D') (fun m hm=>he m (by omega))];exact Dh (hl q (List.mem_cons_self ..)) (fun x hx=>hl x (List.mem_cons_of_mem _ hx)) (fun k x hx U0=>hn (k+1) x (by omega) (by simpa using hx) (by rw[show i+(k+1)=i+1+k from by omega];exact U0)));·rw[←he i hi];(have:j-i=(j-(i+1))+1:=by omega);rw[this,List.getElem?_cons_succ]at hp;exact yD hD Um he (fun x hx=>hl x (List.mem_cons_of_mem _ hx)) (by omega) hp (fun k x hk hx U0=>hn (k+1) x (by omega) (by simpa using hx) (by rw[show i+(k+1)=i+1+k from by omega];exact U0))
theorem Kz {D D':Nat→Bool} {t:Nat} : ∀ {l:List (Option Nat×dB)} {i:Nat} {s u:St},(∀p,p∈l→p.2.rj p.1=true)→(∀(k:Nat)p,l[k]?=some p→D (i+k)≠D' (i+k)→p.1≠some t)→s.get t=u.get t→(ik l D i s).get t=(ik l D' i u).get t|[],_,_,_,_,_,h=>h|p::r,i,s,u,hl,hn,h=>by simp only[ik];have hp:=hl p (List.mem_cons_self ..);(have ao0:p.1≠some t→ ∀v:St,(v.app p.1 p.2).get t=v.get t:=by intro bW v;rw[kf hp];cases hs:p.2.slot p.1 with|none=>rfl|some x=>(have hx:p.1=some x.1:=by obtain⟨d,r⟩:=p;cases r with|skip=>cases d<;>simp[dB.slot]at hs;rw[←hs]|done l=>cases l<;>cases d<;>simp[dB.slot]at hs<;>rw[←hs]);(have:t≠x.1:=by rintro rfl;exact bW hx);simp only[du this,cond_false]);refine Kz (fun q hq=>hl q (List.mem_cons_of_mem _ hq)) (fun k q hq bW=>hn (k+1) q (by simpa using hq) (by rw[show i+(k+1)=i+1+k from by omega];exact bW)) ?_;cases hD:D i with|true=>(cases Um:D' i with|true=>simp only;rw[kf hp,kf hp,h]|false=>have:=hn 0 p rfl (by simp[hD,Um]);simp only;rw[ao0 this,h])|false=>cases Um:D' i with|true=>have:=hn 0 p rfl (by simp[hD,Um]);simp only;rw[ao0 this,h]|false=>exact h
theorem Di {D D':Nat→Bool} {t:Nat} : ∀ {l:List (Option Nat×dB)} {i:Nat} {s u:St},(∀p,p∈l→p.2.rj p.1=true)→(∀(k:Nat)p,l[k]?=some p→D (i+k)≠D' (i+k)→ ∀x,p.2.cv p.1=some x→x.1≠t)→look t s.bl=look t u.bl→look t (ik l D i s).bl=look t (ik l D' i u).bl|[],_,_,_,_,_,h=>h|p::r,i,s,u,hl,hn,h=>by simp only[ik];have hp:=hl p (List.mem_cons_self ..);(have AH:(∀x,p.2.cv p.1=some x→x.1≠t)→ ∀v:St,look t (v.app p.1 p.2).bl=look t v.bl:=by intro bW v;rw[kg hp];cases hs:p.2.cv p.1 with|none=>rfl|some x=>simp only[du (bW x hs).symm,cond_false]);refine Di (fun q hq=>hl q (List.mem_cons_of_mem _ hq)) (fun k q hq bW=>hn (k+1) q (by simpa using hq) (by rw[show i+(k+1)=i+1+k from by omega];exact bW)) ?_;cases hD:D i with|true=>(cases Um:D' i with|true=>simp only;rw[kg hp,kg hp,h]|false=>have:=hn 0 p rfl (by simp[hD,Um]);simp only;rw[AH this,h])|false=>cases Um:D' i with|true=>have:=hn 0 p rfl (by simp[hD,Um]);simp only;rw[AH this,h]|false=>exact h
end Go.Proofs.YtgpkijnphchkpaaGreat
namespace Go.Proofs.YtgpkijnphchkpaaGreat
variable {dM:Prop} [jN dM]
theorem Py {P:Program} {o:Oper} {a:Act} {w:World} {C:Prop} {Q:Exit→Act→World→Prop} (hQ: ∀e a w,Q e a w→C)(hl:LetsOut Q→C)(h:o.wp P a w (fun _ _=>C) Q):C:=by
 unfold Oper.wp at h;generalize(execOp a.eval o).run P w=r at h;cases r with|ok n w'=>cases n<;>simp only[Oper.upon]at h;(all_goals first|exact h|(obtain⟨e,HX,fr,hR,_⟩:=h [];cases e with|returned v=>exact hR|panicked c=>exact hQ _ _ _ hR|outgrown=>exact hl hR)|(obtain⟨v,HX,hR,_⟩:=h default [];exact hR))|halt x w'=>cases x<;>simp only[Oper.upon]at h;all_goals exact hQ _ _ _ h
end Go.Proofs.YtgpkijnphchkpaaGreat
namespace Go.Proofs.YtgpkijnphchkpaaGreat
variable {dM:Prop} [jN dM]
def gO(E:Env):Out→Out→Prop|.cm p o,l=>p∧gO E o l|.uf T p f,l=> ∃x:T.den,p x∧gO E (f x) l|.call f xs T g,l=> ∃r:T.den,PC E f xs T r∧T.ok r∧gO E (g r) l|.lE _ _ _ _,_=>False|.fail _,_=>False|.val v,l=>l= .val v|.new v b,l=>l= .new v b|.store i b,l=>l= .store i b|.append i j b,l=>l= .append i j b|.cV ids p bl,l=>l= .cV ids p bl|.dY ks v,l=>l= .dY ks v|.im _ _ _ _ _ _ _,_=>False|.upd _ _ _,_=>False|.fI _ _ _,_=>False|.imp _ _,_=>False|.both _ _,_=>False|.ot _ _ _,_=>False|.r6 _ _,_=>False|.j5 f args bl ids fl used d,l=> ∃p bl',HC E f args bl p bl'∧xP bl bl' fl used d p=true∧Uc p∧wD bl'∧l= .cV ids p bl'
def Out.pl:Out→Prop|.cm _ o=>o.pl|.uf _ _ f=> ∀x,(f x).pl|.call _ _ _ g=> ∀r,(g r).pl|.lE _ _ _ _=>False|.im _ _ _ _ _ _ _=>False|.upd _ _ _=>False|.fI _ _ _=>False|.imp _ _=>False|.both _ _=>False|.ot _ _ _=>False|.r6 _ _=>False|_=>True
theorem IQ {E:Env} : ∀(o:Out)(K:Out→Prop),o.pl→bo E o K→bo E o (fun l=>K l∧gO E o l):=by
 intro o;induction o with|cm p o ih=>intro K hp h;exact⟨h.1,bc (fun l hl=>⟨hl.1,h.1,hl.2⟩) o (ih K hp h.2)⟩|uf T p f ih=>intro K hp⟨x,h1,h2⟩;exact⟨x,h1,bc (fun l hl=>⟨hl.1,x,h1,hl.2⟩) (f x) (ih x K (hp x) h2)⟩|call f xs T g ih=>intro K hp⟨r,h1,h2⟩;exact⟨r,h1,fun hr=>bc (fun l hl=>⟨hl.1,r,h1,hr,hl.2⟩) (g r) (ih r K (hp r) (h2 hr))⟩|fail m=>intro K _ h;exact h|val v=>intro K _ h;exact⟨h,rfl⟩|new v b=>intro K _ h;exact⟨h,rfl⟩|store i b=>intro K _ h;exact⟨h,rfl⟩|append i j b=>intro K _ h;exact⟨h,rfl⟩|cV ids p bl=>intro K _ h;exact⟨h,rfl⟩|dY ks v=>intro K _ h;exact⟨h,rfl⟩|j5 f args bl ids fl used d=>intro K _⟨p,bl',h1,h2,h3⟩;exact⟨p,bl',h1,h2,fun a b=>⟨h3 a b,p,bl',h1,h2,a,b,rfl⟩⟩|upd i b v=>intro K hp;exact hp.elim|fI ks i b=>intro K hp;exact hp.elim|lE f xs T g ih=>intro K hp;exact hp.elim|im f args bl ids fl used d=>intro K hp;exact hp.elim|imp p o=>intro K hp;exact hp.elim|both a b=>intro K hp;exact hp.elim|ot T p f=>intro K hp;exact hp.elim|r6 p f=>intro K hp;exact hp.elim
theorem gO.bj2 {E:Env} : ∀ {o l:Out},gO E o l→bo E o (fun l'=>l'=l):=by
 intro o;induction o with|cm p o ih=>intro l h;exact⟨h.1,ih h.2⟩|uf T p f ih=>intro l⟨x,h1,h2⟩;exact⟨x,h1,ih x h2⟩|call f xs T g ih=>intro l⟨r,h1,_,h3⟩;exact⟨r,h1,fun _=>ih r h3⟩|fail m=>intro l h;exact h|j5 f args bl ids fl used d=>intro l⟨p,bl',h1,h2,h3,h4,e⟩;exact⟨p,bl',h1,h2,fun _ _=>e.symm⟩|upd i b v=>intro l h;exact h.elim|fI ks i b=>intro l h;exact h.elim|lE f xs T g ih=>intro l h;exact h.elim|im f args bl ids fl used d=>intro l h;exact h.elim|imp p o=>intro l h;exact h.elim|both a b=>intro l h;exact h.elim|ot T p f=>intro l h;exact h.elim|r6 p f=>intro l h;exact h.elim|_=>intro l h;exact h.symm
end Go.Proofs.YtgpkijnphchkpaaGreat
namespace Go.Proofs.YtgpkijnphchkpaaGreat
variable {dM:Prop} [jN dM]
variable {E:Env} {w0:World} {S0:Cx}
theorem yE(hE:aG E) {n:Nat} {s:St} {a:Act} {w:World} {F:dw} {o:Oper} (h:Rel n w0 S0 s a w)(ho:bG n o=true) {K:St→Prop} {C:Prop} (hp:(aj E F s o).pl)(ab:bo E (aj E F s o) (fun l=>K (s.fin o.dst l)))(hC: ∀l a' w',gO E (aj E F s o) l→K (s.fin o.dst l)→Rel n w0 S0 (s.fin o.dst l) a' w'→C):C:=by
 obtain⟨ν,S,hf⟩:=h.full;have h1:=IQ _ _ hp ab;have h2:=oV (Q:=fun _ _ _=>False) (K:=fun s'=> ∃l,s'=s.fin o.dst l∧gO E (aj E F s o) l∧K s') hE hf ho (bc (fun l hl=>⟨l,rfl,hl.2,hl.1⟩) _ h1)
 refine Py (Q:=fun _ _ _=>False) (fun _ _ _ h=>h.elim) (fun⟨_,_,h⟩=>h.elim) (Oper.wp_mono (fun a' w'⟨s',⟨l,e,hc,hk⟩,hr⟩=>?_) h2);subst e;exact hC l a' w' hc hk hr
end Go.Proofs.YtgpkijnphchkpaaGreat
