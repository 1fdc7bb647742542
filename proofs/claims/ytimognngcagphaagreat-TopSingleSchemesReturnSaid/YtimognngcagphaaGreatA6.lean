/-
  The list of outcomes. Nothing here is trusted; no condition.
-/
import Derived.Test.YtimognngcagphaaGreatA5
set_option linter.all false
namespace Go.Proofs.YtimognngcagphaaGreat
section
variable {en:Prop} [lj en]
section
variable {F:dI} {b1 b2:List (Nat×aQ)}
theorem Kh(h: ∀id,lk F b1 id=lk F b2 id)(id off:Nat):BY F b1 id off=BY F b2 id off:=by unfold BY;rw[h]
theorem C2(h: ∀id,lk F b1 id=lk F b2 id)(t:Ty)(p:PV):jI F b1 t p=jI F b2 t p:=by unfold jI;cases p<;>simp only[h]
theorem C3(h: ∀id,lk F b1 id=lk F b2 id)(k v:Ty)(p:PV):oD F b1 k v p=oD F b2 k v p:=by unfold oD;cases p<;>simp only[h]
theorem Ki(h: ∀id,lk F b1 id=lk F b2 id): ∀(T:Ty)(cs:List PV),aR T=0→pk F b1 T cs=pk F b2 T cs:=by
 intro T;induction T with|own t _=>intro cs ho;simp[aR]at ho|pair a b jE iP=>intro cs ho;simp only[aR]at ho;simp only[pk];rw[jE cs v6];(cases pk F b2 a cs with|none=>rfl|some x=>simp only;rw[iP _ v6])|st t ih=>intro cs ho;simp only[aR]at ho;simp only[pk];exact ih cs ho|sl t _=>intro cs ho;cases cs<;>simp only[pk,C2 h]|mp a b _ _=>intro cs ho;cases cs<;>simp only[pk,C3 h]|ptr t ih=>intro cs ho;simp only[aR]at ho;(cases cs with|nil=>rfl|cons c r=>cases c<;>simp only[pk,Kh h];split;(·rw[ih _ ho]);·rfl)|iO f t ih=>intro cs ho;simp only[aR]at ho;(cases cs with|nil=>rfl|cons c r=>cases c<;>simp only[pk];rw[ih _ ho])|_=>intro cs ho;cases cs<;>rfl
theorem oY(h: ∀id,lk F b1 id=lk F b2 id)(T:Ty)(p:PV)(ho:aR T=0):exp F b1 T p=exp F b2 T p:=by
 unfold exp;cases T<;>simp only<;>first|rw[Ki h _ _ ho]|(cases p<;>simp only;rw[Ki h _ _ (by simpa[aR]using ho)])
theorem xh(h: ∀id,lk F b1 id=lk F b2 id): ∀(Ts:List Ty)(ps:List PV),(∀T,T∈Ts→aR T=0)→iD F b1 Ts ps=iD F b2 Ts ps|[],[],_=>rfl|[],_::_,_=>rfl|_::_,[],_=>rfl|T::Ts,p::ps,ho=>by simp only[iD];rw[oY h T p (ho T (y8 ..)),xh h Ts ps (fun U hU=>ho U (y7 _ hU))]
theorem Kj {E:Env} (hE:aI E)(h: ∀id,lk F b1 id=lk F b2 id)(t:Nat)(neg:Bool)(x y:PV):rC E F b1 t neg x y=rC E F b2 t neg x y:=by
 unfold rC;cases ht:E.ty t with|none=>rfl|some T=>have ho:=(hE.facts ht).own;simp only[oY h T _ ho]
theorem NG {E:Env} (hE:aI E)(h: ∀id,lk F b1 id=lk F b2 id)(op:BinOp)(t:Nat)(x y:PV):BZ E F b1 op t x y=BZ E F b2 op t x y:=by unfold BZ;simp only[Kj hE h]
theorem NH {E:Env} (h: ∀id,lk F b1 id=lk F b2 id)(t:Nat)(p:PV):EN E F b1 t p=EN E F b2 t p:=by unfold EN;simp only[h]
theorem HZ(h: ∀id,lk F b1 id=lk F b2 id)(ar:Bool)(T:Ty)(p:PV)(lo hi:Option Int):pW F b1 ar T p lo hi=pW F b2 ar T p lo hi:=by unfold pW;simp only[h]
theorem H0 {E:Env} (h: ∀id,lk F b1 id=lk F b2 id)(t:Nat)(p:PV)(i:Int):om E F b1 t p i=om E F b2 t p i:=by unfold om;simp only[h]
theorem Kk {E:Env} (h: ∀id,lk F b1 id=lk F b2 id)(t:Nat)(p:PV):nI E F b1 t p=nI E F b2 t p:=by unfold nI;simp only[h]
theorem Km {E:Env} (h: ∀id,lk F b1 id=lk F b2 id)(t1 t:Nat)(p:PV):uq E F b1 t1 t p=uq E F b2 t1 t p:=by unfold uq;simp only[C2 h]
theorem xj(h: ∀id,lk F b1 id=lk F b2 id)(T:Ty)(ho:aR T=0): ∀(ps:List (Nat×PV))(i:Nat),pY F b1 T i ps=pY F b2 T i ps|[],_=>rfl|p::r,i=>by simp only[pY,oY h T _ ho,xj h T ho r (i+1)]
theorem E6 {E:Env} (hE:aI E)(h: ∀id,lk F b1 id=lk F b2 id)(t:Nat)(p q:PV)(ok:Bool):qb E F b1 t p q ok=qb E F b2 t p q ok:=by
 unfold qb;cases hT:E.ty t with|none=>rfl|some U=>(cases U<;>try rfl);rename_i A B;obtain⟨k',ve,hu,hTA,hTB,TE,Jn,ZQ,Po⟩:=Cz hE hT;cases hk:E.mapKey t with|none=>rfl|some kt=>simp only[C3 h,oY h A _ ZQ]
end
end
section
variable {en:Prop} [lj en]
def kK(o:Oper):Option (List Operand):=match o.op with|.move x=>some [x]|.assign x=>some [x]|.nilCheck x=>some [x]|.pick c a b=>some [c,a,b]|.alloc _=>some []|.box _ x=>some [x]|.build _ parts=>some (parts.toList.map (·.2))|.buildSlice _ _ parts=>some (parts.toList.map (·.2))|.load _ x=>some [x]|.binOp _ _ x y _=>some [x,y]|.unOp _ _ x=>some [x]|.convert _ _ x=>some [x]|.slice _ x lo hi mx=>some (x::(lo.toList++(hi.toList++mx.toList)))|.fieldAddr _ x _=>some [x]|.field _ x _=>some [x]|.indexAddr _ x i=>some [x,i]|.index _ x i=>some [x,i]|.extract x _=>some [x]|.lookup _ x y _=>some [x,y]|.call c=>(match c.callee with|.value g=>some (g::c.args.toList)|.builtin .len=>some c.args.toList|.builtin .cap=>some c.args.toList|.builtin .min=>some c.args.toList|.builtin .max=>some c.args.toList|_=>none)|_=>none
theorem fQ {s t:St} : ∀ {xs:List Operand},(∀x,x∈xs→s.ev x=t.ev x)→cL s xs=cL t xs|[],_=>rfl|x::xs,h=>by simp only[cL];rw[h x (y8 ..),fQ (fun y hy=>h y (y7 _ hy))]
theorem iU {s t:St} : ∀ {xs:List (Nat×Operand)},(∀x,x∈xs.map (·.2)→s.ev x=t.ev x)→dJ s xs=dJ t xs|[],_=>rfl|x::xs,h=>by simp only[dJ];rw[h x.2 (by simp),iU (xs:=xs) (fun y hy=>h y (by rw[List.map_cons];exact y7 _ hy))]
theorem C4 {E:Env} {F:dI} (he:F.e=false)(op:BinOp)(t:Nat)(a b:PV):rD E F op t a b=none:=by
 (have h1: ∀neg,pU E F t neg a b=none:=by intro neg;unfold pU;rw[he];cases b<;>rfl);cases op<;>first|rfl|exact h1 _
theorem Kn {E:Env} (hE:aI E) {F:dI} (he:F.e=false) {s t:St} {o:Oper} {rs:List Operand} (ho:kK o=some rs)(hs: ∀x,x∈rs→s.ev x=t.ev x)(hb: ∀id,lk F s.bl id=lk F t.bl id)(hd: ∀d,o.dst=some d→look d s.bl=look d t.bl):aq E F s o=aq E F t o:=by
 obtain⟨dst,op,ty,pos,af,g⟩:=o;unfold kK at ho;unfold aq;cases op<;>simp only[y5,reduceCtorEq]at ho;(all_goals try subst ho);(case move x=>simp only[hs x (by simp)])
 (case nilCheck x=>simp only[hs x (by simp)]);(case assign x=>simp only[hs x (by simp)]);(case pick c a b=>simp only[hs c (by simp),hs a (by simp),hs b (by simp)])
 (case binOp op t x y u=>simp only[hs x (by simp),hs y (by simp),C4 he,NG hE hb]);(case load u x=>simp only[hs x (by simp),Kk hb]);(case unOp u v x=>simp only[hs x (by simp)])
 (case convert u v x=>simp only[hs x (by simp),Km hb]);(case fieldAddr u x f=>simp only[hs x (by simp)]);(case field u x f=>simp only[hs x (by simp)]);(case extract x i=>simp only[hs x (by simp)])
 (case indexAddr u x i=>simp only[hs x (by simp),hs i (by simp),H0 hb]);(case index u x i=>simp only[hs x (by simp),hs i (by simp)]);(case lookup u x y ok=>simp only[hs x (by simp),hs y (by simp),E6 hE hb])
 (case alloc u=>dsimp only;cases dst with|none=>cases E.ty u<;>rfl|some d=>cases E.ty u with|none=>rfl|some U=>simp only[hd d rfl]);(case box u x=>dsimp only;cases dst with|none=>simp only[hs x (by simp)]|some d=>rw[hs x (by simp)];cases(t.ev x).cells with|none=>rfl|some cs=>simp only[hd d rfl])
 (case build u parts=>simp only[iU hs]);(case buildSlice u n parts=>simp only[iU hs];cases dst with|none=>(cases hu:E.ty u with|none=>rfl|some U=>cases U<;>rfl)|some d=>cases hu:E.ty u with|none=>rfl|some U=>have hU:=(hE.facts hu).own;(cases U<;>try rfl);rename_i V;simp only[aR]at hU;simp only[hd d rfl,xj hb V hU])
 (case slice u x lo hi mx=>(have hbd: ∀y:Option Operand,(∀z,z∈y.toList→s.ev z=t.ev z)→bound s y=bound t y:=by intro y hy;cases y with|none=>rfl|some z=>simp only[bound];rw[hy z (by simp)]);have h1:=hs x (by simp);have h2:=hbd lo (fun z hz=>hs z (by simp[hz]));have h3:=hbd hi (fun z hz=>hs z (by simp[hz]));simp only[h1,h2,h3,HZ hb];cases mx with|none=>rfl|some m=>simp only[hs m (by simp)])
 case call c=>obtain⟨callee,args,Jq⟩:=c;(have hc: ∀(f:Nat)(ps:List PV),gN E F s dst f ps=gN E F t dst f ps:=by intro f ps;unfold gN;cases hf:E.fn f with|none=>simp only[he];cases E.cW f<;>rfl|some p=>obtain⟨As,T⟩:=p;have Nr:=hE.fn f As T hf;unfold Ht at Nr;simp only[z8,List.all_eq_true]at Nr;dsimp only;rw[xh hb As _ (fun A hA=>y6 (Nr.2 A hA))]);cases callee with|value g=>simp only[y5]at ho;subst ho;have h1:=hs g (by simp);have h2:=fQ (xs:=args.toList) (fun x hx=>hs x (y7 _ hx));dsimp only;rw[h1,h2];(cases t.ev g with|fn f ec=>exact hc f _|zW f ps=>exact hc f _|iv T x=>(cases T<;>first|rfl|exact hc _ _)|_=>rfl)|builtin b=>cases b<;>simp only[y5,reduceCtorEq]at ho;(all_goals subst ho;have h2:=fQ (xs:=args.toList) hs;dsimp only;rw[h2];try simp only[NH hb])|_=>simp at ho
def bx(o:Oper):Option (List Operand):=match o.op with|.move x=>some [x]|.assign x=>some [x]|.nilCheck x=>some [x]|.pick c a b=>some [c,a,b]|.build _ parts=>some (parts.toList.map (·.2))|.binOp op _ x y _=>(match op with|.eql=>none|.neq=>none|_=>some [x,y])|.unOp _ _ x=>some [x]|.fieldAddr _ x _=>some [x]|.field _ x _=>some [x]|.index _ x i=>some [x,i]|.extract x _=>some [x]|.call c=>(match c.callee with|.builtin .min=>some c.args.toList|.builtin .max=>some c.args.toList|_=>none)|_=>none
theorem sh {E:Env} {F:dI} {s t:St} {o:Oper} {rs:List Operand} (ho:bx o=some rs)(hs: ∀x,x∈rs→s.ev x=t.ev x):aq E F s o=aq E F t o:=by
 obtain⟨dst,op,ty,pos,af,g⟩:=o;unfold bx at ho;unfold aq;cases op<;>simp only[y5,reduceCtorEq]at ho;(case move x=>subst ho;simp only[hs x (by simp)])
 (case nilCheck x=>subst ho;simp only[hs x (by simp)]);(case assign x=>subst ho;simp only[hs x (by simp)]);(case pick c a b=>subst ho;simp only[hs c (by simp),hs a (by simp),hs b (by simp)])
 (case build u parts=>subst ho;simp only[iU hs]);(case binOp op u x y v=>(have hxy: ∀TG,some [x,y]=some TG→s.ev x=t.ev x∧s.ev y=t.ev y∨TG≠rs:=by intro TG h;by_cases e:TG=rs;(·injection h with h;subst h;subst e;exact .inl ⟨hs x (by simp),hs y (by simp)⟩);·exact .inr e);cases op<;>simp only[y5,reduceCtorEq]at ho;all_goals subst ho;simp only[hs x (by simp),hs y (by simp)];simp only[rD];unfold BZ;generalize t.ev x=a;generalize t.ev y=b;(try rfl);all_goals(cases a<;>first|rfl|(cases b<;>first|rfl|(rename_i T1 x1 T2 x2;cases T1<;>cases T2<;>rfl))))
 (case unOp u v x=>subst ho;simp only[hs x (by simp)]);(case fieldAddr u x f=>subst ho;simp only[hs x (by simp)]);(case field u x f=>subst ho;simp only[hs x (by simp)])
 (case index u x i=>subst ho;simp only[hs x (by simp),hs i (by simp)]);(case extract x i=>subst ho;simp only[hs x (by simp)]);case call c=>obtain⟨callee,args,Jq⟩:=c;cases callee with|builtin b=>cases b<;>simp only[y5,reduceCtorEq]at ho;(all_goals subst ho;have h2:=fQ (xs:=args.toList) hs;dsimp only;rw[h2])|_=>simp at ho
end
section
variable {en:Prop} [lj en]
structure gJ(s t:St):Prop where
 get: ∀i,s.get i=t.get i
 cD: ∀i,look i s.bl=look i t.bl
theorem gJ.refl(s:St):gJ s s:=⟨fun _=>rfl,fun _=>rfl⟩
theorem gJ.symm {s t:St} (h:gJ s t):gJ t s:=⟨fun i=>(h.get i).symm,fun i=>(h.cD i).symm⟩
theorem gJ.trans {s t u:St} (h:gJ s t)(h':gJ t u):gJ s u:=⟨fun i=>(h.get i).trans (h'.get i),fun i=>(h.cD i).trans (h'.cD i)⟩
theorem gJ.ev {s t:St} (h:gJ s t)(x:Operand):s.ev x=t.ev x:=by cases x<;>simp only[St.ev,h.get]
theorem gJ.lk {s t:St} (h:gJ s t)(F:dI)(i:Nat):lk F s.bl i=lk F t.bl i:=by unfold Go.Proofs.YtimognngcagphaaGreat.lk;rw[h.cD]
theorem gJ.D {s t:St} (h:gJ s t):s.D=t.D:=by funext i;unfold St.D;rw[h.cD]
theorem Rel.same {n:Nat} {w0:World} {S0:Cx} {s t:St} {a:Act} {w:World} (hs:gJ s t)(h:Rel n w0 S0 s a w):Rel n w0 S0 t a w:=by
 obtain⟨ν,S,h1,h2,h3,h4,h5,h6,h7,h8,h9,h10⟩:=h;refine⟨ν,S,h1,h2,h3,⟨h4.lt,h4.size,fun id b hb=>?_,fun i j b c eQ hi hj=>?_⟩,fun i=>?_,h6,h7,h8,fun i hi hd=>h9 i hi (by rw[hs.D];exact hd),h10⟩
 (·rw[←hs.cD]at hb;rw[←hs.D];exact h4.cD id b hb);(·rw[←hs.cD]at hi hj;exact h4.ne i j b c eQ hi hj);·rw[←hs.get,←hs.D];exact h5 i
inductive dX where|skip|done(l:Out)
def St.app(s:St)(d:Option Nat):dX→St|.skip=>s.put d (.bG [])|.done l=>s.fin d l
def dX.uS(d:Option Nat):dX→Bool|.skip=>true|.done (.val _)=>true|.done (.new _ _)=>d.isSome|.done (.store _ _)=>true|_=>false
def dX.slot(d:Option Nat):dX→Option (Nat×PV)|.skip=>d.map (·,.bG [])|.done (.val v)=>d.map (·,v)|.done (.new v _)=>d.map (·,v)|_=>none
def dX.cD(d:Option Nat):dX→Option (Nat×aQ)|.done (.new _ b)=>d.map (·,b)|.done (.store i b)=>some (i,b)|_=>none
theorem ma {s:St} {d:Option Nat} {r:dX} (h:r.uS d=true)(i:Nat):(s.app d r).get i=match r.slot d with|some p=>(bif Nat.beq i p.1 then p.2 else s.get i)|none=>s.get i:=by
 (have key: ∀(e:Nat)(v:PV)(bl:List (Nat×aQ)),(⟨(e,v)::s.sl,bl⟩:St).get i=bif Nat.beq i e then v else s.get i:=by intro e v bl;simp only[St.get,look];cases Nat.beq i e<;>rfl)
 cases r with|skip=>cases d<;>simp only[St.app,St.put,dX.slot,Option.map_some,Option.map_none];exact key _ _ _|done l=>cases l with|val v=>cases d<;>simp only[St.app,St.fin,St.put,dX.slot,Option.map_some,Option.map_none];exact key _ _ _|new v b=>cases d<;>simp only[St.app,St.fin,dX.slot,Option.map_some,Option.map_none];exact key _ _ _|store j b=>rfl|_=>cases h
theorem mc {s:St} {d:Option Nat} {r:dX} (h:r.uS d=true)(i:Nat):look i (s.app d r).bl=match r.cD d with|some p=>(bif Nat.beq i p.1 then some p.2 else look i s.bl)|none=>look i s.bl:=by
 cases r with|skip=>cases d<;>rfl|done l=>cases l with|val v=>cases d<;>rfl|new v b=>cases d<;>simp only[St.app,St.fin,dX.cD,Option.map_some,Option.map_none,look]|store j b=>simp only[St.app,St.fin,dX.cD,look]|_=>cases h
theorem Ko {s t:St} (h:gJ s t) {d:Option Nat} {r:dX} (hr:r.uS d=true):gJ (s.app d r) (t.app d r):=by
 refine⟨fun i=>?_,fun i=>?_⟩;(·rw[ma hr,ma hr];cases r.slot d<;>simp only[h.get]);·rw[mc hr,mc hr];cases r.cD d<;>simp only[h.cD]
def H2(p q:Option Nat×dX):Prop:=(∀x y,p.2.slot p.1=some x→q.2.slot q.1=some y→x.1≠y.1)∧ ∀x y,p.2.cD p.1=some x→q.2.cD q.1=some y→x.1≠y.1
theorem cT {i j:Nat} (h:i≠j):Nat.beq i j=false:=by cases hb:Nat.beq i j with|false=>rfl|true=>exact absurd (y6 hb) h
theorem U0 {s:St} {p q:Option Nat×dX} (h1:p.2.uS p.1=true)(h2:q.2.uS q.1=true)(h:H2 p q):gJ ((s.app p.1 p.2).app q.1 q.2) ((s.app q.1 q.2).app p.1 p.2):=by
 refine⟨fun i=>?_,fun i=>?_⟩;(·rw[ma h2,ma h1,ma h1,ma h2];cases hq:q.2.slot q.1 with|none=>rfl|some y=>cases hp:p.2.slot p.1 with|none=>rfl|some x=>have bS:=h.1 x y hp hq;simp only;cases hb:Nat.beq i y.1 with|false=>rfl|true=>rw[y6 hb,cT bS.symm];rfl)
 ·rw[mc h2,mc h1,mc h1,mc h2];cases hq:q.2.cD q.1 with|none=>rfl|some y=>cases hp:p.2.cD p.1 with|none=>rfl|some x=>have bS:=h.2 x y hp hq;simp only;cases hb:Nat.beq i y.1 with|false=>rfl|true=>rw[y6 hb,cT bS.symm];rfl
end
section
variable {en:Prop} [lj en]
def jH:List (Option Nat×dX)→(Nat→Bool)→Nat→St→St|[],_,_,s=>s|p::r,D,i,s=>jH r D (i+1) (match D i with|true=>s.app p.1 p.2|false=>s)
theorem xk {D:Nat→Bool} : ∀ {l:List (Option Nat×dX)} {i:Nat} {s t:St},(∀p,p∈l→p.2.uS p.1=true)→gJ s t→gJ (jH l D i s) (jH l D i t)|[],_,_,_,_,h=>h|p::r,i,s,t,hl,h=>by simp only[jH];refine xk (fun q hq=>hl q (y7 _ hq)) ?_;cases D i with|true=>exact Ko h (hl p (y8 ..))|false=>exact h
theorem H3 {D:Nat→Bool} {q:Option Nat×dX} (hq:q.2.uS q.1=true): ∀ {l:List (Option Nat×dX)} {i:Nat} {s:St},(∀p,p∈l→p.2.uS p.1=true)→(∀(k:Nat)p,l[k]?=some p→D (i+k)=true→H2 q p)→gJ (jH l D i (s.app q.1 q.2)) ((jH l D i s).app q.1 q.2)|[],_,s,_,_=>gJ.refl _|p::r,i,s,hl,hn=>by simp only[jH];have hn': ∀(k:Nat)x,r[k]?=some x→D (i+1+k)=true→H2 q x:=fun k x hx hD=>hn (k+1) x (by simpa using hx) (by rw[show i+(k+1)=i+1+k from by omega];exact hD);cases hD:D i with|false=>exact H3 hq (fun x hx=>hl x (y7 _ hx)) hn'|true=>refine gJ.trans (xk (fun x hx=>hl x (y7 _ hx)) (U0 hq (hl p (y8 ..)) (hn 0 p rfl hD))) ?_;exact H3 hq (fun x hx=>hl x (y7 _ hx)) hn'
theorem PM {D D':Nat→Bool} : ∀ {l:List (Option Nat×dX)} {i:Nat} {s:St},(∀j,i≤j→D j=D' j)→jH l D i s=jH l D' i s|[],_,_,_=>rfl|p::r,i,s,h=>by simp only[jH];rw[h i (x8),PM (l:=r) (fun j hj=>h j v6)]
theorem C5 {D D':Nat→Bool} {j:Nat} (hD:D j=false)(ZU:D' j=true)(he: ∀m,m≠j→D m=D' m): ∀ {l:List (Option Nat×dX)} {i:Nat} {s:St} {p:Option Nat×dX},(∀p,p∈l→p.2.uS p.1=true)→i≤j→l[j-i]?=some p→(∀(k:Nat)q,j<i+k→l[k]?=some q→D (i+k)=true→H2 p q)→gJ (jH l D' i s) ((jH l D i s).app p.1 p.2)|[],i,s,p,_,_,hp,_=>(by simp at hp)|q::r,i,s,p,hl,eQ,hp,hn=>by simp only[jH];by_cases hi:i=j;(·subst hi;rw[Nat.sub_self]at hp;simp only[List.getElem?_cons_zero,y5]at hp;subst hp;rw[hD,ZU];simp only;rw[←PM (D:=D) (D':=D') (fun m hm=>he m v6)];exact H3 (hl q (y8 ..)) (fun x hx=>hl x (y7 _ hx)) (fun k x hx hDk=>hn (k+1) x v6 (by simpa using hx) (by rw[show i+(k+1)=i+1+k from by omega];exact hDk)));·rw[←he i hi];(have:j-i=(j-(i+1))+1:=by omega);rw[this,List.getElem?_cons_succ]at hp;exact C5 hD ZU he (fun x hx=>hl x (y7 _ hx)) v6 hp (fun k x hk hx hDk=>hn (k+1) x v6 (by simpa using hx) (by rw[show i+(k+1)=i+1+k from by omega];exact hDk))
theorem PR {D D':Nat→Bool} {t:Nat} : ∀ {l:List (Option Nat×dX)} {i:Nat} {s u:St},(∀p,p∈l→p.2.uS p.1=true)→(∀(k:Nat)p,l[k]?=some p→D (i+k)≠D' (i+k)→p.1≠some t)→s.get t=u.get t→(jH l D i s).get t=(jH l D' i u).get t|[],_,_,_,_,_,h=>h|p::r,i,s,u,hl,hn,h=>by simp only[jH];have hp:=hl p (y8 ..);(have aU2:p.1≠some t→ ∀v:St,(v.app p.1 p.2).get t=v.get t:=by intro bS v;rw[ma hp];cases hs:p.2.slot p.1 with|none=>rfl|some x=>(have hx:p.1=some x.1:=by obtain⟨d,r⟩:=p;cases r with|skip=>cases d<;>simp[dX.slot]at hs;rw[←hs]|done l=>cases l<;>cases d<;>simp[dX.slot]at hs<;>rw[←hs]);(have:t≠x.1:=by rintro rfl;exact bS hx);simp only[cT this,cond_false]);refine PR (fun q hq=>hl q (y7 _ hq)) (fun k q hq bS=>hn (k+1) q (by simpa using hq) (by rw[show i+(k+1)=i+1+k from by omega];exact bS)) ?_;cases hD:D i with|true=>(cases ZU:D' i with|true=>simp only;rw[ma hp,ma hp,h]|false=>have:=hn 0 p rfl (by simp[hD,ZU]);simp only;rw[aU2 this,h])|false=>cases ZU:D' i with|true=>have:=hn 0 p rfl (by simp[hD,ZU]);simp only;rw[aU2 this,h]|false=>exact h
theorem H4 {D D':Nat→Bool} {t:Nat} : ∀ {l:List (Option Nat×dX)} {i:Nat} {s u:St},(∀p,p∈l→p.2.uS p.1=true)→(∀(k:Nat)p,l[k]?=some p→D (i+k)≠D' (i+k)→ ∀x,p.2.cD p.1=some x→x.1≠t)→look t s.bl=look t u.bl→look t (jH l D i s).bl=look t (jH l D' i u).bl|[],_,_,_,_,_,h=>h|p::r,i,s,u,hl,hn,h=>by simp only[jH];have hp:=hl p (y8 ..);(have hblk:(∀x,p.2.cD p.1=some x→x.1≠t)→ ∀v:St,look t (v.app p.1 p.2).bl=look t v.bl:=by intro bS v;rw[mc hp];cases hs:p.2.cD p.1 with|none=>rfl|some x=>simp only[cT (bS x hs).symm,cond_false]);refine H4 (fun q hq=>hl q (y7 _ hq)) (fun k q hq bS=>hn (k+1) q (by simpa using hq) (by rw[show i+(k+1)=i+1+k from by omega];exact bS)) ?_;cases hD:D i with|true=>(cases ZU:D' i with|true=>simp only;rw[mc hp,mc hp,h]|false=>have:=hn 0 p rfl (by simp[hD,ZU]);simp only;rw[hblk this,h])|false=>cases ZU:D' i with|true=>have:=hn 0 p rfl (by simp[hD,ZU]);simp only;rw[hblk this,h]|false=>exact h
end
section
variable {en:Prop} [lj en]
theorem U1 {P:Program} {o:Oper} {a:Act} {w:World} {C:Prop} {Q:Exit→Act→World→Prop} (hQ: ∀e a w,Q e a w→C)(hl:LetsOut Q→C)(h:o.wp P a w (fun _ _=>C) Q):C:=by
 unfold Oper.wp at h;generalize(execOp a.eval o).run P w=r at h;cases r with|ok n w'=>cases n<;>simp only[Oper.upon]at h;(all_goals first|exact h|(obtain⟨e,MW,fr,hR,_⟩:=h [];cases e with|returned v=>exact hR|panicked c=>exact hQ _ _ _ hR|outgrown=>exact hl hR)|(obtain⟨v,MW,hR,_⟩:=h default [];exact hR))|halt x w'=>cases x<;>simp only[Oper.upon]at h;all_goals exact hQ _ _ _ h
end
section
variable {en:Prop} [lj en]
def ji(E:Env):Out→Out→Prop|.cI p o,l=>p∧ji E o l|.yp T p f,l=> ∃x:T.den,p x∧ji E (f x) l|.call f xs T g,l=> ∃r:T.den,PC E f xs T r∧T.ok r∧ji E (g r) l|.nG _ _ _ _,_=>False|.fail _,_=>False|.val v,l=>l= .val v|.new v b,l=>l= .new v b|.store i b,l=>l= .store i b|.append i j b,l=>l= .append i j b|.dz ids p bl,l=>l= .dz ids p bl|.eO ks v,l=>l= .eO ks v|.jJ _ _ _ _ _ _ _,_=>False|.upd _ _ _,_=>False|.gX _ _ _,_=>False|.imp _ _,_=>False|.both _ _,_=>False|.rz _ _ _,_=>False|.wh _ _,_=>False|.lp f args bl ids fl used d,l=> ∃p bl',HC E f args bl p bl'∧Cj bl bl' fl used d p=true∧ZJ p∧A1 bl'∧l= .dz ids p bl'
def Out.pl:Out→Prop|.cI _ o=>o.pl|.yp _ _ f=> ∀x,(f x).pl|.call _ _ _ g=> ∀r,(g r).pl|.nG _ _ _ _=>False|.jJ _ _ _ _ _ _ _=>False|.upd _ _ _=>False|.gX _ _ _=>False|.imp _ _=>False|.both _ _=>False|.rz _ _ _=>False|.wh _ _=>False|_=>True
theorem NI {E:Env} : ∀(o:Out)(K:Out→Prop),o.pl→aZ E o K→aZ E o (fun l=>K l∧ji E o l):=by
 intro o;induction o with|cI p o ih=>intro K hp h;exact⟨h.1,bw (fun l hl=>⟨hl.1,h.1,hl.2⟩) o (ih K hp h.2)⟩|yp T p f ih=>intro K hp⟨x,h1,h2⟩;exact⟨x,h1,bw (fun l hl=>⟨hl.1,x,h1,hl.2⟩) (f x) (ih x K (hp x) h2)⟩|call f xs T g ih=>intro K hp⟨r,h1,h2⟩;exact⟨r,h1,fun hr=>bw (fun l hl=>⟨hl.1,r,h1,hr,hl.2⟩) (g r) (ih r K (hp r) (h2 hr))⟩|fail m=>intro K _ h;exact h|val v=>intro K _ h;exact⟨h,rfl⟩|new v b=>intro K _ h;exact⟨h,rfl⟩|store i b=>intro K _ h;exact⟨h,rfl⟩|append i j b=>intro K _ h;exact⟨h,rfl⟩|dz ids p bl=>intro K _ h;exact⟨h,rfl⟩|eO ks v=>intro K _ h;exact⟨h,rfl⟩|lp f args bl ids fl used d=>intro K _⟨p,bl',h1,h2,h3⟩;exact⟨p,bl',h1,h2,fun a b=>⟨h3 a b,p,bl',h1,h2,a,b,rfl⟩⟩|upd i b v=>intro K hp;exact hp.elim|gX ks i b=>intro K hp;exact hp.elim|nG f xs T g ih=>intro K hp;exact hp.elim|jJ f args bl ids fl used d=>intro K hp;exact hp.elim|imp p o=>intro K hp;exact hp.elim|both a b=>intro K hp;exact hp.elim|rz T p f=>intro K hp;exact hp.elim|wh p f=>intro K hp;exact hp.elim
theorem ji.bS1 {E:Env} : ∀ {o l:Out},ji E o l→aZ E o (fun l'=>l'=l):=by
 intro o;induction o with|cI p o ih=>intro l h;exact⟨h.1,ih h.2⟩|yp T p f ih=>intro l⟨x,h1,h2⟩;exact⟨x,h1,ih x h2⟩|call f xs T g ih=>intro l⟨r,h1,_,h3⟩;exact⟨r,h1,fun _=>ih r h3⟩|fail m=>intro l h;exact h|lp f args bl ids fl used d=>intro l⟨p,bl',h1,h2,h3,h4,e⟩;exact⟨p,bl',h1,h2,fun _ _=>e.symm⟩|upd i b v=>intro l h;exact h.elim|gX ks i b=>intro l h;exact h.elim|nG f xs T g ih=>intro l h;exact h.elim|jJ f args bl ids fl used d=>intro l h;exact h.elim|imp p o=>intro l h;exact h.elim|both a b=>intro l h;exact h.elim|rz T p f=>intro l h;exact h.elim|wh p f=>intro l h;exact h.elim|_=>intro l h;exact h.symm
end
section
variable {en:Prop} [lj en]
variable {E:Env} {w0:World} {S0:Cx}
theorem C6(hE:aI E) {n:Nat} {s:St} {a:Act} {w:World} {F:dI} {o:Oper} (h:Rel n w0 S0 s a w)(ho:bL n o=true) {K:St→Prop} {C:Prop} (hp:(aq E F s o).pl)(ab:aZ E (aq E F s o) (fun l=>K (s.fin o.dst l)))(hC: ∀l a' w',ji E (aq E F s o) l→K (s.fin o.dst l)→Rel n w0 S0 (s.fin o.dst l) a' w'→C):C:=by
 obtain⟨ν,S,hf⟩:=h.full;have h1:=NI _ _ hp ab;have h2:=se (Q:=fun _ _ _=>False) (K:=fun s'=> ∃l,s'=s.fin o.dst l∧ji E (aq E F s o) l∧K s') hE hf ho (bw (fun l hl=>⟨l,rfl,hl.2,hl.1⟩) _ h1)
 refine U1 (Q:=fun _ _ _=>False) (fun _ _ _ h=>h.elim) (fun⟨_,_,h⟩=>h.elim) (Oper.wp_mono (fun a' w'⟨s',⟨l,e,hc,hk⟩,hr⟩=>?_) h2);subst e;exact hC l a' w' hc hk hr
end
end Go.Proofs.YtimognngcagphaaGreat
