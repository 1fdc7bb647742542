/-
  The list of outcomes. Nothing here is trusted; no condition.
-/
import Derived.Test.YtgpkijnphchkpaaGreatA5
set_option linter.unusedSimpArgs false
set_option linter.unusedVariables false
namespace Go.Proofs.YtgpkijnphchkpaaGreat
variable {dV:Prop} [jY dV]
section
variable {F:dF} {b1 b2:List (Nat×aO)}
theorem Hi(h: ∀id,lk F b1 id=lk F b2 id)(id off:Nat):zf F b1 id off=zf F b2 id off:=by unfold zf;rw[h]
theorem Ao(h: ∀id,lk F b1 id=lk F b2 id)(t:Ty)(p:PV):iD F b1 t p=iD F b2 t p:=by unfold iD;cases p<;>simp only[h]
theorem Ap(h: ∀id,lk F b1 id=lk F b2 id)(k v:Ty)(p:PV):mS F b1 k v p=mS F b2 k v p:=by unfold mS;cases p<;>simp only[h]
theorem Hj(h: ∀id,lk F b1 id=lk F b2 id): ∀(T:Ty)(cs:List PV),aR T=0→pk F b1 T cs=pk F b2 T cs:=by
 intro T;induction T with|own t _=>intro cs ho;simp[aR]at ho|pair a b iG gP=>intro cs ho;simp only[aR]at ho;simp only[pk];rw[iG cs (by omega)];(cases pk F b2 a cs with|none=>rfl|some x=>simp only;rw[gP _ (by omega)])|st t ih=>intro cs ho;simp only[aR]at ho;simp only[pk];exact ih cs ho|sl t _=>intro cs ho;cases cs<;>simp only[pk,Ao h]|mp a b _ _=>intro cs ho;cases cs<;>simp only[pk,Ap h]|ptr t ih=>intro cs ho;simp only[aR]at ho;(cases cs with|nil=>rfl|cons c r=>cases c<;>simp only[pk,Hi h];split;(·rw[ih _ ho]);·rfl)|eY f t ih=>intro cs ho;simp only[aR]at ho;(cases cs with|nil=>rfl|cons c r=>cases c<;>simp only[pk];rw[ih _ ho])|_=>intro cs ho;cases cs<;>rfl
theorem nm(h: ∀id,lk F b1 id=lk F b2 id)(T:Ty)(p:PV)(ho:aR T=0):exp F b1 T p=exp F b2 T p:=by
 unfold exp;cases T<;>simp only<;>first|rw[Hj h _ _ ho]|(cases p<;>simp only;rw[Hj h _ _ (by simpa[aR]using ho)])
theorem uy(h: ∀id,lk F b1 id=lk F b2 id): ∀(Ts:List Ty)(ps:List PV),(∀T,T∈Ts→aR T=0)→gy F b1 Ts ps=gy F b2 Ts ps|[],[],_=>rfl|[],_::_,_=>rfl|_::_,[],_=>rfl|T::Ts,p::ps,ho=>by simp only[gy];rw[nm h T p (ho T (List.mem_cons_self ..)),uy h Ts ps (fun U hU=>ho U (List.mem_cons_of_mem _ hU))]
theorem Hk {E:Env} (hE:aG E)(h: ∀id,lk F b1 id=lk F b2 id)(t:Nat)(neg:Bool)(x y:PV):pF E F b1 t neg x y=pF E F b2 t neg x y:=by
 unfold pF;cases ht:E.ty t with|none=>rfl|some T=>have ho:=(hE.facts ht).own;simp only[nm h T _ ho]
theorem Kj {E:Env} (hE:aG E)(h: ∀id,lk F b1 id=lk F b2 id)(op:BinOp)(t:Nat)(x y:PV):zg E F b1 op t x y=zg E F b2 op t x y:=by unfold zg;simp only[Hk hE h]
theorem Kk {E:Env} (h: ∀id,lk F b1 id=lk F b2 id)(t:Nat)(p:PV):B9 E F b1 t p=B9 E F b2 t p:=by unfold B9;simp only[h]
theorem ES(h: ∀id,lk F b1 id=lk F b2 id)(ar:Bool)(T:Ty)(p:PV)(lo hi:Option Int):nQ F b1 ar T p lo hi=nQ F b2 ar T p lo hi:=by unfold nQ;simp only[h]
theorem ET {E:Env} (h: ∀id,lk F b1 id=lk F b2 id)(t:Nat)(p:PV)(i:Int):mJ E F b1 t p i=mJ E F b2 t p i:=by unfold mJ;simp only[h]
theorem Hl {E:Env} (h: ∀id,lk F b1 id=lk F b2 id)(t:Nat)(p:PV):me E F b1 t p=me E F b2 t p:=by unfold me;simp only[h]
theorem Hm {E:Env} (h: ∀id,lk F b1 id=lk F b2 id)(t1 t:Nat)(p:PV):rO E F b1 t1 t p=rO E F b2 t1 t p:=by unfold rO;simp only[Ao h]
theorem uz(h: ∀id,lk F b1 id=lk F b2 id)(T:Ty)(ho:aR T=0): ∀(ps:List (Nat×PV))(i:Nat),nS F b1 T i ps=nS F b2 T i ps|[],_=>rfl|p::r,i=>by simp only[nS,nm h T _ ho,uz h T ho r (i+1)]
theorem Cq {E:Env} (hE:aG E)(h: ∀id,lk F b1 id=lk F b2 id)(t:Nat)(p q:PV)(ok:Bool):nT E F b1 t p q ok=nT E F b2 t p q ok:=by
 unfold nT;cases hT:E.ty t with|none=>rfl|some U=>(cases U<;>try rfl);rename_i A B;obtain⟨k',ve,hu,hTA,hTB,PI,Gi,VJ,LQ⟩:=zR hE hT;cases hk:E.mapKey t with|none=>rfl|some kt=>simp only[Ap h,nm h A _ VJ]
end
end Go.Proofs.YtgpkijnphchkpaaGreat
namespace Go.Proofs.YtgpkijnphchkpaaGreat
variable {dV:Prop} [jY dV]
def jr(o:Oper):Option (List Operand):=match o.op with|.move x=>some [x]|.assign x=>some [x]|.nilCheck x=>some [x]|.pick c a b=>some [c,a,b]|.alloc _=>some []|.box _ x=>some [x]|.build _ parts=>some (parts.toList.map (·.2))|.buildSlice _ _ parts=>some (parts.toList.map (·.2))|.load _ x=>some [x]|.binOp _ _ x y _=>some [x,y]|.unOp _ _ x=>some [x]|.convert _ _ x=>some [x]|.slice _ x lo hi mx=>some (x::(lo.toList++(hi.toList++mx.toList)))|.fieldAddr _ x _=>some [x]|.field _ x _=>some [x]|.indexAddr _ x i=>some [x,i]|.index _ x i=>some [x,i]|.extract x _=>some [x]|.lookup _ x y _=>some [x,y]|.call c=>(match c.callee with|.value g=>some (g::c.args.toList)|.builtin .len=>some c.args.toList|.builtin .cap=>some c.args.toList|.builtin .min=>some c.args.toList|.builtin .max=>some c.args.toList|_=>none)|_=>none
theorem fg {s t:St} : ∀ {xs:List Operand},(∀x,x∈xs→s.ev x=t.ev x)→cz s xs=cz t xs|[],_=>rfl|x::xs,h=>by simp only[cz];rw[h x (List.mem_cons_self ..),fg (fun y hy=>h y (List.mem_cons_of_mem _ hy))]
theorem gH {s t:St} : ∀ {xs:List (Nat×Operand)},(∀x,x∈xs.map (·.2)→s.ev x=t.ev x)→dB s xs=dB t xs|[],_=>rfl|x::xs,h=>by simp only[dB];rw[h x.2 (by simp),gH (xs:=xs) (fun y hy=>h y (by rw[List.map_cons];exact List.mem_cons_of_mem _ hy))]
theorem Aq {E:Env} {F:dF} (he:F.e=false)(op:BinOp)(t:Nat)(a b:PV):pG E F op t a b=none:=by
 (have h1: ∀neg,nO E F t neg a b=none:=by intro neg;unfold nO;rw[he];cases b<;>rfl);cases op<;>first|rfl|exact h1 _
theorem Hn {E:Env} (hE:aG E) {F:dF} (he:F.e=false) {s t:St} {o:Oper} {rs:List Operand} (ho:jr o=some rs)(hs: ∀x,x∈rs→s.ev x=t.ev x)(hb: ∀id,lk F s.bl id=lk F t.bl id)(hd: ∀d,o.dst=some d→look d s.bl=look d t.bl):aj E F s o=aj E F t o:=by
 obtain⟨dst,op,ty,pos,af,g⟩:=o;unfold jr at ho;unfold aj;cases op<;>simp only[Option.some.injEq,reduceCtorEq]at ho;(all_goals try subst ho);(case move x=>simp only[hs x (by simp)])
 (case nilCheck x=>simp only[hs x (by simp)]);(case assign x=>simp only[hs x (by simp)]);(case pick c a b=>simp only[hs c (by simp),hs a (by simp),hs b (by simp)])
 (case binOp op t x y u=>simp only[hs x (by simp),hs y (by simp),Aq he,Kj hE hb]);(case load u x=>simp only[hs x (by simp),Hl hb]);(case unOp u v x=>simp only[hs x (by simp)])
 (case convert u v x=>simp only[hs x (by simp),Hm hb]);(case fieldAddr u x f=>simp only[hs x (by simp)]);(case field u x f=>simp only[hs x (by simp)]);(case extract x i=>simp only[hs x (by simp)])
 (case indexAddr u x i=>simp only[hs x (by simp),hs i (by simp),ET hb]);(case index u x i=>simp only[hs x (by simp),hs i (by simp)]);(case lookup u x y ok=>simp only[hs x (by simp),hs y (by simp),Cq hE hb])
 (case alloc u=>dsimp only;cases dst with|none=>cases E.ty u<;>rfl|some d=>cases E.ty u with|none=>rfl|some U=>simp only[hd d rfl]);(case box u x=>dsimp only;cases dst with|none=>simp only[hs x (by simp)]|some d=>rw[hs x (by simp)];cases(t.ev x).cells with|none=>rfl|some cs=>simp only[hd d rfl])
 (case build u parts=>simp only[gH hs]);(case buildSlice u n parts=>simp only[gH hs];cases dst with|none=>(cases hu:E.ty u with|none=>rfl|some U=>cases U<;>rfl)|some d=>cases hu:E.ty u with|none=>rfl|some U=>have hU:=(hE.facts hu).own;(cases U<;>try rfl);rename_i V;simp only[aR]at hU;simp only[hd d rfl,uz hb V hU])
 (case slice u x lo hi mx=>(have hbd: ∀y:Option Operand,(∀z,z∈y.toList→s.ev z=t.ev z)→bound s y=bound t y:=by intro y hy;cases y with|none=>rfl|some z=>simp only[bound];rw[hy z (by simp)]);have h1:=hs x (by simp);have h2:=hbd lo (fun z hz=>hs z (by simp[hz]));have h3:=hbd hi (fun z hz=>hs z (by simp[hz]));simp only[h1,h2,h3,ES hb];cases mx with|none=>rfl|some m=>simp only[hs m (by simp)])
 case call c=>obtain⟨callee,args,Gj⟩:=c;(have hc: ∀(f:Nat)(ps:List PV),fN E F s dst f ps=fN E F t dst f ps:=by intro f ps;unfold fN;cases hf:E.fn f with|none=>simp only[he];cases E.dJ f<;>rfl|some p=>obtain⟨As,T⟩:=p;have J4:=hE.fn f As T hf;unfold Eo at J4;simp only[Bool.and_eq_true,List.all_eq_true]at J4;dsimp only;rw[uy hb As _ (fun A hA=>Nat.eq_of_beq_eq_true (J4.2 A hA))]);cases callee with|value g=>simp only[Option.some.injEq]at ho;subst ho;have h1:=hs g (by simp);have h2:=fg (xs:=args.toList) (fun x hx=>hs x (List.mem_cons_of_mem _ hx));dsimp only;rw[h1,h2];(cases t.ev g with|fn f dL=>exact hc f _|yh f ps=>exact hc f _|iv T x=>(cases T<;>first|rfl|exact hc _ _)|_=>rfl)|builtin b=>cases b<;>simp only[Option.some.injEq,reduceCtorEq]at ho;(all_goals subst ho;have h2:=fg (xs:=args.toList) hs;dsimp only;rw[h2];try simp only[Kk hb])|_=>simp at ho
def bm(o:Oper):Option (List Operand):=match o.op with|.move x=>some [x]|.assign x=>some [x]|.nilCheck x=>some [x]|.pick c a b=>some [c,a,b]|.build _ parts=>some (parts.toList.map (·.2))|.binOp op _ x y _=>(match op with|.eql=>none|.neq=>none|_=>some [x,y])|.unOp _ _ x=>some [x]|.fieldAddr _ x _=>some [x]|.field _ x _=>some [x]|.index _ x i=>some [x,i]|.extract x _=>some [x]|.call c=>(match c.callee with|.builtin .min=>some c.args.toList|.builtin .max=>some c.args.toList|_=>none)|_=>none
theorem qe {E:Env} {F:dF} {s t:St} {o:Oper} {rs:List Operand} (ho:bm o=some rs)(hs: ∀x,x∈rs→s.ev x=t.ev x):aj E F s o=aj E F t o:=by
 obtain⟨dst,op,ty,pos,af,g⟩:=o;unfold bm at ho;unfold aj;cases op<;>simp only[Option.some.injEq,reduceCtorEq]at ho;(case move x=>subst ho;simp only[hs x (by simp)])
 (case nilCheck x=>subst ho;simp only[hs x (by simp)]);(case assign x=>subst ho;simp only[hs x (by simp)]);(case pick c a b=>subst ho;simp only[hs c (by simp),hs a (by simp),hs b (by simp)])
 (case build u parts=>subst ho;simp only[gH hs]);(case binOp op u x y v=>(have hxy: ∀PU,some [x,y]=some PU→s.ev x=t.ev x∧s.ev y=t.ev y∨PU≠rs:=by intro PU h;by_cases e:PU=rs;(·injection h with h;subst h;subst e;exact .inl ⟨hs x (by simp),hs y (by simp)⟩);·exact .inr e);cases op<;>simp only[Option.some.injEq,reduceCtorEq]at ho;all_goals subst ho;simp only[hs x (by simp),hs y (by simp)];simp only[pG];unfold zg;generalize t.ev x=a;generalize t.ev y=b;(try rfl);all_goals(cases a<;>first|rfl|(cases b<;>first|rfl|(rename_i T1 x1 T2 x2;cases T1<;>cases T2<;>rfl))))
 (case unOp u v x=>subst ho;simp only[hs x (by simp)]);(case fieldAddr u x f=>subst ho;simp only[hs x (by simp)]);(case field u x f=>subst ho;simp only[hs x (by simp)])
 (case index u x i=>subst ho;simp only[hs x (by simp),hs i (by simp)]);(case extract x i=>subst ho;simp only[hs x (by simp)]);case call c=>obtain⟨callee,args,Gj⟩:=c;cases callee with|builtin b=>cases b<;>simp only[Option.some.injEq,reduceCtorEq]at ho;(all_goals subst ho;have h2:=fg (xs:=args.toList) hs;dsimp only;rw[h2])|_=>simp at ho
end Go.Proofs.YtgpkijnphchkpaaGreat
namespace Go.Proofs.YtgpkijnphchkpaaGreat
variable {dV:Prop} [jY dV]
structure fG(s t:St):Prop where
 get: ∀i,s.get i=t.get i
 cA: ∀i,look i s.bl=look i t.bl
theorem fG.refl(s:St):fG s s:=⟨fun _=>rfl,fun _=>rfl⟩
theorem fG.symm {s t:St} (h:fG s t):fG t s:=⟨fun i=>(h.get i).symm,fun i=>(h.cA i).symm⟩
theorem fG.trans {s t u:St} (h:fG s t)(h':fG t u):fG s u:=⟨fun i=>(h.get i).trans (h'.get i),fun i=>(h.cA i).trans (h'.cA i)⟩
theorem fG.ev {s t:St} (h:fG s t)(x:Operand):s.ev x=t.ev x:=by cases x<;>simp only[St.ev,h.get]
theorem fG.lk {s t:St} (h:fG s t)(F:dF)(i:Nat):lk F s.bl i=lk F t.bl i:=by unfold Go.Proofs.YtgpkijnphchkpaaGreat.lk;rw[h.cA]
theorem fG.D {s t:St} (h:fG s t):s.D=t.D:=by funext i;unfold St.D;rw[h.cA]
theorem Rel.same {n:Nat} {w0:World} {S0:Cx} {s t:St} {a:Act} {w:World} (hs:fG s t)(h:Rel n w0 S0 s a w):Rel n w0 S0 t a w:=by
 obtain⟨ν,S,h1,h2,h3,h4,h5,h6,h7,h8,h9,h10⟩:=h;refine⟨ν,S,h1,h2,h3,⟨h4.lt,h4.size,fun id b hb=>?_,fun i j b c fv hi hj=>?_⟩,fun i=>?_,h6,h7,h8,fun i hi hd=>h9 i hi (by rw[hs.D];exact hd),h10⟩
 (·rw[←hs.cA]at hb;rw[←hs.D];exact h4.cA id b hb);(·rw[←hs.cA]at hi hj;exact h4.ne i j b c fv hi hj);·rw[←hs.get,←hs.D];exact h5 i
inductive dK where|skip|done(l:Out)
def St.app(s:St)(d:Option Nat):dK→St|.skip=>s.put d (.bq [])|.done l=>s.fin d l
def dK.sB(d:Option Nat):dK→Bool|.skip=>true|.done (.val _)=>true|.done (.new _ _)=>d.isSome|.done (.store _ _)=>true|_=>false
def dK.slot(d:Option Nat):dK→Option (Nat×PV)|.skip=>d.map (·,.bq [])|.done (.val v)=>d.map (·,v)|.done (.new v _)=>d.map (·,v)|_=>none
def dK.cA(d:Option Nat):dK→Option (Nat×aO)|.done (.new _ b)=>d.map (·,b)|.done (.store i b)=>some (i,b)|_=>none
theorem kH {s:St} {d:Option Nat} {r:dK} (h:r.sB d=true)(i:Nat):(s.app d r).get i=match r.slot d with|some p=>(bif Nat.beq i p.1 then p.2 else s.get i)|none=>s.get i:=by
 (have key: ∀(e:Nat)(v:PV)(bl:List (Nat×aO)),(⟨(e,v)::s.sl,bl⟩:St).get i=bif Nat.beq i e then v else s.get i:=by intro e v bl;simp only[St.get,look];cases Nat.beq i e<;>rfl)
 cases r with|skip=>cases d<;>simp only[St.app,St.put,dK.slot,Option.map_some,Option.map_none];exact key _ _ _|done l=>cases l with|val v=>cases d<;>simp only[St.app,St.fin,St.put,dK.slot,Option.map_some,Option.map_none];exact key _ _ _|new v b=>cases d<;>simp only[St.app,St.fin,dK.slot,Option.map_some,Option.map_none];exact key _ _ _|store j b=>rfl|_=>cases h
theorem kI {s:St} {d:Option Nat} {r:dK} (h:r.sB d=true)(i:Nat):look i (s.app d r).bl=match r.cA d with|some p=>(bif Nat.beq i p.1 then some p.2 else look i s.bl)|none=>look i s.bl:=by
 cases r with|skip=>cases d<;>rfl|done l=>cases l with|val v=>cases d<;>rfl|new v b=>cases d<;>simp only[St.app,St.fin,dK.cA,Option.map_some,Option.map_none,look]|store j b=>simp only[St.app,St.fin,dK.cA,look]|_=>cases h
theorem Ho {s t:St} (h:fG s t) {d:Option Nat} {r:dK} (hr:r.sB d=true):fG (s.app d r) (t.app d r):=by
 refine⟨fun i=>?_,fun i=>?_⟩;(·rw[kH hr,kH hr];cases r.slot d<;>simp only[h.get]);·rw[kI hr,kI hr];cases r.cA d<;>simp only[h.cA]
def EU(p q:Option Nat×dK):Prop:=(∀x y,p.2.slot p.1=some x→q.2.slot q.1=some y→x.1≠y.1)∧ ∀x y,p.2.cA p.1=some x→q.2.cA q.1=some y→x.1≠y.1
theorem dD {i j:Nat} (h:i≠j):Nat.beq i j=false:=by cases hb:Nat.beq i j with|false=>rfl|true=>exact absurd (Nat.eq_of_beq_eq_true hb) h
theorem Rc {s:St} {p q:Option Nat×dK} (h1:p.2.sB p.1=true)(h2:q.2.sB q.1=true)(h:EU p q):fG ((s.app p.1 p.2).app q.1 q.2) ((s.app q.1 q.2).app p.1 p.2):=by
 refine⟨fun i=>?_,fun i=>?_⟩;(·rw[kH h2,kH h1,kH h1,kH h2];cases hq:q.2.slot q.1 with|none=>rfl|some y=>cases hp:p.2.slot p.1 with|none=>rfl|some x=>have bY:=h.1 x y hp hq;simp only;cases hb:Nat.beq i y.1 with|false=>rfl|true=>rw[Nat.eq_of_beq_eq_true hb,dD bY.symm];rfl)
 ·rw[kI h2,kI h1,kI h1,kI h2];cases hq:q.2.cA q.1 with|none=>rfl|some y=>cases hp:p.2.cA p.1 with|none=>rfl|some x=>have bY:=h.2 x y hp hq;simp only;cases hb:Nat.beq i y.1 with|false=>rfl|true=>rw[Nat.eq_of_beq_eq_true hb,dD bY.symm];rfl
end Go.Proofs.YtgpkijnphchkpaaGreat
namespace Go.Proofs.YtgpkijnphchkpaaGreat
variable {dV:Prop} [jY dV]
def iC:List (Option Nat×dK)→(Nat→Bool)→Nat→St→St|[],_,_,s=>s|p::r,D,i,s=>iC r D (i+1) (match D i with|true=>s.app p.1 p.2|false=>s)
theorem uA {D:Nat→Bool} : ∀ {l:List (Option Nat×dK)} {i:Nat} {s t:St},(∀p,p∈l→p.2.sB p.1=true)→fG s t→fG (iC l D i s) (iC l D i t)|[],_,_,_,_,h=>h|p::r,i,s,t,hl,h=>by simp only[iC];refine uA (fun q hq=>hl q (List.mem_cons_of_mem _ hq)) ?_;cases D i with|true=>exact Ho h (hl p (List.mem_cons_self ..))|false=>exact h
theorem EV {D:Nat→Bool} {q:Option Nat×dK} (hq:q.2.sB q.1=true): ∀ {l:List (Option Nat×dK)} {i:Nat} {s:St},(∀p,p∈l→p.2.sB p.1=true)→(∀(k:Nat)p,l[k]?=some p→D (i+k)=true→EU q p)→fG (iC l D i (s.app q.1 q.2)) ((iC l D i s).app q.1 q.2)|[],_,s,_,_=>fG.refl _|p::r,i,s,hl,hn=>by simp only[iC];have hn': ∀(k:Nat)x,r[k]?=some x→D (i+1+k)=true→EU q x:=fun k x hx hD=>hn (k+1) x (by simpa using hx) (by rw[show i+(k+1)=i+1+k from by omega];exact hD);cases hD:D i with|false=>exact EV hq (fun x hx=>hl x (List.mem_cons_of_mem _ hx)) hn'|true=>refine fG.trans (uA (fun x hx=>hl x (List.mem_cons_of_mem _ hx)) (Rc hq (hl p (List.mem_cons_self ..)) (hn 0 p rfl hD))) ?_;exact EV hq (fun x hx=>hl x (List.mem_cons_of_mem _ hx)) hn'
theorem Ma {D D':Nat→Bool} : ∀ {l:List (Option Nat×dK)} {i:Nat} {s:St},(∀j,i≤j→D j=D' j)→iC l D i s=iC l D' i s|[],_,_,_=>rfl|p::r,i,s,h=>by simp only[iC];rw[h i (Nat.le_refl _),Ma (l:=r) (fun j hj=>h j (by omega))]
theorem Ar {D D':Nat→Bool} {j:Nat} (hD:D j=false)(VN:D' j=true)(he: ∀m,m≠j→D m=D' m): ∀ {l:List (Option Nat×dK)} {i:Nat} {s:St} {p:Option Nat×dK},(∀p,p∈l→p.2.sB p.1=true)→i≤j→l[j-i]?=some p→(∀(k:Nat)q,j<i+k→l[k]?=some q→D (i+k)=true→EU p q)→fG (iC l D' i s) ((iC l D i s).app p.1 p.2)|[],i,s,p,_,_,hp,_=>(by simp at hp)|q::r,i,s,p,hl,fv,hp,hn=>by simp only[iC];by_cases hi:i=j;(·subst hi;rw[Nat.sub_self]at hp;simp only[List.getElem?_cons_zero,Option.some.injEq]at hp;subst hp;rw[hD,VN];simp only;rw[←Ma (D:=D) (D':=D') (fun m hm=>he m (by omega))];exact EV (hl q (List.mem_cons_self ..)) (fun x hx=>hl x (List.mem_cons_of_mem _ hx)) (fun k x hx Ws=>hn (k+1) x (by omega) (by simpa using hx) (by rw[show i+(k+1)=i+1+k from by omega];exact Ws)));·rw[←he i hi];(have:j-i=(j-(i+1))+1:=by omega);rw[this,List.getElem?_cons_succ]at hp;exact Ar hD VN he (fun x hx=>hl x (List.mem_cons_of_mem _ hx)) (by omega) hp (fun k x hk hx Ws=>hn (k+1) x (by omega) (by simpa using hx) (by rw[show i+(k+1)=i+1+k from by omega];exact Ws))
theorem Mb {D D':Nat→Bool} {t:Nat} : ∀ {l:List (Option Nat×dK)} {i:Nat} {s u:St},(∀p,p∈l→p.2.sB p.1=true)→(∀(k:Nat)p,l[k]?=some p→D (i+k)≠D' (i+k)→p.1≠some t)→s.get t=u.get t→(iC l D i s).get t=(iC l D' i u).get t|[],_,_,_,_,_,h=>h|p::r,i,s,u,hl,hn,h=>by simp only[iC];have hp:=hl p (List.mem_cons_self ..);(have aw8:p.1≠some t→ ∀v:St,(v.app p.1 p.2).get t=v.get t:=by intro bY v;rw[kH hp];cases hs:p.2.slot p.1 with|none=>rfl|some x=>(have hx:p.1=some x.1:=by obtain⟨d,r⟩:=p;cases r with|skip=>cases d<;>simp[dK.slot]at hs;rw[←hs]|done l=>cases l<;>cases d<;>simp[dK.slot]at hs<;>rw[←hs]);(have:t≠x.1:=by rintro rfl;exact bY hx);simp only[dD this,cond_false]);refine Mb (fun q hq=>hl q (List.mem_cons_of_mem _ hq)) (fun k q hq bY=>hn (k+1) q (by simpa using hq) (by rw[show i+(k+1)=i+1+k from by omega];exact bY)) ?_;cases hD:D i with|true=>(cases VN:D' i with|true=>simp only;rw[kH hp,kH hp,h]|false=>have:=hn 0 p rfl (by simp[hD,VN]);simp only;rw[aw8 this,h])|false=>cases VN:D' i with|true=>have:=hn 0 p rfl (by simp[hD,VN]);simp only;rw[aw8 this,h]|false=>exact h
theorem EW {D D':Nat→Bool} {t:Nat} : ∀ {l:List (Option Nat×dK)} {i:Nat} {s u:St},(∀p,p∈l→p.2.sB p.1=true)→(∀(k:Nat)p,l[k]?=some p→D (i+k)≠D' (i+k)→ ∀x,p.2.cA p.1=some x→x.1≠t)→look t s.bl=look t u.bl→look t (iC l D i s).bl=look t (iC l D' i u).bl|[],_,_,_,_,_,h=>h|p::r,i,s,u,hl,hn,h=>by simp only[iC];have hp:=hl p (List.mem_cons_self ..);(have Cj:(∀x,p.2.cA p.1=some x→x.1≠t)→ ∀v:St,look t (v.app p.1 p.2).bl=look t v.bl:=by intro bY v;rw[kI hp];cases hs:p.2.cA p.1 with|none=>rfl|some x=>simp only[dD (bY x hs).symm,cond_false]);refine EW (fun q hq=>hl q (List.mem_cons_of_mem _ hq)) (fun k q hq bY=>hn (k+1) q (by simpa using hq) (by rw[show i+(k+1)=i+1+k from by omega];exact bY)) ?_;cases hD:D i with|true=>(cases VN:D' i with|true=>simp only;rw[kI hp,kI hp,h]|false=>have:=hn 0 p rfl (by simp[hD,VN]);simp only;rw[Cj this,h])|false=>cases VN:D' i with|true=>have:=hn 0 p rfl (by simp[hD,VN]);simp only;rw[Cj this,h]|false=>exact h
end Go.Proofs.YtgpkijnphchkpaaGreat
namespace Go.Proofs.YtgpkijnphchkpaaGreat
variable {dV:Prop} [jY dV]
theorem Rd {P:Program} {o:Oper} {a:Act} {w:World} {C:Prop} {Q:Exit→Act→World→Prop} (hQ: ∀e a w,Q e a w→C)(hl:LetsOut Q→C)(h:o.wp P a w (fun _ _=>C) Q):C:=by
 unfold Oper.wp at h;generalize(execOp a.eval o).run P w=r at h;cases r with|ok n w'=>cases n<;>simp only[Oper.upon]at h;(all_goals first|exact h|(obtain⟨e,Jx,fr,hR,_⟩:=h [];cases e with|returned v=>exact hR|panicked c=>exact hQ _ _ _ hR|outgrown=>exact hl hR)|(obtain⟨v,Jx,hR,_⟩:=h default [];exact hR))|halt x w'=>cases x<;>simp only[Oper.upon]at h;all_goals exact hQ _ _ _ h
end Go.Proofs.YtgpkijnphchkpaaGreat
namespace Go.Proofs.YtgpkijnphchkpaaGreat
variable {dV:Prop} [jY dV]
def gY(E:Env):Out→Out→Prop|.cv p o,l=>p∧gY E o l|.vJ T p f,l=> ∃x:T.den,p x∧gY E (f x) l|.call f xs T g,l=> ∃r:T.den,PC E f xs T r∧T.ok r∧gY E (g r) l|.mb _ _ _ _,_=>False|.fail _,_=>False|.val v,l=>l= .val v|.new v b,l=>l= .new v b|.store i b,l=>l= .store i b|.append i j b,l=>l= .append i j b|.cZ ids p bl,l=>l= .cZ ids p bl|.ej ks v,l=>l= .ej ks v|.iE _ _ _ _ _ _ _,_=>False|.upd _ _ _,_=>False|.fS _ _ _,_=>False|.imp _ _,_=>False|.both _ _,_=>False|.pC _ _ _,_=>False|.tz _ _,_=>False|.ky f args bl ids fl used d,l=> ∃p bl',HC E f args bl p bl'∧zt bl bl' fl used d p=true∧VD p∧yj bl'∧l= .cZ ids p bl'
def Out.pl:Out→Prop|.cv _ o=>o.pl|.vJ _ _ f=> ∀x,(f x).pl|.call _ _ _ g=> ∀r,(g r).pl|.mb _ _ _ _=>False|.iE _ _ _ _ _ _ _=>False|.upd _ _ _=>False|.fS _ _ _=>False|.imp _ _=>False|.both _ _=>False|.pC _ _ _=>False|.tz _ _=>False|_=>True
theorem Km {E:Env} : ∀(o:Out)(K:Out→Prop),o.pl→br E o K→br E o (fun l=>K l∧gY E o l):=by
 intro o;induction o with|cv p o ih=>intro K hp h;exact⟨h.1,bk (fun l hl=>⟨hl.1,h.1,hl.2⟩) o (ih K hp h.2)⟩|vJ T p f ih=>intro K hp⟨x,h1,h2⟩;exact⟨x,h1,bk (fun l hl=>⟨hl.1,x,h1,hl.2⟩) (f x) (ih x K (hp x) h2)⟩|call f xs T g ih=>intro K hp⟨r,h1,h2⟩;exact⟨r,h1,fun hr=>bk (fun l hl=>⟨hl.1,r,h1,hr,hl.2⟩) (g r) (ih r K (hp r) (h2 hr))⟩|fail m=>intro K _ h;exact h|val v=>intro K _ h;exact⟨h,rfl⟩|new v b=>intro K _ h;exact⟨h,rfl⟩|store i b=>intro K _ h;exact⟨h,rfl⟩|append i j b=>intro K _ h;exact⟨h,rfl⟩|cZ ids p bl=>intro K _ h;exact⟨h,rfl⟩|ej ks v=>intro K _ h;exact⟨h,rfl⟩|ky f args bl ids fl used d=>intro K _⟨p,bl',h1,h2,h3⟩;exact⟨p,bl',h1,h2,fun a b=>⟨h3 a b,p,bl',h1,h2,a,b,rfl⟩⟩|upd i b v=>intro K hp;exact hp.elim|fS ks i b=>intro K hp;exact hp.elim|mb f xs T g ih=>intro K hp;exact hp.elim|iE f args bl ids fl used d=>intro K hp;exact hp.elim|imp p o=>intro K hp;exact hp.elim|both a b=>intro K hp;exact hp.elim|pC T p f=>intro K hp;exact hp.elim|tz p f=>intro K hp;exact hp.elim
theorem gY.br5 {E:Env} : ∀ {o l:Out},gY E o l→br E o (fun l'=>l'=l):=by
 intro o;induction o with|cv p o ih=>intro l h;exact⟨h.1,ih h.2⟩|vJ T p f ih=>intro l⟨x,h1,h2⟩;exact⟨x,h1,ih x h2⟩|call f xs T g ih=>intro l⟨r,h1,_,h3⟩;exact⟨r,h1,fun _=>ih r h3⟩|fail m=>intro l h;exact h|ky f args bl ids fl used d=>intro l⟨p,bl',h1,h2,h3,h4,e⟩;exact⟨p,bl',h1,h2,fun _ _=>e.symm⟩|upd i b v=>intro l h;exact h.elim|fS ks i b=>intro l h;exact h.elim|mb f xs T g ih=>intro l h;exact h.elim|iE f args bl ids fl used d=>intro l h;exact h.elim|imp p o=>intro l h;exact h.elim|both a b=>intro l h;exact h.elim|pC T p f=>intro l h;exact h.elim|tz p f=>intro l h;exact h.elim|_=>intro l h;exact h.symm
end Go.Proofs.YtgpkijnphchkpaaGreat
namespace Go.Proofs.YtgpkijnphchkpaaGreat
variable {dV:Prop} [jY dV]
variable {E:Env} {w0:World} {S0:Cx}
theorem At(hE:aG E) {n:Nat} {s:St} {a:Act} {w:World} {F:dF} {o:Oper} (h:Rel n w0 S0 s a w)(ho:bJ n o=true) {K:St→Prop} {C:Prop} (hp:(aj E F s o).pl)(ab:br E (aj E F s o) (fun l=>K (s.fin o.dst l)))(hC: ∀l a' w',gY E (aj E F s o) l→K (s.fin o.dst l)→Rel n w0 S0 (s.fin o.dst l) a' w'→C):C:=by
 obtain⟨ν,S,hf⟩:=h.full;have h1:=Km _ _ hp ab;have h2:=qc (Q:=fun _ _ _=>False) (K:=fun s'=> ∃l,s'=s.fin o.dst l∧gY E (aj E F s o) l∧K s') hE hf ho (bk (fun l hl=>⟨l,rfl,hl.2,hl.1⟩) _ h1)
 refine Rd (Q:=fun _ _ _=>False) (fun _ _ _ h=>h.elim) (fun⟨_,_,h⟩=>h.elim) (Oper.wp_mono (fun a' w'⟨s',⟨l,e,hc,hk⟩,hr⟩=>?_) h2);subst e;exact hC l a' w' hc hk hr
end Go.Proofs.YtgpkijnphchkpaaGreat
