/-
  The operations one by one, continued: parts of slices and strings, new arrays, closures. Nothing here is trusted; no condition.
-/
import Derived.Test.YtbbmofoiipjbgaaA1
import Derived.Deep.AppendSrc
import Derived.Laws.MakeOwn
import Derived.Laws.StructEq
set_option linter.unusedSimpArgs false
set_option linter.unusedVariables false
namespace Go.Proofs.Ytbbmofoiipjbgaa
variable {cH:Prop} [fV cH]
open Go.RowKit
structure Ctx.tT(ks:List Nat)(c c':Ctx):Prop where
 heap: ∀b,c.M.S b→c'.w.heap[b]?=c.w.heap[b]?
 S: ∀b,c.M.S b→c'.M.S b
 D: ∀i,c.D i→an i ks=false→c'.D i
 ν: ∀i,c.D i→an i ks=false→c'.ν i=c.ν i
def tU(c:Ctx)(ks:List Nat):Prop:= ∀i,an i ks=true→c.D i→ ∃a n m,c.ν i= .slice a n m
mutual theorem nc {ks:List Nat} {c c':Ctx} (hc:c.tT ks c')(hb:tU c ks): ∀ {p:PV} {v:Value},ai c p v→ai c' (p.kill ks) v|.iv T x,v,h=>(by simp only[PV.kill,ai]at h⊢;exact⟨h.1,ec hc.heap hc.S h.1 h.2⟩)|.ref i off,v,h=>(by simp only[PV.kill,ai]at h⊢;obtain⟨hd,g,h1,h2⟩:=h;(have cA:an i ks=false:=by cases hm:an i ks with|false=>rfl|true=>obtain⟨a,n,m,e⟩:=hb i hm hd;rw[h1]at e;cases e);exact⟨hc.D _ hd cA,g,by rw[hc.ν _ hd cA];exact h1,h2⟩)|.lmap i,v,h=>(by simp only[PV.kill,ai]at h⊢;obtain⟨hd,h1,r,h2⟩:=h;(have cA:an i ks=false:=by cases hm:an i ks with|false=>rfl|true=>obtain⟨a,n,m,e⟩:=hb i hm hd;rw[h1,e]at h2;cases h2);exact⟨hc.D _ hd cA,by rw[hc.ν _ hd cA];exact h1,r,h2⟩)|.cK T x off,v,h=>(by simp only[PV.kill,ai]at h⊢;obtain⟨ho,g,o,cs,h1,h2,h3,h4,h5⟩:=h;exact⟨ho,g,o,cs,h1,hc.S _ h2,h3,h4.mono (hc.heap _ h2),ao hc.heap hc.S _ _ _ ho h5⟩)|.aE i,v,h=>(by simp only[PV.kill];cases hi:an i ks;(·simp only[cond_false,ai]at h⊢;exact⟨hc.D _ h.1 hi,by rw[hc.ν _ h.1 hi];exact h.2.1,h.2.2⟩);·simp only[cond_true,ai])|.kp i sz off len,v,h=>(by simp only[PV.kill];cases hi:an i ks;(·simp only[cond_false,ai]at h⊢;obtain⟨hd,a,n,cap,b,h1,h2⟩:=h;exact⟨hc.D _ hd hi,a,n,cap,b,by rw[hc.ν _ hd hi];exact h1,h2⟩);·simp only[cond_true,ai])|.dL i sz j off,v,h=>(by simp only[PV.kill];cases hi:an i ks;(·simp only[cond_false,ai]at h⊢;obtain⟨hd,g,o,n,cap,h1,h2⟩:=h;exact⟨hc.D _ hd hi,g,o,n,cap,by rw[hc.ν _ hd hi];exact h1,h2⟩);·simp only[cond_true,ai])|.agg cs,v,h=>(by simp only[PV.kill,ai]at h⊢;obtain⟨vs,h1,h0,h2⟩:=h;exact⟨vs,h1,h0,dc hc hb h2⟩)|.bC cs,v,h=>(by simp only[PV.kill,ai]at h⊢;obtain⟨vs,h1,h2⟩:=h;exact⟨vs,h1,dc hc hb h2⟩)|.bM,v,h=>(by simp only[PV.kill,ai]at h⊢;exact h)|.cn,v,h=>(by simp only[PV.kill,ai]at h⊢;exact h)|.eL i base T n j,v,h=>(by simp only[PV.kill,ai]at h⊢;obtain⟨hd,h0,hn,g,h1,h2⟩:=h;(have cA:an i ks=false:=by cases hm:an i ks with|false=>rfl|true=>obtain⟨a,n,m,e⟩:=hb i hm hd;rw[h1]at e;cases e);exact⟨hc.D _ hd cA,h0,hn,g,by rw[hc.ν _ hd cA];exact h1,h2⟩)|.oa f cs,v,h=>(by simp only[PV.kill,ai]at h⊢;obtain⟨vs,h1,h2⟩:=h;exact⟨vs,h1,dc hc hb h2⟩)|.m6 f cs,v,h=>(by simp only[PV.kill,ai]at h⊢;obtain⟨vs,h1,h2⟩:=h;exact⟨vs,h1,dc hc hb h2⟩)|.qH i,v,h=>(by simp only[PV.kill,ai]at h⊢;obtain⟨hd,g,h1,h2⟩:=h;(have cA:an i ks=false:=by cases hm:an i ks with|false=>rfl|true=>obtain⟨a,n,m,e⟩:=hb i hm hd;rw[h1]at e;cases e);exact⟨hc.D _ hd cA,g,by rw[hc.ν _ hd cA];exact h1,h2⟩)|.clip T xs,v,h=>(by simp only[PV.kill,ai]at h⊢;exact⟨h.1,h.2.1,ao hc.heap hc.S (.sl T) _ _ h.1 h.2.2⟩)|.fn f cs,v,h=>(by simp only[PV.kill,ai]at h⊢;obtain⟨vs,h1,h2⟩:=h;exact⟨vs,h1,dc hc hb h2⟩)|.any,v,h=>by simp only[PV.kill,ai]theorem dc {ks:List Nat} {c c':Ctx} (hc:c.tT ks c')(hb:tU c ks): ∀ {ps:List PV} {vs:List Value},ak c ps vs→ak c' (PV.cf ks ps) vs|[],vs,h=>(by simp only[PV.cf,ak]at h⊢;exact h)|p::ps,vs,h=>by simp only[PV.cf,ak]at h⊢;obtain⟨v,r,h1,h2,h3⟩:=h;exact⟨v,r,h1,nc hc hb h2,dc hc hb h3⟩end
theorem eO(f:PV→PV)(t:Nat): ∀l:List (Nat×PV),look t (ic f l)=(look t l).map f|[]=>rfl|p::r=>by simp only[ic,look];cases Nat.beq t p.1;(·simpa using eO f t r);·rfl
theorem iN(f:List PV→List PV)(t:Nat): ∀l:List (Nat×aJ),look t (lM f l)=(look t l).map (aJ.map f)|[]=>rfl|p::r=>by simp only[lM,look];cases Nat.beq t p.1;(·simpa using iN f t r);·rfl
theorem c8(ks:List Nat)(t:Nat): ∀l:List (Nat×aJ),look t (b9 ks l)=bif an t ks then none else look t l|[]=>(by simp[b9,look])|p::r=>by simp only[b9];cases hm:an p.1 ks with|true=>simp only[cond_true,look,c8 ks t r];(cases hb:Nat.beq t p.1 with|true=>rw[Nat.eq_of_beq_eq_true hb,hm];rfl|false=>rfl)|false=>simp only[cond_false,look,c8 ks t r];cases hb:Nat.beq t p.1 with|true=>rw[Nat.eq_of_beq_eq_true hb,hm];rfl|false=>rfl
theorem o8(s:St)(ks:List Nat)(t:Nat):(s.kill ks).get t=(s.get t).kill ks:=by simp only[St.get,St.kill,eO];cases look t s.sl<;>simp[PV.kill]
theorem fP(s:St)(ks:List Nat)(i:Nat):look i (s.kill ks).bl=(look i s.bl).map (aJ.map (PV.cf ks)):=by simp only[St.kill,iN]
theorem NI(s:St)(ks:List Nat):(s.kill ks).D=s.D:=by
 funext i;refine propext ⟨fun⟨c,hc⟩=>?_,fun⟨c,hc⟩=>?_⟩;(·rw[fP]at hc;cases hl:look i s.bl with|none=>rw[hl]at hc;cases hc|some b=>exact⟨b,hl⟩);·exact⟨c.map (PV.cf ks),by rw[fP,hc];rfl⟩
theorem rm {ks:List Nat} {c c':Ctx} (hc:c.tT ks c')(DP:tU c ks)(hB:c'.M.O=c.M.O) {id:Nat} {b:aJ} (cg:c'.ν id=c.ν id)(hg: ∀g,aI (c.ν id)=some g→c'.w.heap[g]?=c.w.heap[g]?∧(¬c.M.S g→ ¬c'.M.S g))(h:gE c id b):gE c' id (b.map (PV.cf ks)):=by
 cases b with|box cs te=>obtain⟨fm,g,vs,e,h1,h2,h3,h4,h0,h5⟩:=h;obtain⟨e1,e2⟩:=hg g (by rw[h1];rfl);exact⟨fm.eE cg fun g dV=>(hg g dV).1,g,vs,e,by rw[cg];exact h1,by rw[hB];exact h2,e2 h3,by rw[e1];exact h4,h0,dc hc DP h5⟩|arr T xs te=>obtain⟨fm,ho,v,hv,h1,h2⟩:=h;injection hv with hv;refine⟨fm.eE cg fun g dV=>(hg g dV).1,ho,v,by rw[cg,hv],h1,?_⟩;rcases h2 with h2|⟨g,o,cap,cur,e,rfl,h3,h4,h5,h6,h7,h8,h9⟩;(·exact .inl h2);(·obtain⟨e1,e2⟩:=hg g (by rw[hv];rfl);refine .inr ⟨g,o,cap,cur,e,rfl,h3,h4,e2 h5,by rw[hB];exact h6,by rw[e1];exact h7,h8,fun i y hy=>?_⟩;obtain⟨cs,hl,Ba,hr⟩:=h9 i y hy;exact⟨cs,hl,Ba.mono e1,ao hc.heap hc.S _ _ _ ho hr⟩)|mp K V es=>obtain⟨cM,lS,h0,r,aO,clock,h1,h2,h3,h4,h5,h6,h7⟩:=h;obtain⟨e1,e2⟩:=hg r (by rw[h1];rfl);refine⟨cM,lS,h0,r,aO,clock,by rw[cg];exact h1,by rw[hB];exact h2,e2 h3,by rw[e1];exact h4,h5,h6,fun i y hy=>?_⟩;obtain⟨e,ca,cb,a1,a2,a3,a4,a5⟩:=h7 i y hy;exact⟨e,ca,cb,a1,a2,ao hc.heap hc.S _ _ _ cM a3,a4,ao hc.heap hc.S _ _ _ lS a5⟩|it src since seen=>obtain⟨g,m,h1,h2,h3,h4,h6⟩:=h;obtain⟨e1,e2⟩:=hg g (by rw[h1];rfl);exact⟨g,m,by rw[cg];exact h1,by rw[hB];exact h2,e2 h3,by rw[e1];exact h4,dc hc DP h6⟩|qI x pos=>obtain⟨g,h1,h2,h3,h4,h5⟩:=h;obtain⟨e1,e2⟩:=hg g (by rw[h1];rfl);exact⟨g,by rw[cg];exact h1,by rw[hB];exact h2,e2 h3,by rw[e1];exact h4,h5⟩|gh o cs=>obtain⟨g,vs,h1,h2,h3,h4,h6⟩:=h;obtain⟨e1,e2⟩:=hg g (by rw[h1];rfl);exact⟨g,vs,by rw[cg];exact h1,by rw[hB];exact h2,e2 h3,by rw[e1];exact h4,dc hc DP h6⟩
theorem jR {i k:Nat} :an i [k]=Nat.beq i k:=by simp only[an];cases Nat.beq i k<;>rfl
theorem tV {i k:Nat} (h:i≠k):an i [k]=false:=by rw[jR];cases hb:Nat.beq i k with|false=>rfl|true=>exact absurd (Nat.eq_of_beq_eq_true hb) h
theorem tW {i k:Nat} (h:an i [k]=true):i=k:=by rw[jR]at h;exact Nat.eq_of_beq_eq_true h
section
variable {n:Nat} {w0:World} {S0:Cx} {s:St} {a:Act} {w:World} {ν:Nat→Value} {S:Nat→Prop}
theorem Full.app(h:Full n w0 S0 s a w ν S) {d id j:Nat} {T:Ty} {xs:List T.den} {te:Option Nat} {b':aJ} {v':Value} {w':World} (hd:d<n)(hl:look id s.bl=some (.arr T xs te))(hj:j<P0)(zh:j=id∨look j s.bl=none)(hw:dn w w' (aI (ν id)))(hv: ∃a n cap,v'= .slice a n cap)(eu: ∀g,aI v'=some g→aI (ν id)=some g∨w.heap.size≤g)(hb: ∀D:Nat→Prop,gE ⟨fun i=>if i=j then v' else ν i,D,w',⟨S,ax w0 S0⟩⟩ j b'):Full n w0 S0 ⟨(d,.aE j)::(s.kill [id]).sl,(j,b')::b9 [id] (s.kill [id]).bl⟩ (a.put (some d) v') w' (fun i=>if i=j then v' else ν i) S:=by
 (have kP: ∃a n m,ν id= .slice a n m:=by obtain⟨_,ho,v,hv,_,h2⟩:=h.W.bJ id _ hl;injection hv with hv;simp only at hv;rw[hv];rcases h2 with⟨h2,_⟩|⟨g',o,cap,cur,e,h2,_⟩<;>subst h2<;>exact⟨_,_,_,rfl⟩)
 (have DP:tU ⟨ν,s.D,w,⟨S,ax w0 S0⟩⟩ [id]:=by intro i hi _;rw[tW hi];exact kP);(have tX: ∀i c,i≠j→look i (⟨(d,.aE j)::(s.kill [id]).sl,(j,b')::b9 [id] (s.kill [id]).bl⟩:St).bl=some c→i≠id∧ ∃c0,look i s.bl=some c0∧c=c0.map (PV.cf [id]):=by intro i c ew hc;rw[aF _ _ ew,c8]at hc;cases hm:an i [id]with|true=>rw[hm]at hc;cases hc|false=>rw[hm]at hc;simp only[cond_false]at hc;rw[fP]at hc;refine⟨fun e=>?_,?_⟩;(·subst e;rw[jR,Nat.beq_refl]at hm;cases hm);·cases Dy:look i s.bl with|none=>rw[Dy]at hc;cases hc|some c0=>rw[Dy]at hc;injection hc with hc;exact⟨c0,rfl,hc.symm⟩)
 (have hD: ∀i,s.D i→i≠id→(⟨(d,.aE j)::(s.kill [id]).sl,(j,b')::b9 [id] (s.kill [id]).bl⟩:St).D i:=by rintro i⟨c,hc⟩cA;by_cases ew:i=j;(·subst ew;exact⟨b',aS _ _ _⟩);·exact⟨c.map (PV.cf [id]),by rw[aF _ _ ew,c8,tV cA,cond_false,fP,hc];rfl⟩)
 (have cA: ∀i,s.D i→i≠id→i≠j:=by rintro i⟨c,hc⟩hi e;subst e;rcases zh with zh|zh;(·exact hi zh);·rw[zh]at hc;cases hc);have hS: ∀g,S g→w'.heap[g]?=w.heap[g]?:=fun g hg=>hw.block g (h.W.lt g hg) (fun e=>(h.eF hl e.symm).2.1 hg)
 (have hle:Ctx.tT [id] ⟨ν,s.D,w,⟨S,ax w0 S0⟩⟩ ⟨fun i=>if i=j then v' else ν i,(⟨(d,.aE j)::(s.kill [id]).sl,(j,b')::b9 [id] (s.kill [id]).bl⟩:St).D,w',⟨S,ax w0 S0⟩⟩:=by refine⟨hS,fun _ h=>h,fun i hi hm=>hD i hi ?_,fun i hi hm=>?_⟩;(·rintro rfl;rw[jR,Nat.beq_refl]at hm;cases hm);·(have:i≠id:=by rintro rfl;rw[jR,Nat.beq_refl]at hm;cases hm);simp[cA i hi this])
 refine⟨h.below.grown hw (fun g hg=>(h.eF hl hg).1),h.vH,h.fresh,⟨fun g hg=>Nat.lt_of_lt_of_le (h.W.lt g hg) hw.size,fun g hg=>h.W.size g (Nat.le_trans hw.size hg),fun i c hc=>?_,fun i k c e tY hi hk g vJ DQ=>?_⟩,?_,?_,?_,h.vI,fun i hi rl=>?_,h.vZ⟩
 (·by_cases hi:i=j;(·subst hi;rw[aS]at hc;injection hc with hc;subst hc;exact hb _);·obtain⟨FQ,c0,lH,rfl⟩:=tX i c hi hc;refine rm hle DP rfl (by simp[hi]) (fun g hg=>?_) (h.W.bJ i c0 lH);exact⟨hw.block g (h.eF lH hg).2.2 (fun e=>h.W.ne i id c0 _ FQ lH hl g hg e.symm),fun h=>h⟩)
 (·by_cases ew:i=j;(·subst ew;have jS:k≠i:=fun e=>tY e.symm;simp only[if_true]at vJ;simp only[jS,if_false]at DQ;obtain⟨NJ,e',wb,_⟩:=tX k e jS hk;rcases eu g vJ with hf|hf;(·exact h.W.ne id k _ _ (fun e=>NJ e.symm) hl wb g hf DQ);·have:=(h.eF wb DQ).2.2;omega);·simp only[ew,if_false]at vJ;obtain⟨NK,c',lg,_⟩:=tX i c ew hi;by_cases NL:k=j;(·subst NL;simp only[if_true]at DQ;rcases eu g DQ with hf|hf;(·exact h.W.ne i id _ _ NK lg hl g vJ hf);·have:=(h.eF lg vJ).2.2;omega);·simp only[NL,if_false]at DQ;obtain⟨_,e',wb,_⟩:=tX k e NL hk;exact h.W.ne i k _ _ tY lg wb g vJ DQ)
 (·intro t;(have T7:ai ⟨fun i=>if i=j then v' else ν i,(⟨(d,.aE j)::(s.kill [id]).sl,(j,b')::b9 [id] (s.kill [id]).bl⟩:St).D,w',⟨S,ax w0 S0⟩⟩ (.aE j) v':=by simp only[ai];exact⟨⟨b',aS _ _ _⟩,by simp,hv⟩);refine nb (s:=s.kill [id]) (fun t=>?_) h.size hd (fun t=>?_) T7 t;(·rw[o8];exact nc hle DP (h.ee t));·by_cases ht:t=d;(·subst ht;simp[St.get,aS]);·simp[St.get,aF _ _ ht,ht])
 (·rw[lX];exact h.size);(·rw[iM];exact h.defers);·(have ew:i≠j:=by omega);simp only[ew,if_false];obtain⟨c,hc⟩:=rl;obtain⟨_,c0,lH,_⟩:=tX i c ew hc;exact h.kept i hi ⟨c0,lH⟩
end
/-! ### append -/
theorem kx {T:Ty} {w:World} {M:Mem} {g o:Nat} : ∀(xs:List T.den),(∀i y,xs[i]?=some y→ ∃cs,cs.length=T.cells∧cP w g (o+i*T.cells) cs∧av T y w M cs)→ ∃vs:List Value,vs.length=xs.length*T.cells∧cP w g o vs∧(∀u,u∈vs→u.oneCell'=true)∧ ∀i y,xs[i]?=some y→av T y w M ((vs.drop (i*T.cells)).take T.cells):=by
 intro xs;induction xs generalizing o with|nil=>intro _;exact⟨[],by simp,fun j v h=>by simp at h,by simp,fun i y h=>by simp at h⟩|cons x xs ih=>intro h;obtain⟨cs,hl,hc,hr⟩:=h 0 x rfl;obtain⟨vs,qQ,T8,T9,DR⟩:=ih (o:=o+T.cells) (fun i y hy=>by obtain⟨tZ,Dy,lg,nf⟩:=h (i+1) y (by simpa using hy);refine⟨tZ,Dy,?_,nf⟩;(have e:o+(i+1)*T.cells=o+T.cells+i*T.cells:=by rw[Nat.add_mul];omega);rwa[e]at lg);refine⟨cs++vs,by simp[hl,qQ,Nat.add_mul];omega,fun j v hj=>?_,fun u hu=>?_,fun i y hy=>?_⟩;(·rcases Nat.lt_or_ge j T.cells with Bf|Bf;(·rw[List.getElem?_append_left (by omega)]at hj;have:=hc j v hj;simpa using this);·rw[List.getElem?_append_right (by omega)]at hj;have:=T8 _ v hj;rw[←this];congr 2;omega);(·rcases List.mem_append.1 hu with hu|hu;(·exact lQ _ _ _ _ _ hr u hu);·exact T9 u hu);·cases i with|zero=>simp at hy;subst hy;rw[Nat.zero_mul,List.drop_zero,←hl,List.take_left];exact hr|succ i=>have:=DR i y (by simpa using hy);(have e:(i+1)*T.cells=cs.length+i*T.cells:=by rw[Nat.add_mul,hl];omega);rw[e,List.drop_append];simpa[List.drop_of_length_le]using this
theorem oy {T:Ty} {w:World} {M:Mem} {g o:Nat} {xs:List T.den} {vs:List Value} (hl:vs.length=xs.length*T.cells)(hc:cP w g o vs)(hr: ∀i y,xs[i]?=some y→av T y w M ((vs.drop (i*T.cells)).take T.cells)): ∀i y,xs[i]?=some y→ ∃cs,cs.length=T.cells∧cP w g (o+i*T.cells) cs∧av T y w M cs:=by
 intro i y hy;(have hi:i<xs.length:=by rcases Nat.lt_or_ge i xs.length with h|h;(·exact h);·rw[List.getElem?_eq_none h]at hy;cases hy);refine⟨_,bk _ _ _ _ _ (hr i y hy),fun j v hj=>?_,hr i y hy⟩
 (have FR:j<T.cells:=by rcases Nat.lt_or_ge j T.cells with h|h;(·exact h);·rw[List.getElem?_eq_none (by rw[bk _ _ _ _ _ (hr i y hy)];exact h)]at hj;cases hj);rw[List.getElem?_take,if_pos FR,List.getElem?_drop]at hj
 have:=hc _ v hj;rw[←this,Nat.add_assoc]
theorem lh {T : Ty} {w w' : World} {M : Mem} (hw : ∀ b, M.S b → w'.heap[b]? = w.heap[b]?) (ho : aB T = 0) {xs ys : List T.den} {us vs : List Value} (hu : us.length = xs.length * T.cells) (hr : ∀ i y, xs[i]? = some y → av T y w M ((us.drop (i * T.cells)).take T.cells))
    (hs : ∀ i y, ys[i]? = some y → av T y w M ((vs.drop (i * T.cells)).take T.cells)) : ∀ i y, (xs ++ ys)[i]? = some y → av T y w' M (((us ++ vs).drop (i * T.cells)).take T.cells) := by
  intro i y hy
  refine ao hw (fun _ h => h) _ _ _ ho ?_
  rcases Nat.lt_or_ge i xs.length with hi | hi
  · rw [List.getElem?_append_left hi] at hy
    have h1 := hr i y hy
    have hle : i * T.cells + T.cells ≤ us.length := by
      rw [hu]
      calc i * T.cells + T.cells = (i + 1) * T.cells := by rw [Nat.add_mul]; omega
        _ ≤ xs.length * T.cells := Nat.mul_le_mul_right _ hi
    rw [List.drop_append_of_le_length (by omega), List.take_append_of_le_length (by rw [List.length_drop]; omega)]
    exact h1
  · rw [List.getElem?_append_right hi] at hy
    have h1 := hs _ y hy
    have e : i * T.cells = us.length + (i - xs.length) * T.cells := by
      rw [hu, ← Nat.add_mul]
      congr 1
      omega
    rw [e, List.drop_append]
    simpa [List.drop_of_length_le] using h1
end Go.Proofs.Ytbbmofoiipjbgaa
namespace Go.Proofs.Ytbbmofoiipjbgaa
variable {cH:Prop} [fV cH]
open Go.RowKit
theorem cS(g o n:Nat):(⟨g,o,none⟩:Addr).add n=⟨g,o+n,none⟩:=by unfold Addr.add;split<;>simp_all
theorem bL.elem {E:Env} (hE:aA E) {t:Nat} {T:Ty} (h:bL E t (.sl T)): ∃e,E.P.underlying t=some (.slice e)∧E.ty e=some T∧bL E e T∧T.val=true∧0<T.cells:=by
 obtain⟨d,hd,hs⟩:=h.kV;(cases d<;>simp only[b6]at hs<;>first|cases hs|skip);rename_i e;simp only[Bool.and_eq_true,jQ]at hs;obtain⟨⟨h1,h2⟩,h3⟩:=hs;split at h1;(·rename_i U hU;rw[Ty.bZ h1]at hU;exact⟨e,hd,hU,hE.facts hU,h2,Nat.le_of_ble_eq_true h3⟩)
 ·cases h1
structure Source(w:World)(size:Nat)(a:Option Addr)(m:Nat)(news:List Value):Prop where
 len:news.length=m*size
 cells:m=0∨ ∃ad,a=some ad∧ ∀j u,news[j]?=some u→w.cell? (ad.add j)=some u
 one: ∀u,u∈news→u.oneCell'=true
theorem Source.first {P:Program} {w:World} {size:Nat} {a:Option Addr} {m:Nat} {news:List Value} (h:Source w size a m news)(c:Nat):(Builtin.firstCells size m (.slice a m c)).run P w= .ok news.toArray w:=by
 rcases h.cells with rfl|⟨ad,rfl,hc⟩;(·have hn:news=[]:=List.eq_nil_of_length_eq_zero (by simpa using h.len);subst hn;cases a with|none=>exact run_firstCells_none w _ _ _ _|some ad=>exact run_firstCells_some w size 0 ad _ c [] (by simp) (by simp))
 ·exact run_firstCells_some w size m ad _ c news h.len hc
theorem dB(w:World)(g:Nat)(cs:Array Value):dn w (w.setRow g cs) (some g):=⟨rfl,rfl,rfl,by simp,fun k _ hk=>setRow_other w g k _ (fun e=>hk (by rw[e])),fun _=>Nat.le_refl _⟩
theorem Source.src {P:Program} {w:World} {size:Nat} {a:Option Addr} {m:Nat} {news:List Value} (h:Source w size a m news) {tx e':TypeId} (hk:P.underlying tx=some (.slice e'))(c:Nat):Src P size tx (.slice a m c) m news w:=⟨.inl ⟨e',hk⟩,fun _=>rfl,h.first c,by have h':Source w.drew size a m news:=⟨h.len,h.cells,h.one⟩;exact h'.first c,h.len,h.one⟩
theorem ng {P:Program} {w:World} {t tx ty e:TypeId} {i:TypeInfo} (ht:P.underlying t=some (.slice e))(hi:P.info? e=some i) {g o n cap:Nat} {cur:Array Value} {e':TypeId} (hg:w.heap[g]?=some (.cells cur e' (0,0))) {x:Value} {m:Nat} {news:List Value} (hs:Src P i.size tx x m news w)(uc:n+m≤cap)(o9:o+n*i.size+news.length≤cur.size):(Builtin.append_ #[t,tx] ty #[.slice (some ⟨g,o,none⟩) n cap,x]).run P w= .ok (.slice (some ⟨g,o,none⟩) (n+m) cap) (w.setRow g (cur.toList.take (o+n*i.size)++news++cur.toList.drop (o+n*i.size+news.length)).toArray):=by
 have iw:=run_storeCells_at (P:=P) g (o+n*i.size) e' news 0 cur w hg (by simpa using o9) hs.one;simp only[Nat.add_zero]at iw;rcases hs.kind with⟨e2,hk⟩|hk<;>simp[Builtin.append_,run_underlying ht,run_underlying hk,sizeOf,typeInfo,hi,hs.len,uc,hs.cells,cS,iw]
theorem x6(z:Array Value)(n:Nat):(Builtin.zeroCells z n).size=n*z.size:=by simp[Builtin.zeroCells]
theorem nh {E:Env} {T:Ty} {w:World} {M:Mem} {zs:List T.den} {e:TypeId} {z:Value} (vK:z.cells.size=T.cells)(ho:aB T=0)(cX: ∀b,M.S b→b<w.heap.size)(hB: ∀g,w.heap.size≤g→M.O g)(hlen:zs.length≤274877906944)(cs:List Value)(eG:cs.length=zs.length*T.cells)(NM: ∀i y,zs[i]?=some y→av T y w M ((cs.drop (i*T.cells)).take T.cells))(sr:Nat):av (.own T) zs (w.drew.alloc (.cells (cs.toArray++Builtin.zeroCells z.cells (grownCap w zs.length sr e-zs.length)) e)) M [.slice (some ⟨w.heap.size,0,none⟩) zs.length (grownCap w zs.length sr e)]:=by
 have Kn:=grownCap_ge w zs.length sr e;have FT:=grownCap_le_maxLen w zs.length sr e (by simp only[maxLen];omega);simp only[maxLen]at FT;have hh:(w.drew.alloc (.cells (cs.toArray++Builtin.zeroCells z.cells (grownCap w zs.length sr e-zs.length)) e)).heap[w.heap.size]?=some (.cells (cs.toArray++Builtin.zeroCells z.cells (grownCap w zs.length sr e-zs.length)) e):=heap_alloc_new w.drew _
 refine⟨_,rfl,by omega,.inr ⟨w.heap.size,0,grownCap w zs.length sr e,_,e,rfl,Kn,by omega,fun h=>absurd (cX _ h) (by omega),hB _ (Nat.le_refl _),hh,?_,?_⟩⟩;(·rw[Array.size_append,x6,vK,List.size_toArray,eG,Nat.zero_add,←Nat.add_mul];exact Nat.mul_le_mul_right _ (by omega))
 ·refine oy (vs:=cs) eG (fun j u hj=>?_) (fun k y hy=>?_);(·rw[cell_of_row _ _ _ _ _ _ hh,Nat.zero_add,Array.getElem?_append_left (by simpa using(List.getElem?_eq_some_iff.1 hj).1)];simpa using hj);·exact ao (w:=w) (fun b hb=>Below.heap_alloc w.drew _ b (cX b hb)) (fun _ h=>h) _ _ _ ho (NM k y hy)
theorem fo {E:Env} (hE:aA E) {t tx ty:Nat} {T:Ty} (ht:E.ty t=some (.sl T)) {w:World} {M:Mem} {a:Option Addr} {m:Nat} {xs ys:List T.den} (ho:aB T=0)(kP:av (.sl T) xs w M [.slice a m m])(cX: ∀b,M.S b→b<w.heap.size)(hB: ∀g,w.heap.size≤g→M.O g) {x:Value} {news:List Value} (hs:Src E.P T.cells tx x ys.length news w)(hr: ∀i y,ys[i]?=some y→av T y w M ((news.drop (i*T.cells)).take T.cells))(cA:ys≠ [])(hlen:xs.length+ys.length≤274877906944): ∃v' w',(Builtin.append_ #[t,tx] ty #[.slice a m m,x]).run E.P w= .ok v' w'∧av (.own T) (xs++ys) w' M [v']∧dn w w' none∧(∃a n cap,v'= .slice a n cap)∧(∀g,aI v'=some g→w.heap.size≤g):=by
 obtain⟨e,hu,he,jT,kR,ni⟩:=(hE.facts ht).elem hE;obtain⟨i,hi,cr,FU,_,z,hz,vK⟩:=jT.info;rw[←cr]at hs;(have DS: ∀k:Nat,k≤274877906944→k*i.bytes≤140737488355328:=fun k hk=>by calc k*i.bytes≤274877906944*512:=Nat.mul_le_mul hk FU
 _=140737488355328:=by decide);have hm:ys.length≠0:=fun h=>cA (List.eq_nil_of_length_eq_zero h);obtain⟨a',jO,hv,h1,h2,h3⟩:=kP;(obtain⟨rfl,rfl,rfl⟩:a'=a∧m=xs.length∧jO=m:=by injection hv with hv;injection hv with h1 h2 h3;exact⟨h1.symm,h2,h3.symm⟩)
 (obtain⟨us,ud,Ko,Dz⟩: ∃us:List Value,us.length=xs.length*T.cells∧(∀i y,xs[i]?=some y→av T y w M ((us.drop (i*T.cells)).take T.cells))∧(Builtin.firstCells i.size xs.length (.slice a' xs.length xs.length)).run E.P w.drew= .ok us.toArray w.drew:=by rcases h3 with rfl|⟨g,o,rfl,_,dP⟩;(·refine⟨[],by simp,fun i y hy=>by simp at hy,?_⟩;cases a' with|none=>exact run_firstCells_none _ _ _ _ _|some ad=>exact run_firstCells_some _ _ 0 ad _ _ [] (by simp) (by simp));·obtain⟨us,ud,M9,DT,Ko⟩:=kx xs dP;exact⟨us,ud,Ko,run_firstCells_some w.drew i.size xs.length ⟨g,o,none⟩ _ _ us (by rw[ud,cr]) (fun j u hj=>by rw[cS];exact M9 j u hj)⟩)
 have aU:=run_append_grow_src (P:=E.P) w t tx ty e i z hu hi hz a' xs.length xs.length us Dz x ys.length news hs (by omega) (by omega) (growslice_fits (by omega) (DS _ hlen))
 have hg:=nh (E:=E) (e:=e) (zs:=xs++ys) vK ho cX hB (by rw[List.length_append];exact hlen) (us++news) (by rw[List.length_append,List.length_append,ud,hs.newsLen,cr,Nat.add_mul]) (lh (fun _ _=>rfl) ho ud Ko hr) xs.length
 rw[List.length_append]at hg;exact⟨_,_,aU,hg,⟨rfl,rfl,rfl,by simp,fun k hk _=>Below.heap_alloc w.drew _ k hk,fun _=>Nat.le_succ _⟩,⟨_,_,_,rfl⟩,fun g hg=>by injection hg with hg;simp at hg;omega⟩
theorem jU {E:Env} (hE:aA E) {t tx ty:Nat} {T:Ty} (ht:E.ty t=some (.sl T)) {w:World} {M:Mem} {v:Value} {xs ys:List T.den} (ho:aB T=0)(jq:av (.own T) xs w M [v])(cX: ∀b,M.S b→b<w.heap.size)(hB: ∀g,w.heap.size≤g→M.O g) {x:Value} {news:List Value} (hs:Src E.P T.cells tx x ys.length news w)(hr: ∀i y,ys[i]?=some y→av T y w M ((news.drop (i*T.cells)).take T.cells))(hlen:xs.length+ys.length≤274877906944): ∃v' w',(Builtin.append_ #[t,tx] ty #[v,x]).run E.P w= .ok v' w'∧av (.own T) (xs++ys) w' M [v']∧dn w w' (aI v)∧(∃a n cap,v'= .slice a n cap)∧(∀g,aI v'=some g→aI v=some g∨w.heap.size≤g)∧(∀e0,E.P.underlying t=some (.slice e0)→dN (some e0) w v→dN (some e0) w' v'):=by
 obtain⟨e,hu,he,jT,kR,ni⟩:=(hE.facts ht).elem hE;obtain⟨i,hi,cr,FU,_,z,hz,vK⟩:=jT.info;rw[←cr]at hs;(have DS: ∀k:Nat,k≤274877906944→k*i.bytes≤140737488355328:=fun k hk=>by calc k*i.bytes≤274877906944*512:=Nat.mul_le_mul hk FU
 _=140737488355328:=by decide);obtain⟨u,hv,h1,h2⟩:=jq;injection hv with hv;subst hv;(have grown: ∀(cs:List Value),cs.length=(xs.length+ys.length)*T.cells→(∀i y,(xs++ys)[i]?=some y→av T y w M ((cs.drop (i*T.cells)).take T.cells))→ ∀(sr:Nat),av (.own T) (xs++ys) (w.drew.alloc (.cells (cs.toArray++Builtin.zeroCells z.cells (grownCap w (xs.length+ys.length) sr e-(xs.length+ys.length))) e)) M [.slice (some ⟨w.heap.size,0,none⟩) (xs.length+ys.length) (grownCap w (xs.length+ys.length) sr e)]:=by intro cs eG NM sr;have:=nh (E:=E) (e:=e) (zs:=xs++ys) vK ho cX hB (by rw[List.length_append];exact hlen) cs (by rw[eG,List.length_append]) NM sr;rwa[List.length_append]at this)
 rcases h2 with⟨rfl,rfl⟩|⟨g,o,cap,cur,e',rfl,h3,h4,h5,h6,h7,h8,h9⟩;(·by_cases hm:ys.length=0;(·have hn:news=[]:=List.eq_nil_of_length_eq_zero (by rw[hs.newsLen,hm,Nat.zero_mul]);have hy:ys=[]:=List.eq_nil_of_length_eq_zero hm;subst hy;refine⟨.slice none 0 0,w,?_,⟨_,rfl,by simp,.inl ⟨rfl,by simp⟩⟩,⟨rfl,rfl,rfl,Nat.le_refl _,fun _ _ _=>rfl,fun _=>Nat.le_refl _⟩,⟨_,_,_,rfl⟩,fun g hg=>(by cases hg),fun e0 _ _ t' _ g hg=>(by cases hg)⟩;have DA:=hs.len;have lH:=hs.cells;simp only[List.length_nil]at DA lH;rcases hs.kind with⟨e2,hk⟩|hk<;>simp[Builtin.append_,run_underlying hu,run_underlying hk,sizeOf,typeInfo,hi,DA,lH]);·skip;·have hb:=DS ys.length (by simpa using hlen);have aU:=run_append_grow_src (P:=E.P) w t tx ty e i z hu hi hz none 0 0 [] (run_firstCells_none _ _ _ _ _) x ys.length news hs (by omega) (by simp at hlen;omega) (growslice_fits (by omega) (by simpa using hb));simp only[Nat.zero_add,List.nil_append]at aU;have hg:=grown news (by rw[hs.newsLen,cr];simp) (by simpa using hr) 0;simp only[List.length_nil,Nat.zero_add]at hg;exact⟨_,_,aU,hg,⟨rfl,rfl,rfl,by simp,fun k hk _=>Below.heap_alloc w.drew _ k hk,fun _=>Nat.le_succ _⟩,⟨_,_,_,rfl⟩,fun g hg=>.inr (by injection hg with hg;simp at hg;omega),fun e0 DU _ t' GI g hg=>by obtain rfl:=Option.some.inj GI;(obtain rfl:e=e0:=by rw[hu]at DU;injection DU with DU;injection DU);injection hg with hg;subst hg;exact⟨rfl,_,_,heap_alloc_new w.drew _⟩⟩)
 ·obtain⟨us,ud,M9,DT,Ko⟩:=kx xs h9;by_cases uc:xs.length+ys.length≤cap;(·(have o9:o+xs.length*i.size+news.length≤cur.size:=by rw[hs.newsLen,Nat.add_assoc,←Nat.add_mul,cr];exact Nat.le_trans (Nat.add_le_add_left (Nat.mul_le_mul_right _ uc) _) h8);have aU:=ng (P:=E.P) (ty:=ty) hu hi h7 hs uc o9;refine⟨_,_,aU,?_,?_,⟨_,_,_,rfl⟩,fun g hg=>.inl hg,fun e0 _ fm=>(by exact fm.A8 rfl h7 (setRow_heap w g cur _ e' _ h7))⟩;(·have hh:=setRow_heap w g cur (cur.toList.take (o+xs.length*i.size)++news++cur.toList.drop (o+xs.length*i.size+news.length)).toArray e' _ h7;have NN: ∀b,M.S b→(w.setRow g (cur.toList.take (o+xs.length*i.size)++news++cur.toList.drop (o+xs.length*i.size+news.length)).toArray).heap[b]?=w.heap[b]?:=fun b hb=>setRow_other w g b _ (fun e=>h5 (e▸hb));refine⟨_,rfl,by rw[List.length_append];omega,.inr ⟨g,o,cap,_,e',by rw[List.length_append],by rw[List.length_append];exact uc,h4,h5,h6,hh,?_,?_⟩⟩;(·simp only[List.size_toArray,List.length_append,List.length_take,List.length_drop,Array.length_toList];omega);·refine oy (vs:=us++news) (by rw[List.length_append,List.length_append,ud,hs.newsLen,cr,Nat.add_mul]) (fun j u hj=>?_) (lh NN ho ud Ko hr);rw[cell_of_row _ _ _ _ _ _ hh];simp only[List.getElem?_toArray];rcases Nat.lt_or_ge j us.length with GJ|GJ;(·rw[List.getElem?_append_left GJ]at hj;have dv:=M9 j u hj;rw[cell_of_row _ _ _ _ _ _ h7]at dv;(have zi:o+j<o+xs.length*i.size:=by rw[cr,←ud];omega);rw[List.append_assoc,List.getElem?_append_left (by simp only[List.length_take,Array.length_toList];omega),List.getElem?_take,if_pos zi];simpa using dv);·rw[List.getElem?_append_right GJ]at hj;have Bf:j-us.length<news.length:=(List.getElem?_eq_some_iff.1 hj).1;(have wc:(cur.toList.take (o+xs.length*i.size)).length=o+xs.length*i.size:=by simp only[List.length_take,Array.length_toList];omega);rw[List.append_assoc,List.getElem?_append_right (by rw[wc,cr,←ud];omega),wc,List.getElem?_append_left (by rw[cr,←ud];omega)];rw[←hj];congr 1;rw[cr,←ud];omega);·exact dB w g _);·(have hm:ys.length≠0:=by omega);skip;·have aU:=run_append_grow_src (P:=E.P) w t tx ty e i z hu hi hz (some ⟨g,o,none⟩) xs.length cap us (run_firstCells_some w.drew i.size xs.length ⟨g,o,none⟩ xs.length cap us (by rw[ud,cr]) (fun j u hj=>by rw[cS];exact M9 j u hj)) x ys.length news hs (by omega) (by omega) (growslice_fits (by omega) (DS _ hlen));have hg:=grown (us++news) (by rw[List.length_append,ud,hs.newsLen,cr,Nat.add_mul]) (lh (fun _ _=>rfl) ho ud Ko hr) cap;exact⟨_,_,aU,hg,⟨rfl,rfl,rfl,by simp,fun k hk _=>Below.heap_alloc w.drew _ k hk,fun _=>Nat.le_succ _⟩,⟨_,_,_,rfl⟩,fun g hg=>.inr (by injection hg with hg;simp at hg;omega),fun e0 DU _ t' GI g hg=>by obtain rfl:=Option.some.inj GI;(obtain rfl:e=e0:=by rw[hu]at DU;injection DU with DU;injection DU);injection hg with hg;subst hg;exact⟨rfl,_,_,heap_alloc_new w.drew _⟩⟩
end Go.Proofs.Ytbbmofoiipjbgaa
namespace Go.Proofs.Ytbbmofoiipjbgaa
variable {cH:Prop} [fV cH]
open Go.RowKit
theorem bV {P:Program} {o:Oper} {a:Act} {w w':World} {v:Value} {K:Act→World→Prop} {Q:Exit→Act→World→Prop} (h:(execOp a.eval o).run P w= .ok (.value v) w')(hk:K (a.put o.dst v) w'):o.wp P a w K Q:=by
 unfold Oper.wp;rw[h];exact hk
theorem gm {P:Program} {o:Oper} {a:Act} {w w':World} {K:Act→World→Prop} {Q:Exit→Act→World→Prop} (h:(execOp a.eval o).run P w= .ok .skip w')(hk:K (a.put o.dst undef) w'):o.wp P a w K Q:=by
 unfold Oper.wp;rw[h];exact hk
theorem gN {P:Program} {o:Oper} {a:Act} {w w':World} {f:FuncId} {args:Array Value} {K:Act→World→Prop} {Q:Exit→Act→World→Prop} (h:(execOp a.eval o).run P w= .ok (.enter f args) w')(hk:Calls P f args w' fun e AH=> ∃v,e= .returned v∧K (a.put o.dst v) AH):o.wp P a w K Q:=by
 unfold Oper.wp;rw[h];refine hk.mono ?_;rintro e AH⟨v,rfl,hv⟩;exact hv
section
variable {E:Env} {n:Nat} {w0:World} {S0:Cx} {s:St} {a:Act} {w:World} {ν:Nat→Value} {S:Nat→Prop} {F:cm} {o:Oper} {K:St→Prop} {Q:Exit→Act→World→Prop}
theorem ba(ho:bF n o=true): ∀d,o.dst=some d→d<n:=by intro d hd;simp only[bF,hd,Bool.and_eq_true]at ho;have:=ho.2;simp only[Nat.blt_eq]at this;exact this
theorem aw(ho:bF n o=true) {x:Operand} (hx:x∈o.op.operands):iL x=true:=by simp only[bF,Bool.and_eq_true,List.all_eq_true]at ho;exact ho.1 x (Array.mem_toList_iff.2 hx)
theorem Full.val(h:Full n w0 S0 s a w ν S)(ho:bF n o=true) {p:PV} {v:Value} (hr:(execOp a.eval o).run E.P w= .ok (.value v) w)(hp:ai h.c p v)(hK:K (s.fin o.dst (.val p))):o.wp E.P a w (fun a' w'=> ∃s',K s'∧Rel n w0 S0 s' a' w') Q:=bV hr ⟨_,hK,(h.put (ba ho) hp).rel⟩
theorem bo {c:Ctx} {k:IntKind} {x:Int} {v:Value} (h:ai c (.iv (.int k) x) v):v= .int k x∧k.min≤x∧x≤k.max:=by
 simp only[ai]at h;obtain⟨_,hv,h⟩:=h;injection hv with hv;exact⟨hv,h⟩
theorem bK {c:Ctx} {k:IntKind} {x:Int} (h:k.min≤x∧x≤k.max):ai c (.iv (.int k) x) (.int k x):=by simp only[ai];exact⟨rfl,rfl,h⟩
theorem eV {c:Ctx} {x:Bool} {v:Value} (h:ai c (.iv .bool x) v):v= .bool x:=by simp only[ai]at h;obtain⟨_,hv⟩:=h;injection hv
theorem bs {c:Ctx} {x:Bool} :ai c (.iv .bool x) (.bool x):=by simp only[ai];exact⟨rfl,rfl⟩
theorem cI {c:Ctx} {x:List UInt8} {v:Value} (h:ai c (.iv .str x) v):v= .string ⟨x.toArray⟩∧x.length≤9223372036854775807:=by
 simp only[ai]at h;obtain⟨_,hv,h⟩:=h;injection hv with hv;exact⟨hv,h⟩
theorem jV {c:Ctx} {x:List UInt8} (h:x.length≤9223372036854775807):ai c (.iv .str x) (.string ⟨x.toArray⟩):=by simp only[ai];exact⟨rfl,rfl,h⟩
theorem DV(h:Full n w0 S0 s a w ν S)(ho:bF n o=true) {x:Operand} (aC:o.op= .move x)(ae:aP E (aj E F s o) (fun l=>K (s.fin o.dst l))):o.wp E.P a w (fun a' w'=> ∃s',K s'∧Rel n w0 S0 s' a' w') Q:=by
 simp only[aj,aC,aP]at ae;refine h.val ho ?_ (h.ev (aw ho (by simp[aC,Op.operands]))) ae;simp only[execOp,aC,Sem.run_pure]
theorem zj(h:Full n w0 S0 s a w ν S)(ho:bF n o=true) {x:Operand} (aC:o.op= .assign x)(ae:aP E (aj E F s o) (fun l=>K (s.fin o.dst l))):o.wp E.P a w (fun a' w'=> ∃s',K s'∧Rel n w0 S0 s' a' w') Q:=by
 simp only[aj,aC,aP]at ae;refine h.val ho ?_ (h.ev (aw ho (by simp[aC,Op.operands]))) ae;simp only[execOp,aC,Sem.run_pure]
theorem ue(h:Full n w0 S0 s a w ν S)(ho:bF n o=true) {x:Operand} (aC:o.op= .nilCheck x)(ae:aP E (aj E F s o) (fun l=>K (s.fin o.dst l))):o.wp E.P a w (fun a' w'=> ∃s',K s'∧Rel n w0 S0 s' a' w') Q:=by
 simp only[aj,aC]at ae;have hx:=h.ev (aw ho (x:=x) (by simp[aC,Op.operands]));(have fin: ∀ {p:PV} {ad:Addr},ai h.c p (a.eval x)→a.eval x= .pointer (some ad)→K (s.fin o.dst (.val p))→o.wp E.P a w (fun a' w'=> ∃s',K s'∧Rel n w0 S0 s' a' w') Q:=by intro p ad hr he hk;rw[he]at hr;refine h.val ho ?_ hr hk;simp only[execOp,aC,he,Sem.run_pure])
 split at ae;(·rename_i id off bt;rw[bt]at hx;have fp:=hx;simp only[ai]at fp;obtain⟨_,g,_,hv⟩:=fp;exact fin hx hv ae);(·rename_i U y off bt;rw[bt]at hx;have fp:=hx;simp only[ai]at fp;obtain⟨_,g,ob,cs,hv,_⟩:=fp;exact fin hx hv ae)
 (·rename_i id sz i off bt;rw[bt]at hx;have fp:=hx;simp only[ai]at fp;obtain⟨_,g,ob,n,cap,_,_,hv⟩:=fp;exact fin hx hv ae);(·rename_i U y bt;rw[bt]at hx;have fp:=hx;simp only[ai,iy,b8,av]at fp;obtain⟨eH,g,ob,cs,hv,hS,hl,hc,hr⟩:=fp;simp only[List.cons.injEq,and_true]at hv;refine fin (p:=.cK U y 0) (ad:=⟨g,ob,none⟩) ?_ hv ae;simp only[ai];exact⟨eH,g,ob,cs,hv,hS,hl,hc,hr⟩)
 ·exact ae.elim
theorem we: ∀ {T:Ty},fA T=true→aB T=0:=by
 intro T;induction T with|own t=>intro h;cases h|pair a b et dR=>intro h;simp only[fA,Bool.and_eq_true]at h;simp only[aB,et h.1,dR h.2]|bC a b et dR=>intro h;simp only[fA,Bool.and_eq_true]at h;simp only[aB,et h.1,dR h.2]|mp a b et dR=>intro h;simp only[fA,Bool.and_eq_true]at h;simp only[aB,et h.1,dR h.2]|st t ih=>exact ih|sl t ih=>exact ih|ptr t ih=>exact ih|ea f t ih=>exact ih|_=>intro _;rfl
theorem DW(h:Full n w0 S0 s a w ν S)(ho:bF n o=true) {x y z:Operand} (aC:o.op= .pick x y z)(ae:aP E (aj E F s o) (fun l=>K (s.fin o.dst l))):o.wp E.P a w (fun a' w'=> ∃s',K s'∧Rel n w0 S0 s' a' w') Q:=by
 simp only[aj,aC]at ae;have hx:=h.ev (aw ho (x:=x) (by simp[aC,Op.operands]));have hy:=h.ev (aw ho (x:=y) (by simp[aC,Op.operands]));have hz:=h.ev (aw ho (x:=z) (by simp[aC,Op.operands]))
 split at ae;(·rename_i b hb;rw[hb]at hx;have hv:=eV hx;cases b;(·refine h.val ho ?_ hz ae;simp[execOp,aC,hv,asBool]);·refine h.val ho ?_ hy ae;simp[execOp,aC,hv,asBool])
 ·exact ae.elim
theorem DX(w:World)(row:Option Nat):dn w w.drew row:=⟨rfl,rfl,rfl,Nat.le_refl _,fun _ _ _=>rfl,fun _=>Nat.le_succ _⟩
theorem nj(hE:aA E)(h:Full n w0 S0 s a w ν S)(ho:bF n o=true) {t:Nat} {x:Operand} (aC:o.op= .makeInterface t x)(ae:aP E (aj E F s o) (fun l=>K (s.fin o.dst l))):o.wp E.P a w (fun a' w'=> ∃s',K s'∧Rel n w0 S0 s' a' w') Q:=by
 simp only[aj,aC]at ae;have hx:=h.ev (aw ho (x:=x) (by simp[aC,Op.operands]));split at ae;(·rename_i hc;have hc:=hE.Dv t hc;unfold DO at hc;refine h.val ho (p:=.m6 t [s.ev x]) (v:=.iface t (a.eval x)) ?_ (by simp only[ai,ak];exact⟨_,rfl,_,[],rfl,hx,rfl⟩) ae;cases hu:E.P.underlying t with|none=>rw[hu]at hc;cases hc|some d=>rw[hu]at hc;(have hi:(Instr.makeInterface t (a.eval x)).run E.P w= .ok (.iface t (a.eval x)) w:=by unfold Instr.makeInterface;simp only[Sem.run_bind,run_underlying hu,Result.andThen_ok];cases d<;>first|(cases hc;done)|rfl);simp only[execOp,aC,Sem.run_bind,hi,Result.andThen_ok,Sem.run_pure])
 ·exact ae.elim
theorem qR(hE:aA E)(h:Full n w0 S0 s a w ν S)(ho:bF n o=true) {x:Operand} {xt u:Nat} {ok:Bool} (aC:o.op= .typeAssert x xt u ok)(ae:aP E (aj E F s o) (fun l=>K (s.fin o.dst l))):o.wp E.P a w (fun a' w'=> ∃s',K s'∧Rel n w0 S0 s' a' w') Q:=by
 simp only[aj,aC]at ae;have hx:=h.ev (aw ho (x:=x) (by simp[aC,Op.operands]));split at ae;(·rename_i hc;have hc:=hE.Dv u hc;unfold DO at hc;unfold sh at ae;split at ae;(·rename_i t q bt;rw[bt]at hx;simp only[ai,ak]at hx;obtain⟨v,hv,v',r,DR,hq,hr⟩:=hx;subst hr;injection DR with DR;subst DR;(have hi:Nat.beq t u=true→(Instr.typeAssert (a.eval x) xt u ok).run E.P w= .ok (if ok then .tuple #[v,.bool true]else v) w:=fun hb=>by have e:=Nat.eq_of_beq_eq_true hb;subst e;rw[hv];cases hu:E.P.underlying t with|none=>rw[hu]at hc;cases hc|some d=>rw[hu]at hc;unfold Instr.typeAssert;simp only[Sem.run_bind,run_underlying hu,Result.andThen_ok];cases d<;>first|(cases hc;done)|simp);split at ae;(·rename_i hb;refine h.val (v:=.tuple #[v,.bool true]) ho ?_ ?_ ae;(·have:=hi hb;simp only[execOp,aC,Sem.run_bind,this,Result.andThen_ok,Sem.run_pure,if_true];try rfl);·simp only[ai,ak];exact⟨[v,.bool true],rfl,v,_,rfl,hq,.bool true,[],rfl,bs,rfl⟩);(·rename_i hb;refine h.val (v:=v) ho ?_ hq ae;have:=hi hb;simp only[execOp,aC,Sem.run_bind,this,Result.andThen_ok,Sem.run_pure,Bool.false_eq_true,if_false];try rfl);·exact ae.elim);·exact ae.elim)
 ·exact ae.elim
theorem Full.Bg(h:Full n w0 S0 s a w ν S) {d:Nat} (hd:d<n)(hl:look d s.bl=none) {cs:List PV} {vs:List Value} {e:TypeId} {te:Option Nat} (Kp: ∀t,te=some t→e=t)(h1: ∀u,u∈vs→u.oneCell'=true)(hp:ak h.c cs vs):Rel n w0 S0 ⟨(d,.ref d 0)::s.sl,(d,.box cs te)::s.bl⟩ (a.put (some d) (.pointer (some ⟨w.heap.size,0,none⟩))) (w.alloc (.cells vs.toArray e)):=by
 have hD:(⟨(d,.ref d 0)::s.sl,(d,.box cs te)::s.bl⟩:St).D d:=⟨_,aS _ _ _⟩;(have cA: ∀i,s.D i→i≠d∧(⟨(d,.ref d 0)::s.sl,(d,.box cs te)::s.bl⟩:St).D i:=by rintro i⟨c,hc⟩;(have cA:i≠d:=by rintro rfl;rw[hl]at hc;cases hc);exact⟨cA,c,by rw[aF _ _ cA];exact hc⟩)
 have hle:Ctx.Le h.c ⟨fun i=>if i=d then .pointer (some ⟨w.heap.size,0,none⟩)else ν i,(⟨(d,.ref d 0)::s.sl,(d,.box cs te)::s.bl⟩:St).D,w.alloc (.cells vs.toArray e),⟨S,ax w0 S0⟩⟩:=⟨fun g hg=>Below.heap_alloc w _ g (h.W.lt g hg),fun _ h=>h,fun i hi=>(cA i hi).2,fun i hi=>by simp[(cA i hi).1,Full.c]⟩
 refine(h.new (b:=.box cs te) (p:=.ref d 0) (v:=.pointer (some ⟨w.heap.size,0,none⟩)) (val:=.pointer (some ⟨w.heap.size,0,none⟩)) hd hl (da w _ none) (fun g hg=>h.beyond (by injection hg with hg;simp at hg;omega)) ?_ ?_).rel
 (·exact⟨fun t ht g hg=>by simp only[if_true,aI,Option.some.injEq]at hg;subst hg;rw[←Kp t ht];exact⟨by simp[KH],_,_,_root_.Go.heap_alloc_new w _⟩,w.heap.size,vs.toArray,e,by simp,h.W.size _ (Nat.le_refl _),fun hS=>absurd (h.W.lt _ hS) (by simp),_root_.Go.heap_alloc_new w _,by simpa using h1,by simpa using bu hle hp⟩)
 ·simp only[ai];exact⟨hD,w.heap.size,by simp,rfl⟩
theorem jW {c:Ctx} : ∀(T:Ty)(cs:List PV),zeroCells T=some cs→ ∃vs,cq T=some vs∧ak c cs vs∧ ∀u,u∈vs→u.oneCell'=true:=by
 intro T;induction T with|unit=>intro cs h;simp only[zeroCells,Option.some.injEq]at h;subst h;exact⟨[],rfl,by simp only[ak],by simp⟩|int k=>intro cs h;simp only[zeroCells,Option.some.injEq]at h;subst h;refine⟨[.int k 0],rfl,?_,by simp[Value.oneCell']⟩;simp only[ak];exact⟨_,[],rfl,bK (by cases k<;>decide),rfl⟩|bool=>intro cs h;simp only[zeroCells,Option.some.injEq]at h;subst h;exact⟨[.bool false],rfl,by simp only[ak];exact⟨_,[],rfl,bs,rfl⟩,by simp[Value.oneCell']⟩|str=>intro cs h;simp only[zeroCells,Option.some.injEq]at h;subst h;exact⟨[.string ⟨#[]⟩],rfl,by simp only[ak];exact⟨_,[],rfl,jV (by simp),rfl⟩,by simp[Value.oneCell']⟩|sl t=>intro cs h;simp only[zeroCells,Option.some.injEq]at h;subst h;exact⟨[.slice none 0 0],rfl,by simp only[ak,ai];exact⟨_,[],rfl,rfl,rfl⟩,by simp[Value.oneCell']⟩|own t=>intro cs h;simp[zeroCells]at h|bC a b=>intro cs h;simp[zeroCells]at h|ptr t=>intro cs h;simp only[zeroCells,Option.some.injEq]at h;subst h;exact⟨[.pointer none],rfl,by simp only[ak,ai];exact⟨_,[],rfl,rfl,rfl⟩,by simp[Value.oneCell']⟩|ea f t=>intro cs h;simp[zeroCells]at h|mp a b=>intro cs h;simp only[zeroCells]at h;split at h;(·rename_i hn;simp only[Option.some.injEq]at h;subst h;exact⟨[.map none],rfl,by simp only[ak,ai,iy,b8,av];exact⟨_,[],rfl,⟨we hn,by simp,.inl ⟨rfl,trivial⟩⟩,rfl⟩,by simp[Value.oneCell']⟩);(·simp only[Option.some.injEq]at h;subst h;exact⟨[.map none],rfl,by simp only[ak,ai];exact⟨_,[],rfl,trivial,rfl⟩,by simp[Value.oneCell']⟩)|bG=>intro cs h;simp only[zeroCells,Option.some.injEq]at h;subst h;exact⟨[.nilFunc],rfl,by simp only[ak,ai];exact⟨_,[],rfl,trivial,rfl⟩,by simp[Value.oneCell']⟩|st t ih=>intro cs h;exact ih cs h|pair a b et dR=>intro cs h;simp only[zeroCells]at h;split at h;(·rename_i x y hx hy;simp only[Option.some.injEq]at h;subst h;obtain⟨va,ha,KN,Ua⟩:=et x hx;obtain⟨vb,hb,NH,Ub⟩:=dR y hy;refine⟨va++vb,by simp only[cq,ha,hb],bw KN NH,fun u hu=>?_⟩;rcases List.mem_append.1 hu with hu|hu;(·exact Ua u hu);·exact Ub u hu);·cases h
theorem gn {T:Ty} {z:Value} {vs:List Value} (hz:jP (some z) T=true)(hv:cq T=some vs):z.cells.toList=vs:=by
 unfold jP at hz;rw[hv]at hz;simp only at hz;split at hz;(·split at hz;(·exact gM hz);·cases hz);·split at hz;(·rename_i u;have:=iK hz;subst this;unfold tQ at hz;split at hz<;>first|rfl|cases hz);·cases hz
theorem Bh(hE:aA E)(h:Full n w0 S0 s a w ν S)(ho:bF n o=true) {t:Nat} (aC:o.op= .alloc t)(ae:aP E (aj E F s o) (fun l=>K (s.fin o.dst l))):o.wp E.P a w (fun a' w'=> ∃s',K s'∧Rel n w0 S0 s' a' w') Q:=by
 simp only[aj,aC]at ae;split at ae;(·rename_i T d hT hd;split at ae;(·rename_i cs hl hz;simp only[aP,St.fin,hd]at ae;obtain⟨vs,wg,hp,h1⟩:=jW (c:=h.c) T cs hz;obtain⟨i,hi,_,_,uf,z,Kq,_⟩:=(hE.facts hT).info;rw[Kq]at uf;have DB:=gn uf wg;(have hr:(execOp a.eval o).run E.P w= .ok (.value (.pointer (some ⟨w.heap.size,0,none⟩))) (w.alloc (.cells vs.toArray t)):=by simp only[execOp,aC,Instr.alloc,Sem.run_bind,zeroValue,typeInfo,Sem.run_bind,run_program,Result.andThen_ok,hi,Kq,Sem.run_pure,newVar,newRow,run_newObj];rw[←DB];rfl);refine bV hr ⟨_,ae,?_⟩;rw[hd];exact h.Bg (ba ho d hd) hl (fun t' ht=>by cases hb:E.AY t with|true=>(rw[hb]at ht;exact Option.some.inj ht)|false=>(rw[hb]at ht;cases ht)) h1 hp);·exact ae.elim)
 ·exact ae.elim
theorem GK(h:Full n w0 S0 s a w ν S)(ho:bF n o=true) {t:Nat} {x:Operand} (aC:o.op= .box t x)(ae:aP E (aj E F s o) (fun l=>K (s.fin o.dst l))):o.wp E.P a w (fun a' w'=> ∃s',K s'∧Rel n w0 S0 s' a' w') Q:=by
 simp only[aj,aC]at ae;have hx:=h.ev (aw ho (x:=x) (by simp[aC,Op.operands]));split at ae;(·rename_i d cs hd wh;split at ae;(·rename_i hl;simp only[aP,St.fin,hd]at ae;obtain⟨hp,h1⟩:=gj hx wh;(have hr:(execOp a.eval o).run E.P w= .ok (.value (.pointer (some ⟨w.heap.size,0,none⟩))) (w.alloc (.cells (a.eval x).cells.toList.toArray t)):=by simp only[execOp,aC,Instr.box,Sem.run_bind,newVar,newRow,run_newObj,Result.andThen_ok,Sem.run_pure,Array.toArray_toList];rfl);refine bV hr ⟨_,ae,?_⟩;rw[hd];exact h.Bg (ba ho d hd) hl (fun t' ht=>by cases ht) h1 hp);·exact ae.elim)
 ·exact ae.elim
theorem Full.nk(h:Full n w0 S0 s a w ν S) {d:Nat} (hd:d<n)(hl:look d s.bl=none) {T:Ty} {te:Option Nat} {xs:List T.den} {v:Value} {w':World} (hT:aB T=0)(hw:dn w w' none)(hs: ∃a n c,v= .slice a n c)(eu: ∀g,aI v=some g→w.heap.size≤g)(hr:av (.own T) xs w' ⟨S,ax w0 S0⟩ [v])(Kp:dN te w' v):Rel n w0 S0 ⟨(d,.aE d)::s.sl,(d,.arr T xs te)::s.bl⟩ (a.put (some d) v) w':=by
 refine(h.new (b:=.arr T xs te) (p:=.aE d) (v:=v) (val:=v) hd hl hw (fun g hg=>h.beyond (eu g hg)) ?_ ?_).rel;(·exact⟨Kp.eE (by simp) fun _ _=>rfl,hT,by simpa using hr⟩)
 ·simp only[ai];exact⟨⟨_,aS _ _ _⟩,by simp,hs⟩
theorem eP(s:St): ∀(l:List (Nat×Operand)),ck s l=l.map fun p=>(p.1,s.ev p.2)|[]=>rfl|p::l=>by simp[ck,eP s l]
theorem lY(s:St): ∀(l:List Operand),bB s l=l.map s.ev|[]=>rfl|p::l=>by simp[bB,lY s l]
theorem ef(h:Full n w0 S0 s a w ν S): ∀(l:List Operand),(∀x,x∈l→iL x=true)→ak h.c (bB s l) (l.map a.eval)|[],_=>(by simp only[bB,List.map_nil,ak])|x::l,hc=>by simp only[bB,List.map_cons,ak];exact⟨_,_,rfl,h.ev (hc x (by simp)),ef h l (fun y hy=>hc y (by simp[hy]))⟩
end
/-! ### Literals -/
theorem ug: ∀(vs:List Value)(k off:Nat)(cells:Array Value),off+k+vs.length≤cells.size→((vs.zipIdx k).foldl (fun cs p=>cs.setIfInBounds (off+p.2) p.1) cells).toList=cells.toList.take (off+k)++vs++cells.toList.drop (off+k+vs.length)|[],k,off,cells,h=>(by simp)|v::vs,k,off,cells,h=>by simp only[List.length_cons]at h;simp only[List.zipIdx_cons,List.foldl_cons];rw[ug vs (k+1) off _ (by simp;omega)];simp only[Array.toList_setIfInBounds];(have h1:(cells.toList.set (off+k) v).take (off+(k+1))=cells.toList.take (off+k)++ [v]:=by rw[show off+(k+1)=(off+k)+1 from by omega,List.take_succ_eq_append_getElem (by simp;omega)];rw[List.take_set_of_le (by omega),List.getElem_set_self]);(have h2:(cells.toList.set (off+k) v).drop (off+(k+1)+vs.length)=cells.toList.drop (off+k+(v::vs).length):=by rw[List.drop_set_of_lt (by omega)];congr 1;simp;omega);rw[h1,h2];simp
theorem uh {place:Nat→Option (Nat×Nat)} {i off size:Nat} {v:Value} {cells:Array Value} {rest:List (Nat×Value)} (hp:place i=some (off,size))(hs:v.cells.size=size)(hf:off+v.cells.size≤cells.size):Instr.fill place cells ((i,v)::rest)=Instr.fill place (cells.toList.take off++v.cells.toList++cells.toList.drop (off+v.cells.size)).toArray rest:=by
 simp only[Instr.fill,hp];rw[if_neg (by simp[hs];omega)];congr 1;have:=ug v.cells.toList 0 off cells (by simpa using hf);simp only[Nat.add_zero]at this;(have e:(v.cells.zipIdx.foldl (fun cs x=>match x with|(c,j)=>cs.setIfInBounds (off+j) c) cells)=(v.cells.toList.zipIdx.foldl (fun cs p=>cs.setIfInBounds (off+p.2) p.1) cells):=by rw[←Array.foldl_toList,Array.toList_zipIdx])
 rw[e];apply Array.toList_inj.1;rw[this];simp
theorem ui {c:Ctx} {T:Ty} {place:Nat→Option (Nat×Nat)} (Bi: ∀i,i<fi T→place i=some (fC T i,(jh T i).cells)): ∀(ps:List (Nat×PV))(vs:List (Nat×Value))(cs tZ:List PV)(cells:Array Value),ps.length=vs.length→(∀(k:Nat)(p:Nat×PV)(v:Nat×Value),ps[k]?=some p→vs[k]?=some v→p.1=v.1∧ai c p.2 v.2)→ak c cs cells.toList→(∀u,u∈cells.toList→u.oneCell'=true)→ri T ps cs=some tZ→ ∃out,Instr.fill place cells vs=some out∧ak c tZ out.toList∧ ∀u,u∈out.toList→u.oneCell'=true|[],[],cs,tZ,cells,_,_,hc,h1,h=>(by simp only[ri,Option.some.injEq]at h;subst h;exact⟨cells,rfl,hc,h1⟩)|[],_::_,_,_,_,hl,_,_,_,_=>(by cases hl)|_::_,[],_,_,_,hl,_,_,_,_=>(by cases hl)|p::ps,v::vs,cs,tZ,cells,hl,hr,hc,h1,h=>by obtain⟨AK,aX⟩:=hr 0 p v rfl rfl;simp only[ri]at h;split at h;(·rename_i us FV;obtain⟨KP,wm⟩:=gj aX FV;split at h;(·rename_i hle uj cX;(have hlen:us.length=(jh T p.1).cells:=by(have: ∀ {α:Type} (l:List α)(k:Nat),oS l k=true→l.length=k:=by intro α l;induction l with|nil=>intro k hk;(cases k<;>first|rfl|cases hk)|cons x l ih=>intro k hk;cases k with|zero=>cases hk|succ k=>simp[ih k hk]);exact this _ _ hle);(have qQ:us.length=v.2.cells.size:=by rw[cc KP];simp);have eG:=cc hc;have cF:=Nat.le_of_ble_eq_true uj;(have zi:p.1<fi T:=by simpa[Nat.blt_eq]using cX);(have NO:cs.length=cells.size:=by rw[eG];simp);obtain⟨pi,pv⟩:=p;obtain⟨vi,vv⟩:=v;simp only at AK zi hlen qQ cF;subst AK;rw[uh (Bi pi zi) (by rw[←qQ,hlen]) (by rw[←qQ,←NO];exact cF)];refine ui Bi ps vs _ tZ _ (by simpa using hl) (fun k p' v' FW FX=>hr (k+1) p' v' FW FX) ?_ ?_ h;(·simp only[qQ];exact bw (bw (cC _ hc) KP) (cB _ hc));·intro u hu;simp only[List.mem_append]at hu;rcases hu with(hu|hu)|hu;(·exact h1 u (List.mem_of_mem_take hu));(·exact wm u hu);·exact h1 u (List.mem_of_mem_drop hu));·cases h);·cases h
end Go.Proofs.Ytbbmofoiipjbgaa
namespace Go.Proofs.Ytbbmofoiipjbgaa
variable {cH:Prop} [fV cH]
open Go.RowKit
section
variable {E:Env} {n:Nat} {w0:World} {S0:Cx} {s:St} {a:Act} {w:World} {ν:Nat→Value} {S:Nat→Prop} {F:cm} {o:Oper} {K:St→Prop} {Q:Exit→Act→World→Prop}
theorem nS {ty:Nat→Option Ty} : ∀(fs:List Field)(R:Ty)(off:Nat),bn ty fs R off=true→ ∀(i:Nat),i<bD R→ ∃f,fs[i]?=some f∧f.offset=off+cR R i∧ty f.type=some (aY R i)∧1≤(aY R i).cells∧(aY R i).val=true∧f.name≠ "_" |[],R,off,h,i,hi=>(by cases h)|[f],R,off,h,i,hi=>(by simp only[bn,Bool.and_eq_true,jQ]at h;obtain⟨⟨⟨⟨h1,h2⟩,h3⟩,h4⟩,h5⟩:=h;(have cA: ∀x y,R≠ .pair x y:=by rintro x y rfl;cases h4);(have eG:bD R=1:=by cases R<;>first|rfl|exact absurd rfl (cA _ _));(have KQ:i=0:=by omega);subst KQ;(have Dz:cR R 0=0:=by cases R<;>first|rfl|exact absurd rfl (cA _ _));(have tz:aY R 0=R:=by cases R<;>first|rfl|exact absurd rfl (cA _ _));split at h2;(·rename_i U hU;rw[Ty.bZ h2]at hU;exact⟨f,rfl,by rw[Dz,Nat.eq_of_beq_eq_true h1];omega,by rw[tz];exact hU,by rw[tz];exact Nat.le_of_ble_eq_true h3,by rw[tz];exact h4,by simpa using h5⟩);·cases h2)|f::g::gs,R,off,h,i,hi=>by cases R with|pair x y=>simp only[bn,Bool.and_eq_true,jQ]at h;obtain⟨⟨⟨⟨⟨h1,h2⟩,h3⟩,h4⟩,h5⟩,h6⟩:=h;split at h2;(·rename_i U hU;rw[Ty.bZ h2]at hU;cases i with|zero=>exact⟨f,rfl,by simp[cR,Nat.eq_of_beq_eq_true h1],hU,Nat.le_of_ble_eq_true h3,h4,by simpa using h5⟩|succ i=>obtain⟨f',e1,e2,e3⟩:=nS (g::gs) y (off+x.cells) (by unfold bn;exact h6) i (by simp[bD]at hi;omega);exact⟨f',by simpa using e1,by simp only[cR];omega,e3⟩);(·cases h2)|_=>simp only[bn]at h;cases h
theorem lZ {ty:Nat→Option Ty} : ∀(fs:List Field)(R:Ty)(off:Nat),bn ty fs R off=true→fs.length=bD R|[],R,off,h=>(by cases h)|[f],R,off,h=>(by simp only[bn,Bool.and_eq_true]at h;have h4:=h.1.2;cases R<;>first|rfl|cases h4)|f::g::gs,R,off,h=>by cases R with|pair x y=>simp only[bn,Bool.and_eq_true]at h;have:=lZ (g::gs) y (off+x.cells) (by unfold bn;exact h.2);simp only[List.length_cons]at this⊢;simp only[bD];omega|_=>simp only[bn]at h;cases h
theorem ky(V:Ty)(hV:V.val=true): ∀n,0<n→bD (rowOf V n)=n|0,h=>(by cases h)|1,_=>(by cases V<;>first|rfl|cases hV)|n+2,_=>by simp only[rowOf,bD];rw[ky V hV (n+1) (by omega)];omega
theorem ij(V:Ty)(hV:V.val=true): ∀n i,i<n→cR (rowOf V n) i=i*V.cells∧aY (rowOf V n) i=V|0,i,h=>(by cases h)|1,i,h=>(by(have:i=0:=by omega);subst this;cases V<;>first|exact⟨by simp[rowOf,cR],rfl⟩|cases hV)|n+2,0,_=>(by simp[rowOf,cR,aY])|n+2,i+1,h=>by obtain⟨h1,h2⟩:=ij V hV (n+1) i (by omega);simp only[rowOf,cR,aY];exact⟨by rw[h1,Nat.add_mul];omega,h2⟩
theorem jX(V:Ty): ∀n,(rowOf V n).cells=n*V.cells|0=>(by simp[rowOf,Ty.cells])|1=>(by simp[rowOf])|n+2=>by simp only[rowOf,Ty.cells];rw[jX V (n+1),Nat.add_mul (n+1) 1];omega
theorem bL.agg(hE:aA E) {t:Nat} {R:Ty} (h:bL E t (.st R)):(∃fs,E.P.underlying t=some (.struct fs)∧fs.size=bD R∧ ∀i,i<bD R→ ∃f,fs[i]?=some f∧f.offset=cR R i∧E.ty f.type=some (aY R i)∧1≤(aY R i).cells∧(aY R i).val=true∧f.name≠ "_")∨(∃m e V,E.P.underlying t=some (.array m e)∧E.ty e=some V∧R=rowOf V m∧V.val=true∧1≤V.cells∧2≤m):=by
 obtain⟨d,hd,hs⟩:=h.kV;(cases d<;>simp only[b6]at hs<;>first|cases hs|skip);(·rename_i m e;split at hs;(·rename_i V hV;simp only[Bool.and_eq_true]at hs;exact .inr ⟨_,_,V,hd,hV,Ty.bZ hs.1.1.1,hs.1.1.2,Nat.le_of_ble_eq_true hs.1.2,Nat.le_of_ble_eq_true hs.2⟩);·cases hs)
 ·rename_i fs;refine .inl ⟨fs,hd,by simpa using lZ _ _ _ hs,fun i hi=>?_⟩;obtain⟨f,h1,h2,h3⟩:=nS fs.toList R 0 hs i hi;exact⟨f,by simpa using h1,by simpa using h2,h3⟩
theorem Bj(hE:aA E)(h:Full n w0 S0 s a w ν S)(ho:bF n o=true) {t:Nat} {parts:Array (Nat×Operand)} (aC:o.op= .build t parts)(ae:aP E (aj E F s o) (fun l=>K (s.fin o.dst l))):o.wp E.P a w (fun a' w'=> ∃s',K s'∧Rel n w0 S0 s' a' w') Q:=by
 simp only[aj,aC]at ae;split at ae;(·rename_i NP qS;have he:=hE.emp t NP;unfold GG at he;split at he;(·rename_i i fs hi hu;simp only[Bool.and_eq_true]at he;obtain⟨h1,h2⟩:=he;split at h2;(·rename_i cs hz;have wh:cs= #[]:=Array.toList_inj.1 (by simpa using h2);have Uc:fs= #[]:=Array.toList_inj.1 (by simpa using h1);have qT:parts= #[]:=Array.toList_inj.1 (by rw[qS]);subst wh;subst Uc;subst qT;refine h.val ho (p:=.agg []) (v:=.agg #[]) ?_ (by simp only[ai,ak];exact⟨[],rfl,by simp,rfl⟩) ae;(have AL:(zeroValue t).run E.P w= .ok (.agg #[]) w:=by simp[zeroValue,typeInfo,hi,hz]);simp[execOp,aC,Instr.build,AL,run_underlying hu,Value.cells,Instr.fill]);·cases h2);·cases he)
 simp only[oV]at ae;split at ae;(·rename_i R hT;split at ae;(·rename_i z hz;split at ae;(·rename_i cs KR;have hf:=hE.facts hT;obtain⟨vs,wg,hp,h1⟩:=jW (c:=h.c) (.st R) z hz;obtain⟨i,hi,cr,_,uf,zv,Kq,_⟩:=hf.info;rw[Kq]at uf;have DB:=gn uf wg;(have wo: ∀(k:Nat)(p:Nat×PV)(v:Nat×Value),(ck s parts.toList)[k]?=some p→((parts.map fun x=>(x.1,a.eval x.2)).toList)[k]?=some v→p.1=v.1∧ai h.c p.2 v.2:=by intro k p v hk hv;rw[eP,List.getElem?_map]at hk;simp only[Array.toList_map,List.getElem?_map]at hv;cases hx:parts.toList[k]? with|none=>rw[hx]at hk;cases hk|some x=>rw[hx]at hk hv;simp only[Option.map_some,Option.some.injEq]at hk hv;subst hk;subst hv;refine⟨rfl,h.ev (aw ho ?_)⟩;have hm:x∈parts:=Array.mem_toList_iff.1 (List.mem_of_getElem? hx);simp only[aC,Op.operands,List.mem_toArray,List.mem_map];exact⟨x,Array.mem_toList_iff.2 hm,rfl⟩);(have hlen:(ck s parts.toList).length=((parts.map fun x=>(x.1,a.eval x.2)).toList).length:=by simp[eP]);(have main: ∀place:Nat→Option (Nat×Nat),(∀i,i<fi (.st R)→place i=some (fC (.st R) i,(jh (.st R) i).cells))→ ∃out,Instr.fill place zv.cells (parts.map fun x=>(x.1,a.eval x.2)).toList=some out∧ai h.c (.agg cs) (.agg out):=by intro place Bi;obtain⟨out,h2,h3,h4⟩:=ui Bi _ _ z cs zv.cells hlen wo (by rw[DB];exact hp) (by rw[DB];exact h1) KR;refine⟨out,h2,?_⟩;simp only[ai];exact⟨out.toList,by simp,h4,h3⟩);rcases hf.agg hE with⟨fs,hu,su,KS⟩|⟨m,e,V,hu,he,rfl,hV,NQ,hm⟩;(·(have DY: ∀(l:List Field),(∀f,f∈l→ ∃j,E.P.info? f.type=some j)→(l.mapM fun f=>do pure (f.offset,←sizeOf f.type):Sem (List (Nat×Nat))).run E.P w= .ok (l.map fun f=>(f.offset,E.P.cellsOf f.type)) w:=by intro l;induction l with|nil=>intro _;simp|cons f l ih=>intro hl;obtain⟨j,hj⟩:=hl f (by simp);have:=ih (fun g hg=>hl g (by simp[hg]));(have step:(do pure (f.offset,←sizeOf f.type):Sem (Nat×Nat)).run E.P w= .ok (f.offset,E.P.cellsOf f.type) w:=by simp[sizeOf,typeInfo,hj,Program.cellsOf]);rw[List.mapM_cons,Sem.run_bind,step];simp only[Result.andThen_ok];rw[Sem.run_bind,this];simp only[Result.andThen_ok,Sem.run_pure,List.map_cons]);(have KT: ∀f,f∈fs.toList→ ∃j,E.P.info? f.type=some j:=by intro f FY;obtain⟨k,hk⟩:=List.getElem?_of_mem FY;(have tA:k<bD R:=by rw[←su];have:=(List.getElem?_eq_some_iff.1 hk).1;simpa using this);obtain⟨f',wm,_,NR,_⟩:=KS k tA;(have:f=f':=by(have:fs.toList[k]?=some f':=by simpa using wm);rw[hk]at this;injection this);subst this;obtain⟨j,hj,_⟩:=(hE.facts NR).info;exact⟨j,hj⟩);have KU:=DY fs.toList KT;obtain⟨out,Dz,aX⟩:=main (fun i=>(fs.map fun f=>(f.offset,E.P.cellsOf f.type))[i]?) (fun i sq=>by obtain⟨f,wm,KV,NR,_⟩:=KS i sq;obtain⟨j,hj,NS,_⟩:=(hE.facts NR).info;simp only[Array.getElem?_map,wm,Option.map_some,fC,jh,Program.cellsOf,hj,Option.getD_some,NS,KV]);refine h.val ho (v:=.agg out) ?_ aX ae;(have Sf:(fs.mapM fun f=>do pure (f.offset,←sizeOf f.type):Sem (Array (Nat×Nat))).run E.P w= .ok (fs.map fun f=>(f.offset,E.P.cellsOf f.type)) w:=by rw[Array.mapM_eq_mapM_toList,Sem.run_map,KU];simp only[Result.andThen_ok];congr 1;exact Array.toList_inj.1 (by simp));simp only[execOp,aC,Instr.build,Sem.run_bind,zeroValue,typeInfo,run_program,Result.andThen_ok,hi,Kq,Sem.run_pure,run_underlying hu,Sf,Dz]);·obtain⟨j,hj,NS,_⟩:=(hE.facts he).info;obtain⟨out,Dz,aX⟩:=main (fun i=>some (i*V.cells,V.cells)) (fun i sq=>by simp only[fi]at sq;rw[ky V hV m (by omega)]at sq;obtain⟨e1,e2⟩:=ij V hV m i sq;simp only[fC,jh,e1,e2]);refine h.val ho (v:=.agg out) ?_ aX ae;simp only[execOp,aC,Instr.build,Sem.run_bind,zeroValue,typeInfo,run_program,Result.andThen_ok,hi,Kq,Sem.run_pure,run_underlying hu,sizeOf,hj,NS,Dz]);·exact ae.elim);·exact ae.elim)
 ·exact ae.elim
end
end Go.Proofs.Ytbbmofoiipjbgaa
namespace Go.Proofs.Ytbbmofoiipjbgaa
variable {cH:Prop} [fV cH]
open Go.RowKit
theorem pa {F F':cm} {bl bl':List (Nat×aJ)} : ∀(T:Ty)(ps:List PV)(r:T.den×List PV),PV.cZ ps=false→PV.bN ps=[]→pk F bl T ps=some r→pk F' bl' T ps=some r∧PV.cZ r.2=false∧PV.bN r.2=[]:=by
 (have cons: ∀(p:PV)(ps:List PV),PV.cZ (p::ps)=false→PV.bN (p::ps)=[]→(PV.refs p=false∧PV.fg p=[])∧PV.cZ ps=false∧PV.bN ps=[]:=by intro p ps h1 h2;simp only[PV.cZ,Bool.or_eq_false_iff]at h1;simp only[PV.bN,List.append_eq_nil_iff]at h2;exact⟨⟨h1.1,h2.1⟩,h1.2,h2.2⟩)
 intro T;induction T with|unit=>intro ps r h1 h2 h;simp only[pk,Option.some.injEq]at h⊢;subst h;exact⟨rfl,h1,h2⟩|pair a b et dR=>intro ps r h1 h2 h;simp only[pk]at h⊢;split at h;(·rename_i x r1 hx;obtain⟨e1,h3,h4⟩:=et ps _ h1 h2 hx;split at h;(·rename_i y r2 hy;obtain⟨e2,h5,h6⟩:=dR r1 _ h3 h4 hy;simp only[Option.some.injEq]at h;subst h;simp only[e1,e2];exact⟨trivial,h5,h6⟩);·cases h);(·cases h)|st t ih=>intro ps r h1 h2 h;simp only[pk]at h⊢;exact ih ps r h1 h2 h|bC a b=>intro ps r h1 h2 h;simp only[pk]at h;cases h|int k=>intro ps r h1 h2 h;(cases ps with|nil=>simp only[pk]at h;cases h|cons p ps=>simp only[pk]at h⊢;obtain⟨x,r'⟩:=r;obtain⟨_,h3,h4⟩:=cons p ps h1 h2;obtain⟨_,rfl⟩:=aG h;exact⟨h,h3,h4⟩)|bool=>intro ps r h1 h2 h;(cases ps with|nil=>simp only[pk]at h;cases h|cons p ps=>simp only[pk]at h⊢;obtain⟨x,r'⟩:=r;obtain⟨_,h3,h4⟩:=cons p ps h1 h2;obtain⟨_,rfl⟩:=aG h;exact⟨h,h3,h4⟩)|str=>intro ps r h1 h2 h;(cases ps with|nil=>simp only[pk]at h;cases h|cons p ps=>simp only[pk]at h⊢;obtain⟨x,r'⟩:=r;obtain⟨_,h3,h4⟩:=cons p ps h1 h2;obtain⟨_,rfl⟩:=aG h;exact⟨h,h3,h4⟩)|sl t ih=>intro ps r h1 h2 h;(cases ps with|nil=>simp only[pk]at h;cases h|cons p ps=>simp only[pk]at h⊢;obtain⟨x,r'⟩:=r;obtain⟨⟨h5,h6⟩,h3,h4⟩:=cons p ps h1 h2;obtain⟨hx,rfl⟩:=aG h;refine⟨?_,h3,h4⟩;cases p<;>first|(simp[PV.fg]at h6;done)|exact h)|own t ih=>intro ps r h1 h2 h;(cases ps with|nil=>simp only[pk]at h;cases h|cons p ps=>simp only[pk]at h⊢;obtain⟨x,r'⟩:=r;obtain⟨⟨h5,h6⟩,h3,h4⟩:=cons p ps h1 h2;obtain⟨hx,rfl⟩:=aG h;refine⟨?_,h3,h4⟩;cases p<;>first|(simp[PV.fg]at h6;done)|exact h)|mp a b=>intro ps r h1 h2 h;(cases ps with|nil=>simp only[pk]at h;cases h|cons p ps=>simp only[pk]at h⊢;obtain⟨x,r'⟩:=r;obtain⟨⟨h5,h6⟩,h3,h4⟩:=cons p ps h1 h2;obtain⟨hx,rfl⟩:=aG h;refine⟨?_,h3,h4⟩;cases p<;>first|(simp[PV.fg]at h6;done)|exact h)|bG=>intro ps r h1 h2 h;(cases ps with|nil=>simp only[pk]at h;cases h|cons p ps=>simp only[pk]at h⊢;obtain⟨x,r'⟩:=r;obtain⟨_,h3,h4⟩:=cons p ps h1 h2;obtain⟨_,rfl⟩:=aG h;exact⟨h,h3,h4⟩)|ptr t ih=>intro ps r h1 h2 h;(cases ps with|nil=>simp only[pk]at h;cases h|cons p ps=>simp only[pk]at h⊢;obtain⟨x,r'⟩:=r;obtain⟨⟨h5,h6⟩,h3,h4⟩:=cons p ps h1 h2;cases p with|ref i off=>simp[PV.refs]at h5|iv U y=>obtain⟨_,rfl⟩:=aG h;exact⟨h,h3,h4⟩|cK U y off=>(cases off with|zero=>obtain⟨_,rfl⟩:=aG h;exact⟨h,h3,h4⟩|succ k=>cases h)|_=>cases h)|ea f t ih=>intro ps r h1 h2 h;cases ps with|nil=>simp only[pk]at h;cases h|cons p ps=>simp only[pk]at h⊢;obtain⟨x,r'⟩:=r;obtain⟨⟨h5,h6⟩,h3,h4⟩:=cons p ps h1 h2;cases p with|iv U y=>obtain⟨_,rfl⟩:=aG h;exact⟨h,h3,h4⟩|fn g cw=>(cases hb:Nat.beq f g with|false=>simp[hb]at h|true=>simp only[hb,cond_true]at h⊢;obtain⟨hx,rfl⟩:=aG h;obtain⟨e1,_⟩:=ih cw _ (by simpa[PV.refs]using h5) (by simpa[PV.fg]using h6) (cD hx);exact⟨by rw[e1];rfl,h3,h4⟩)|_=>cases h
theorem uk {F F':cm} {bl bl':List (Nat×aJ)} {T:Ty} {p:PV} {x:T.den} (h1:PV.refs p=false)(h2:PV.fg p=[])(h:exp F bl T p=some x):exp F' bl' T p=some x:=by
 (have vL:PV.cZ [p]=false:=by simp[PV.cZ,h1]);(have um:PV.bN [p]=[]:=by simp[PV.bN,h2]);cases T with|st t=>(cases p with|iv U y=>exact h|agg cs=>simp only[exp]at h⊢;rw[(pa (F':=F') (bl':=bl') t cs _ (by simpa[PV.refs]using h1) (by simpa[PV.fg]using h2) (cD h)).1];rfl|_=>simp only[exp]at h;cases h)|unit=>simp only[exp]at h;cases h|pair a b=>simp only[exp]at h;cases h|bC a b=>simp only[exp]at h;cases h|_=>simp only[exp]at h⊢;rw[(pa (F':=F') (bl':=bl') _ _ _ vL um (cD h)).1];rfl
theorem cd {id:Nat} {b:aJ} : ∀ {bl:List (Nat×aJ)},look id bl=some b→an id (keys bl)=true|[],h=>(by cases h)|p::r,h=>by simp only[look]at h;simp only[keys,List.map_cons,an];cases hb:Nat.beq id p.1 with|true=>rfl|false=>simp only[hb,cond_false]at h⊢;exact cd h
theorem uo {T:Ty} {c:PV} {x:T.den} (h:jD T c=some x):c= .iv T x:=by
 (cases c<;>simp only[jD]at h<;>first|cases h|skip);rename_i U y;obtain⟨e,hx⟩:=Ty.aT h;subst e;simp only at hx;rw[hx]
theorem pb {T:Ty} : ∀ {cs:List PV} {xs:List T.den},iD T cs=some xs→cs=xs.map (PV.iv T)|[],xs,h=>(by simp only[iD,Option.some.injEq]at h;subst h;rfl)|c::r,xs,h=>by simp only[iD]at h;split at h;(·rename_i x ys hx jA;simp only[Option.some.injEq]at h;subst h;rw[uo hx,pb jA];rfl);·cases h
theorem nm {T:Ty} (h:A5 T=true)(c:PV):join T [c]=c∧T.cells=1∧T.val=true:=by cases T<;>first|(cases h;done)|exact⟨rfl,rfl,rfl⟩
theorem x7 {T:Ty} {cs:List PV} {base m:Nat} {xs:List T.den} (h:iD T ((cs.drop base).take m)=some xs) {k:Nat} {x:T.den} (hx:xs[k]?=some x):(cs.drop (base+k)).take 1=[.iv T x]∧k<m∧base+k<cs.length:=by
 have hm:=pb h;(have hk:((cs.drop base).take m)[k]?=some (.iv T x):=by rw[hm,List.getElem?_map,hx];rfl);(have Sg:k<m:=by rcases Nat.lt_or_ge k m with h'|h';(·exact h');·rw[List.getElem?_eq_none (by rw[List.length_take];omega)]at hk;cases hk)
 rw[List.getElem?_take,if_pos Sg,List.getElem?_drop]at hk;obtain⟨hl,e⟩:=List.getElem?_eq_some_iff.1 hk;refine⟨?_,Sg,hl⟩;rw[List.drop_eq_getElem_cons hl,e];rfl
section
variable {E:Env} {n:Nat} {w0:World} {S0:Cx} {s:St} {a:Act} {w:World} {ν:Nat→Value} {S:Nat→Prop} {F:cm} {o:Oper} {K:St→Prop} {Q:Exit→Act→World→Prop}
theorem Full.Bk(h:Full n w0 S0 s a w ν S) {T:Ty} {p:PV} {x:T.den} {v:Value} (ho:aB T=0)(h1:PV.refs p=false)(h2:PV.fg p=[])(hx:exp F s.bl T p=some x)(hp:ai h.c p v):b8 T x w ⟨S,ax w0 S0⟩ v:=by
 have fp:=uk (F':=⟨keys s.bl,true⟩) (bl':=s.bl) h1 h2 hx;refine di (s:=s) (c:=h.c) (M':=⟨S,ax w0 S0⟩) ⟨rfl,h.W.bJ,fun _ h=>h,fun id hF hD g hg=>?_⟩ (.inl ho) fp hp
 obtain⟨b,hb⟩:=hD;rw[cd hb]at hF;cases hF
theorem wu(P:Program)(t:TypeId)(p:Addr)(w:World):(Instr.loadAt t (.pointer (some p))).run P w=(loadVar t p).run P w:=by simp[Instr.loadAt,Instr.sureAddr]
theorem cP.part {w:World} {g o:Nat} {cs:List Value} (h:cP w g o cs)(off k:Nat):cP w g (o+off) ((cs.drop off).take k):=by
 intro j v hj;(have GL:j<k:=by rcases Nat.lt_or_ge j k with h'|h';(·exact h');·rw[List.getElem?_eq_none (by rw[List.length_take];omega)]at hj;cases hj);rw[List.getElem?_take,if_pos GL,List.getElem?_drop]at hj
 rw[Nat.add_assoc];exact h _ v hj
theorem kz {w:World} {g:Nat} {vs:Array Value} {e:TypeId} (h:w.heap[g]?=some (.cells vs e (0,0))):cP w g 0 vs.toList:=by
 intro j v hj;rw[cell_of_row w g _ vs e (0,0) h,Nat.zero_add];simpa using hj
theorem DZ(hE:aA E)(h:Full n w0 S0 s a w ν S)(ho:bF n o=true) {t:Nat} {x:Operand} (aC:o.op= .load t x)(ae:aP E (aj E F s o) (fun l=>K (s.fin o.dst l))):o.wp E.P a w (fun a' w'=> ∃s',K s'∧Rel n w0 S0 s' a' w') Q:=by
 simp only[aj,aC,gK]at ae;have hx:=h.ev (aw ho (x:=x) (by simp[aC,Op.operands]));(have aU: ∀(p:Addr)(v:Value),a.eval x= .pointer (some p)→(loadVar t p).run E.P w= .ok v w→(execOp a.eval o).run E.P w= .ok (.value v) w:=by intro p v he hl;simp only[execOp,aC,he,Sem.run_bind,wu,hl,Result.andThen_ok,Sem.run_pure])
 split at ae;(·rename_i T hT;have hf:=hE.facts hT;split at ae;(·rename_i id off bt;split at ae;(·rename_i cs te hl;obtain⟨hl,_⟩:=bH hl;split at ae;(·rename_i cF;have cF:=Nat.le_of_ble_eq_true cF;rw[bt]at hx;simp only[ai]at hx;obtain⟨hd,g,hg,hv⟩:=hx;obtain⟨fm,g',vs,e,dV,hB,lT,hh,h1,aX⟩:=h.W.bJ _ _ hl;simp only[Full.c]at hg;simp only at dV;rw[hg]at dV;(obtain rfl:g=g':=by injection dV with e1;injection e1 with e1;injection e1);have eG:=cc aX;have hc:=(kz hh).part off T.cells;rw[Nat.zero_add]at hc;refine h.val ho (aU _ _ hv (dA hf (by rw[List.length_take,List.length_drop];omega) hc)) ?_ ae;refine e9 (by rw[List.length_take,List.length_drop];omega) hf.val (fun u hu=>h1 u (List.mem_of_mem_drop (List.mem_of_mem_take hu))) (cC _ (cB _ aX)));·exact ae.elim);·exact ae.elim);(·rename_i U y off bt;split at ae;(·rename_i cF;have cF:=Nat.le_of_ble_eq_true cF;rw[bt]at hx;simp only[ai]at hx;obtain⟨lR,g,ob,cs,hv,hS,eG,hc,hr⟩:=hx;have lg:=hc.part off T.cells;refine h.val ho (aU _ _ hv (dA hf (by rw[List.length_take,List.length_drop];omega) lg)) ?_ ae;exact o5 lR hf.val cF hr);·exact ae.elim);(·rename_i id sz i off bt;split at ae;(·rename_i U xs te hl;obtain⟨hl,_⟩:=bH hl;split at ae;(·rename_i cF cr;have cF:=Nat.le_of_ble_eq_true cF;have cr:=Nat.eq_of_beq_eq_true cr;obtain⟨y,hy,ae⟩:=ae;rw[bt]at hx;simp only[ai]at hx;obtain⟨hd,g,ob,m,cap,cg,GM,hv⟩:=hx;obtain⟨fm,lR,u,hu,Bl,cj⟩:=h.W.bJ _ _ hl;simp only[Full.c]at cg;simp only[List.cons.injEq,and_true]at hu;rw[cg]at hu;subst hu;rcases cj with⟨hn,_⟩|⟨g',o',jO,cur,e,od,hle,FT,lT,hB,hh,o9,dP⟩;(·cases hn);·injection od with e1 e2 e3;injection e1 with e1;injection e1 with e1 e4;subst e1;subst e4;subst e3;obtain⟨cs,eG,hc,hr⟩:=dP i y hy;have lg:=hc.part off T.cells;rw[cr]at hv;refine h.val ho (aU _ _ hv (dA hf (by rw[List.length_take,List.length_drop];omega) lg)) ?_ ae;exact o5 lR hf.val cF hr);·exact ae.elim);·exact ae.elim);(·rename_i id base U m i bt;split at ae;(·rename_i cs te hl;obtain⟨hl,_⟩:=bH hl;split at ae;(·rename_i xs wv hb;simp only[Bool.and_eq_true]at hb;obtain⟨⟨wx,zk⟩,cF⟩:=hb;have wx:=Ty.bZ wx;subst wx;have cF:=Nat.le_of_ble_eq_true cF;obtain⟨y,hy,ae⟩:=ae;rw[bt]at hx;simp only[ai]at hx;obtain⟨hd,h0,hn,g,hg,hv⟩:=hx;obtain⟨fm,g',vs,e,dV,hB,lT,hh,h1,aX⟩:=h.W.bJ _ _ hl;simp only[Full.c]at hg;simp only at dV;rw[hg]at dV;(obtain rfl:g=g':=by injection dV with e1;injection e1 with e1;injection e1);have eG:=cc aX;obtain⟨e1,e2,e3⟩:=x7 wv hy;obtain⟨j1,j2,j3⟩:=nm zk (.iv T y);have hc:=(kz hh).part (base+i.toNat) T.cells;rw[Nat.zero_add]at hc;refine h.val ho (aU _ _ hv (dA hf (by rw[List.length_take,List.length_drop];omega) hc)) ?_ ae;have:=e9 (T:=T) (c:=h.c) (by rw[List.length_take,List.length_drop];omega) hf.val (fun u hu=>h1 u (List.mem_of_mem_drop (List.mem_of_mem_take hu))) (cC T.cells (cB (base+i.toNat) aX));rw[j2,e1,j1]at this;rw[j2];exact this);·exact ae.elim);·exact ae.elim);·exact ae.elim)
 ·exact ae.elim
end
end Go.Proofs.Ytbbmofoiipjbgaa
namespace Go.Proofs.Ytbbmofoiipjbgaa
variable {cH:Prop} [fV cH]
open Go.RowKit
section
variable {E:Env} {n:Nat} {w0:World} {S0:Cx} {s:St} {a:Act} {w:World} {ν:Nat→Value} {S:Nat→Prop} {F:cm} {o:Oper} {K:St→Prop} {Q:Exit→Act→World→Prop}
theorem pc: ∀ {α:Type} {l:List α} {k:Nat},oS l k=true→l.length=k|_,[],0,_=>rfl|_,[],_+1,h=>(by cases h)|_,_::_,0,h=>(by cases h)|_,_::r,k+1,h=>by simp[pc (l:=r) (k:=k) h]
theorem gO {E:Env} {t:Nat} {T:Ty} (hf:bL E t T) {w:World} {g off:Nat} {v:Value} {cur:Array Value} {e:TypeId} (hg:w.heap[g]?=some (.cells cur e (0,0)))(hl:v.cells.size=T.cells)(o9:off+T.cells≤cur.size)(h1: ∀u,u∈v.cells.toList→u.oneCell'=true):(Instr.storeAt t (.pointer (some ⟨g,off,none⟩)) v).run E.P w= .ok () (w.setRow g (cur.toList.take off++v.cells.toList++cur.toList.drop (off+T.cells)).toArray):=by
 have iw:=run_storeCells_at (P:=E.P) g off e v.cells.toList 0 cur w hg (by simpa[hl]using o9) h1;simp only[Nat.add_zero,Array.length_toList,hl]at iw;simp only[Instr.storeAt,Instr.sureAddr,Sem.run_bind,Sem.run_pure,Result.andThen_ok,storeVar,hf.sizeOf w,Sem.run_ite,hl,ne_eq,not_true_eq_false,if_false]
 exact iw
theorem wy {α:Type} (A ys B:List α)(i:Nat)(v:α)(hi:i<ys.length)(cs:List α)(h:cs=A++(ys++B)):A++ys.set i v++B=cs.take (A.length+i)++ [v]++cs.drop (A.length+i+1):=by
 subst h;(have h1:(A++(ys++B)).take (A.length+i)=A++ys.take i:=by rw[List.take_append,List.take_of_length_le (by omega),Nat.add_sub_cancel_left,List.take_append_of_le_length (by omega)])
 (have h2:(A++(ys++B)).drop (A.length+i+1)=ys.drop (i+1)++B:=by rw[List.drop_append,List.drop_of_length_le (by omega),show A.length+i+1-A.length=i+1 from by omega,List.nil_append,List.drop_append_of_le_length (by omega)])
 rw[h1,h2,List.set_eq_take_append_cons_drop,if_pos hi];simp[List.append_assoc]
theorem x8 {T:Ty} (i:Int)(y:T.den)(h0:0≤i): ∀(xs:List T.den)(j:Nat),yX T i y j xs=if(j:Int)≤i then(xs.set (i.toNat-j) y).map (PV.iv T)else xs.map (PV.iv T)|[],j=>(by split<;>rfl)|x::r,j=>by simp only[yX];rw[x8 i y h0 r (j+1)];by_cases h1:i=(j:Int);(·subst h1;rw[if_pos rfl,if_pos (Int.le_refl _),if_neg (by omega)];simp);·rw[if_neg h1];by_cases h2:(j:Int)≤i;(·rw[if_pos h2,if_pos (by omega)];(have e:i.toNat-j=(i.toNat-(j+1))+1:=by omega);rw[e];simp);·rw[if_neg h2,if_neg (by omega)];rfl
theorem jY {c:Ctx} {q:PV} {v:Value} (hq:ai c q v): ∀(U:Ty)(off:Nat)(f:U.den→U.den),qP U off q=some f→ ∀(x:U.den)(cs:List Value),av U x c.w c.M cs→off<cs.length∧av U (f x) c.w c.M (cs.set off v)∧v.cells= #[v]|.bool,off,f,h,x,cs,hx=>(by simp only[qP]at h;split at h;(·rename_i y;injection h with h;subst h;simp only[ai]at hq;have hv:[v]=[Value.bool y]:=hq.2;injection hv with hv;subst hv;have hx:cs=[.bool x]:=hx;subst hx;exact⟨by simp,rfl,rfl⟩);·cases h)|.int k,off,f,h,x,cs,hx=>(by simp only[qP]at h;split at h;(·rename_i k' y;split at h;(·rename_i he;have he:=Ty.bZ he;injection he with he;subst he;injection h with h;subst h;simp only[ai]at hq;have hv:[v]=[Value.int k y]∧_:=hq.2;obtain⟨hv,hb⟩:=hv;injection hv with hv;subst hv;have hx:cs=[.int k x]∧_:=hx;obtain⟨rfl,_⟩:=hx;exact⟨by simp,⟨rfl,hb⟩,rfl⟩);·cases h);·cases h)|.str,off,f,h,x,cs,hx=>(by simp only[qP]at h;split at h;(·rename_i y;injection h with h;subst h;simp only[ai]at hq;have hv:[v]=[Value.string ⟨y.toArray⟩]∧_:=hq.2;obtain⟨hv,hb⟩:=hv;injection hv with hv;subst hv;have hx:cs=[.string ⟨x.toArray⟩]∧_:=hx;obtain⟨rfl,_⟩:=hx;exact⟨by simp,⟨rfl,hb⟩,rfl⟩);·cases h)|.st V,off,f,h,x,cs,hx=>jY hq V off f h x cs hx|.pair A B,off,f,h,x,cs,hx=>(by obtain⟨va,vb,rfl,ha,hb⟩:=hx;have oz:=bk _ _ _ _ _ ha;simp only[qP]at h;split at h;(·rename_i cX;split at h;(·rename_i g hg;injection h with h;subst h;obtain⟨h1,h2,h3⟩:=jY hq A off g hg x.1 va ha;exact⟨by rw[List.length_append];omega,⟨_,_,List.set_append_left _ _ h1,h2,hb⟩,h3⟩);·cases h);·rename_i cX;(have Kn:A.cells≤off:=by rcases Nat.lt_or_ge off A.cells with h'|h';(·simp only[Nat.blt]at cX;have:=Nat.ble_eq_true_of_le (Nat.succ_le_of_lt h');rw[this]at cX;cases cX);·exact h');split at h;(·rename_i g hg;injection h with h;subst h;obtain⟨h1,h2,h3⟩:=jY hq B _ g hg x.2 vb hb;exact⟨by rw[List.length_append];omega,⟨_,_,by rw[List.set_append_right _ _ (by omega),oz],ha,h2⟩,h3⟩);·cases h)|.unit,_,_,h,_,_,_=>nomatch h|.sl _,_,_,h,_,_,_=>nomatch h|.own _,_,_,h,_,_,_=>nomatch h|.bC _ _,_,_,h,_,_,_=>nomatch h|.ptr _,_,_,h,_,_,_=>nomatch h|.ea _ _,_,_,h,_,_,_=>nomatch h|.mp _ _,_,_,h,_,_,_=>nomatch h|.bG,_,_,h,_,_,_=>nomatch h
theorem rp (hE : aA E) (h : Full n w0 S0 s a w ν S) (ho : bF n o = true) {t : Nat} {x y : Operand} (aC : o.op = .store t x y) (lj : o.dst = none) (ae : aP E (jJ E F s.bl t (s.ev x) (s.ev y)) (fun l => K (s.fin o.dst l))) : o.wp E.P a w (fun a' w' => ∃ s', K s' ∧ Rel n w0 S0 s' a' w') Q := by
  have hx := h.ev (aw ho (x := x) (by simp [aC, Op.operands]))
  have hy := h.ev (aw ho (x := y) (by simp [aC, Op.operands]))
  by_cases KW : True
  · simp only [jJ] at ae
    split at ae
    · rename_i T hT
      have hf := hE.facts hT
      split at ae
      · rename_i us FV
        obtain ⟨Bm, Kr⟩ := gj hy FV
        split at ae
        · rename_i hle
          have ud := pc hle
          have qQ : (a.eval y).cells.size = T.cells := by rw [← ud, cc Bm]; simp
          split at ae
          · rename_i id off bt
            split at ae
            · rename_i cs te hl
              obtain ⟨hl, _⟩ := gl hl
              split at ae
              · rename_i cF
                have cF := Nat.le_of_ble_eq_true cF
                rw [bt] at hx
                simp only [ai] at hx
                obtain ⟨hd, g, hg, hv⟩ := hx
                obtain ⟨fm, g', vs, e, dV, hB, lT, hh, h1, aX⟩ := h.W.bJ _ _ hl
                simp only [Full.c] at hg
                simp only at dV hh hB lT
                rw [hg] at dV
                obtain rfl : g = g' := by injection dV with e1; injection e1 with e1; injection e1
                have eG := cc aX
                have hr := gO hf (off := off) hh qQ (by rw [← Array.length_toList, ← eG]; exact cF) Kr
                have aU : (execOp a.eval o).run E.P w = .ok .skip (w.setRow g (vs.toList.take off ++ (a.eval y).cells.toList ++ vs.toList.drop (off + T.cells)).toArray) := by
                  simp only [execOp, aC, hv, Sem.run_bind, hr, Result.andThen_ok, Sem.run_pure]
                refine gm aU ⟨_, ae, ?_⟩
                rw [lj]
                have gp := dB w g (vs.toList.take off ++ (a.eval y).cells.toList ++ vs.toList.drop (off + T.cells)).toArray
                have zl : aI (ν id) = some g := by rw [hg]; rfl
                have wz : Ctx.Le h.c ⟨ν, s.D, w.setRow g (vs.toList.take off ++ (a.eval y).cells.toList ++ vs.toList.drop (off + T.cells)).toArray, ⟨S, ax w0 S0⟩⟩ :=
                  ⟨fun b hb => setRow_other w g b _ (fun e => (h.eF hl zl).2.1 (e ▸ hb)), fun _ h => h, fun _ h => h, fun _ _ => rfl⟩
                refine (h.kZ hl (by rw [zl]; exact gp) (b' := .box (cs.take off ++ us ++ cs.drop (off + T.cells)) te) ⟨(by exact fm.A8 zl hh (setRow_heap w g vs _ e _ hh)), g, _, e, hg, hB, lT, setRow_heap w g vs _ e _ hh, ?_, ?_⟩).rel
                · intro u hu
                  simp only [List.mem_append] at hu
                  rcases hu with (hu | hu) | hu
                  · exact h1 u (List.mem_of_mem_take hu)
                  · exact Kr u hu
                  · exact h1 u (List.mem_of_mem_drop hu)
                · exact bw (bw (cC _ (bu wz aX)) (bu wz Bm)) (cB _ (bu wz aX))
              · exact ae.elim
            · exact ae.elim
          · rename_i id sz i off bt
            split at ae
            · rename_i U xs te hl
              obtain ⟨hl, _⟩ := gl hl
              split at ae
              · rename_i heq
                simp only [Bool.and_eq_true] at heq
                obtain ⟨heq, cr⟩ := heq
                have wx := Ty.bZ heq
                subst wx
                have cr := Nat.eq_of_beq_eq_true cr
                split at ae
                · rename_i z lI zm NT
                  rw [bt] at hx
                  simp only [ai] at hx
                  obtain ⟨hd, g, ob, m, cap, cg, GM, hv⟩ := hx
                  have AM := h.W.bJ _ _ hl
                  obtain ⟨fm, lR, u, hu, Bl, cj⟩ := AM
                  simp only [Full.c] at cg
                  simp only [List.cons.injEq, and_true] at hu
                  rw [cg] at hu
                  subst hu
                  rcases cj with ⟨hn, _⟩ | ⟨g', o', jO, cur, e, od, GN, FT, lT, hB, hh, o9, dP⟩
                  · cases hn
                  · injection od with e1 e2 e3
                    injection e1 with e1
                    injection e1 with e1 e4
                    subst e1; subst e4; subst e3; subst e2
                    rw [cr, Nat.add_zero] at hv
                    have ni : i * T.cells + T.cells ≤ cap * T.cells := by
                      calc i * T.cells + T.cells = (i + 1) * T.cells := by rw [Nat.add_mul]; omega
                        _ ≤ cap * T.cells := Nat.mul_le_mul_right _ (by omega)
                    have hr := gO hf (off := ob + i * T.cells) hh qQ (by omega) Kr
                    have aU : (execOp a.eval o).run E.P w = .ok .skip (w.setRow g (cur.toList.take (ob + i * T.cells) ++ (a.eval y).cells.toList ++ cur.toList.drop (ob + i * T.cells + T.cells)).toArray) := by
                      simp only [execOp, aC, hv, Sem.run_bind, hr, Result.andThen_ok, Sem.run_pure]
                    refine gm aU ⟨_, ae, ?_⟩
                    rw [lj]
                    have gp := dB w g (cur.toList.take (ob + i * T.cells) ++ (a.eval y).cells.toList ++ cur.toList.drop (ob + i * T.cells + T.cells)).toArray
                    have zl : aI (ν id) = some g := by rw [cg]; rfl
                    have KX := h.Bk lR lI zm NT hy
                    have rq : ∀ b, S b → (w.setRow g (cur.toList.take (ob + i * T.cells) ++ (a.eval y).cells.toList ++ cur.toList.drop (ob + i * T.cells + T.cells)).toArray).heap[b]? = w.heap[b]? := fun b hb => setRow_other w g b _ (fun e => lT (e ▸ hb))
                    have AG := setRow_heap w g cur (cur.toList.take (ob + i * T.cells) ++ (a.eval y).cells.toList ++ cur.toList.drop (ob + i * T.cells + T.cells)).toArray e _ hh
                    generalize GO : (cur.toList.take (ob + i * T.cells) ++ (a.eval y).cells.toList ++ cur.toList.drop (ob + i * T.cells + T.cells)).toArray = Bn at *
                    refine (h.kZ (w' := w.setRow g Bn) hl (by rw [zl]; exact gp) (b' := .arr T (xs.set i z)) ⟨bX _ _, lR, .slice (some ⟨g, ob, none⟩) xs.length cap, by simp only [cg], by rw [List.length_set]; exact Bl, .inr ⟨g, ob, cap, Bn, e, by rw [List.length_set], by rw [List.length_set]; exact GN, FT, lT, hB, AG, ?_, ?_⟩⟩).rel
                    all_goals subst GO
                    · simp only [List.size_toArray, List.length_append, List.length_take, List.length_drop, Array.length_toList, qQ]
                      omega
                    · intro j q hq
                      by_cases ew : i = j
                      · subst ew
                        rw [List.getElem?_set_self GM] at hq
                        · injection hq with hq
                          subst hq
                          refine ⟨(a.eval y).cells.toList, by rw [Array.length_toList, qQ], fun k u hk => ?_, ao rq (fun _ h => h) _ _ _ lR (gd hf.val KX)⟩
                          rw [cell_of_row _ _ _ _ _ _ AG]
                          simp only [List.getElem?_toArray]
                          have tA : k < (a.eval y).cells.toList.length := (List.getElem?_eq_some_iff.1 hk).1
                          have wc : (cur.toList.take (ob + i * T.cells)).length = ob + i * T.cells := by simp only [List.length_take, Array.length_toList]; omega
                          rw [List.append_assoc, List.getElem?_append_right (by rw [wc]; omega), wc, List.getElem?_append_left (by omega)]
                          rw [← hk]
                          congr 1
                          omega
                      · rw [List.getElem?_set_ne ew] at hq
                        obtain ⟨cs, eG, hc, D0⟩ := dP j q hq
                        refine ⟨cs, eG, fun k u hk => ?_, ao rq (fun _ h => h) _ _ _ lR D0⟩
                        have tA : k < cs.length := (List.getElem?_eq_some_iff.1 hk).1
                        have dv := hc k u hk
                        rw [cell_of_row _ _ _ _ _ _ hh] at dv
                        rw [cell_of_row _ _ _ _ _ _ AG]
                        simp only [List.getElem?_toArray]
                        have wc : (cur.toList.take (ob + i * T.cells)).length = ob + i * T.cells := by simp only [List.length_take, Array.length_toList]; omega
                        rcases Nat.lt_or_gt_of_ne ew with cX | KY
                        · have hmul : i * T.cells + T.cells ≤ j * T.cells := by
                            calc i * T.cells + T.cells = (i + 1) * T.cells := by rw [Nat.add_mul]; omega
                              _ ≤ j * T.cells := Nat.mul_le_mul_right _ cX
                          rw [List.append_assoc, List.getElem?_append_right (by rw [wc]; omega), wc, List.getElem?_append_right (by rw [Array.length_toList, qQ]; omega), List.getElem?_drop, Array.length_toList, qQ]
                          rw [← dv]
                          simp only [Array.getElem?_toList]
                          congr 1
                          omega
                        · have hmul : j * T.cells + T.cells ≤ i * T.cells := by
                            calc j * T.cells + T.cells = (j + 1) * T.cells := by rw [Nat.add_mul]; omega
                              _ ≤ i * T.cells := Nat.mul_le_mul_right _ KY
                          rw [List.append_assoc, List.getElem?_append_left (by rw [wc]; omega), List.getElem?_take, if_pos (by omega)]
                          simpa using dv
                · exact ae.elim
              · rename_i off _ _ cA
                split at ae
                · rename_i f cr Sh
                  have cr := Nat.eq_of_beq_eq_true cr
                  rw [bt] at hx
                  simp only [ai] at hx
                  obtain ⟨hd, g, ob, m, cap, cg, GM, hv⟩ := hx
                  have AM := h.W.bJ _ _ hl
                  obtain ⟨fm, lR, u, hu, Bl, cj⟩ := AM
                  simp only [Full.c] at cg
                  simp only [List.cons.injEq, and_true] at hu
                  rw [cg] at hu
                  subst hu
                  rcases cj with ⟨hn, _⟩ | ⟨g', o', jO, cur, e, od, GN, FT, lT, hB, hh, o9, dP⟩
                  · cases hn
                  · injection od with e1 e2 e3
                    injection e1 with e1
                    injection e1 with e1 e4
                    subst e1; subst e4; subst e3; subst e2
                    rw [cr] at hv
                    have KZ : ∀ q, xs[i]? = some q → off < U.cells ∧ (a.eval y).cells = #[a.eval y] := fun q hq => by
                      obtain ⟨cs, eG, _, D0⟩ := dP i q hq
                      obtain ⟨h1, _, h3⟩ := jY hy U off f Sh q cs D0
                      exact ⟨by omega, h3⟩
                    obtain ⟨iJ, Si⟩ := KZ _ (List.getElem?_eq_getElem GM)
                    have GP : T.cells = 1 := by rw [← qQ, Si]; rfl
                    have ni : i * U.cells + U.cells ≤ cap * U.cells := by
                      calc i * U.cells + U.cells = (i + 1) * U.cells := by rw [Nat.add_mul]; omega
                        _ ≤ cap * U.cells := Nat.mul_le_mul_right _ (by omega)
                    have hr := gO hf (off := ob + i * U.cells + off) hh qQ (by omega) Kr
                    rw [GP, Si] at hr
                    have aU : (execOp a.eval o).run E.P w = .ok .skip (w.setRow g (cur.toList.take (ob + i * U.cells + off) ++ [a.eval y] ++ cur.toList.drop (ob + i * U.cells + off + 1)).toArray) := by
                      simp only [execOp, aC, hv, Sem.run_bind, hr, Result.andThen_ok, Sem.run_pure]
                    refine gm aU ⟨_, ae, ?_⟩
                    rw [lj]
                    have gp := dB w g (cur.toList.take (ob + i * U.cells + off) ++ [a.eval y] ++ cur.toList.drop (ob + i * U.cells + off + 1)).toArray
                    have zl : aI (ν id) = some g := by rw [cg]; rfl
                    have rq : ∀ b, S b → (w.setRow g (cur.toList.take (ob + i * U.cells + off) ++ [a.eval y] ++ cur.toList.drop (ob + i * U.cells + off + 1)).toArray).heap[b]? = w.heap[b]? := fun b hb => setRow_other w g b _ (fun e => lT (e ▸ hb))
                    have AG := setRow_heap w g cur (cur.toList.take (ob + i * U.cells + off) ++ [a.eval y] ++ cur.toList.drop (ob + i * U.cells + off + 1)).toArray e _ hh
                    have NU : (cur.toList.take (ob + i * U.cells + off) ++ [a.eval y] ++ cur.toList.drop (ob + i * U.cells + off + 1)).toArray = (cur.toList.set (ob + i * U.cells + off) (a.eval y)).toArray := by
                      rw [List.set_eq_take_append_cons_drop, if_pos (by rw [Array.length_toList]; omega)]
                      simp
                    rw [NU] at gp rq AG ⊢
                    generalize GO : (cur.toList.set (ob + i * U.cells + off) (a.eval y)).toArray = Bn at *
                    refine (h.kZ (w' := w.setRow g Bn) hl (by rw [zl]; exact gp) (b' := .arr U (xs.modify i f)) ⟨bX _ _, lR, .slice (some ⟨g, ob, none⟩) xs.length cap, by simp only [cg], by rw [List.length_modify]; exact Bl, .inr ⟨g, ob, cap, Bn, e, by rw [List.length_modify], by rw [List.length_modify]; exact GN, FT, lT, hB, AG, ?_, ?_⟩⟩).rel
                    all_goals subst GO
                    · simp only [List.size_toArray, List.length_set, Array.length_toList]
                      omega
                    · intro j q hq
                      by_cases ew : i = j
                      · subst ew
                        rw [List.getElem?_modify_eq] at hq
                        obtain ⟨q0, Ud, rfl⟩ := Option.map_eq_some_iff.1 (show (xs[i]?).map f = some q from hq)
                        obtain ⟨cs, eG, hc, D0⟩ := dP i q0 Ud
                        obtain ⟨h1, h2, _⟩ := jY hy U off f Sh q0 cs D0
                        refine ⟨cs.set off (a.eval y), by rw [List.length_set, eG], fun k u hk => ?_, ao rq (fun _ h => h) _ _ _ lR h2⟩
                        rw [cell_of_row _ _ _ _ _ _ AG]
                        simp only [List.getElem?_toArray]
                        by_cases Sj : off = k
                        · subst Sj
                          rw [List.getElem?_set_self h1] at hk
                          rw [List.getElem?_set_self (by rw [Array.length_toList]; omega)]
                          exact hk
                        · rw [List.getElem?_set_ne Sj] at hk
                          rw [List.getElem?_set_ne (by omega)]
                          have dv := hc k u hk
                          rw [cell_of_row _ _ _ _ _ _ hh] at dv
                          simpa using dv
                      · rw [List.getElem?_modify_ne _ _ ew] at hq
                        obtain ⟨cs, eG, hc, D0⟩ := dP j q hq
                        refine ⟨cs, eG, fun k u hk => ?_, ao rq (fun _ h => h) _ _ _ lR D0⟩
                        have tA : k < cs.length := (List.getElem?_eq_some_iff.1 hk).1
                        have dv := hc k u hk
                        rw [cell_of_row _ _ _ _ _ _ hh] at dv
                        rw [cell_of_row _ _ _ _ _ _ AG]
                        simp only [List.getElem?_toArray]
                        have cA : ob + i * U.cells + off ≠ ob + j * U.cells + k := by
                          rcases Nat.lt_or_gt_of_ne ew with cX | KY
                          · have hmul : i * U.cells + U.cells ≤ j * U.cells := by
                              calc i * U.cells + U.cells = (i + 1) * U.cells := by rw [Nat.add_mul]; omega
                                _ ≤ j * U.cells := Nat.mul_le_mul_right _ cX
                            omega
                          · have hmul : j * U.cells + U.cells ≤ i * U.cells := by
                              calc j * U.cells + U.cells = (j + 1) * U.cells := by rw [Nat.add_mul]; omega
                                _ ≤ i * U.cells := Nat.mul_le_mul_right _ KY
                            omega
                        rw [List.getElem?_set_ne cA]
                        simpa using dv
                · exact ae.elim
            · exact ae.elim
          · rename_i id base U m i bt
            split at ae
            · rename_i cs te hl
              obtain ⟨hl, _⟩ := gl hl
              split at ae
              · rename_i xs z wv hb hz
                simp only [Bool.and_eq_true] at hb
                obtain ⟨⟨wx, zk⟩, cF⟩ := hb
                have wx := Ty.bZ wx
                subst wx
                have cF := Nat.le_of_ble_eq_true cF
                obtain ⟨j1, j2, j3⟩ := nm zk (.iv T z)
                have hq := uo hz
                rw [bt] at hx
                simp only [ai] at hx
                obtain ⟨hd, h0, hn, g, hg, hv⟩ := hx
                obtain ⟨fm, g', vs, e, dV, hB, lT, hh, h1, aX⟩ := h.W.bJ _ _ hl
                simp only [Full.c] at hg
                simp only at dV hh hB lT
                rw [hg] at dV
                obtain rfl : g = g' := by injection dV with e1; injection e1 with e1; injection e1
                have eG := cc aX
                have NV : us = [.iv T z] := by
                  rw [hq] at FV
                  cases T <;> first | (cases zk; done) | (simp only [PV.cells, Ty.val, Option.some.injEq, cellsOf] at FV; exact FV.symm)
                have DY := pb wv
                have x9 : xs.length = m := by
                  have := congrArg List.length DY
                  rw [List.length_take, List.length_drop, List.length_map] at this
                  omega
                have GM : i.toNat < m := by omega
                have NW : cs.take base ++ yX T i z 0 xs ++ cs.drop (base + m) = cs.take (base + i.toNat) ++ us ++ cs.drop (base + i.toNat + T.cells) := by
                  have e0 := x8 i z h0 xs 0
                  simp only [Int.natCast_zero, Nat.sub_zero, if_pos h0] at e0
                  have NU : cs = cs.take base ++ (xs.map (PV.iv T) ++ cs.drop (base + m)) := by
                    have := DY
                    rw [← this]
                    conv => lhs; rw [← List.take_append_drop base cs]
                    congr 1
                    conv => lhs; rw [← List.take_append_drop m (cs.drop base)]
                    rw [List.drop_drop]
                  have wc : (cs.take base).length = base := by rw [List.length_take]; omega
                  have Ue : (xs.map (PV.iv T)).length = m := by rw [List.length_map]; exact x9
                  rw [e0, NV, j2, List.map_set]
                  have Na := wy (cs.take base) (xs.map (PV.iv T)) (cs.drop (base + m)) i.toNat (.iv T z) (by omega) cs NU
                  rw [wc] at Na
                  exact Na
                rw [NW] at ae
                have hr := gO hf (off := base + i.toNat) hh qQ (by rw [← Array.length_toList, ← eG]; omega) Kr
                have aU : (execOp a.eval o).run E.P w = .ok .skip (w.setRow g (vs.toList.take (base + i.toNat) ++ (a.eval y).cells.toList ++ vs.toList.drop (base + i.toNat + T.cells)).toArray) := by
                  simp only [execOp, aC, hv, Sem.run_bind, hr, Result.andThen_ok, Sem.run_pure]
                refine gm aU ⟨_, ae, ?_⟩
                rw [lj]
                have gp := dB w g (vs.toList.take (base + i.toNat) ++ (a.eval y).cells.toList ++ vs.toList.drop (base + i.toNat + T.cells)).toArray
                have zl : aI (ν id) = some g := by rw [hg]; rfl
                have wz : Ctx.Le h.c ⟨ν, s.D, w.setRow g (vs.toList.take (base + i.toNat) ++ (a.eval y).cells.toList ++ vs.toList.drop (base + i.toNat + T.cells)).toArray, ⟨S, ax w0 S0⟩⟩ :=
                  ⟨fun b hb => setRow_other w g b _ (fun e => (h.eF hl zl).2.1 (e ▸ hb)), fun _ h => h, fun _ h => h, fun _ _ => rfl⟩
                refine (h.kZ hl (by rw [zl]; exact gp) (b' := .box (cs.take (base + i.toNat) ++ us ++ cs.drop (base + i.toNat + T.cells)) te) ⟨(by exact fm.A8 zl hh (setRow_heap w g vs _ e _ hh)), g, _, e, hg, hB, lT, setRow_heap w g vs _ e _ hh, ?_, ?_⟩).rel
                · intro u hu
                  simp only [List.mem_append] at hu
                  rcases hu with (hu | hu) | hu
                  · exact h1 u (List.mem_of_mem_take hu)
                  · exact Kr u hu
                  · exact h1 u (List.mem_of_mem_drop hu)
                · exact bw (bw (cC _ (bu wz aX)) (bu wz Bm)) (cB _ (bu wz aX))
              · exact ae.elim
            · exact ae.elim
          · exact ae.elim
        · exact ae.elim
      · exact ae.elim
    · exact ae.elim
  · exact absurd trivial KW
theorem bL.field {E:Env} (hE:aA E) {t:Nat} {T:Ty} (hf:bL E t T)(hs:E.str t=true) {i:Nat} (hi:i<fi T): ∃fs f,E.P.underlying t=some (.struct fs)∧fs[i]?=some f∧f.offset=fC T i∧bL E f.type (jh T i)∧1≤(jh T i).cells:=by
 (cases T<;>first|(simp[fi]at hi;done)|skip);rename_i R;rcases hf.agg hE with⟨fs,hu,su,KS⟩|⟨m,e,V,hu,he,rfl,hV,NQ,hm⟩;(·obtain⟨f,h1,h2,h3,h4,h5,h6⟩:=KS i hi;exact⟨fs,f,hu,h1,h2,hE.facts h3,h4⟩)
 ·have:=hf.str _ _ rfl hu;simp only at this;rw[hs]at this;cases this
theorem bL.array {E:Env} (hE:aA E) {t:Nat} {R:Ty} (hf:bL E t (.st R))(hs:E.str t=false): ∃m e,E.P.underlying t=some (.array m e)∧bL E e (aY R 0)∧bD R=m∧ ∀i,i<m→cR R i=i*(aY R 0).cells:=by
 rcases hf.agg hE with⟨fs,hu,su,KS⟩|⟨m,e,V,hu,he,rfl,hV,NQ,hm⟩;(·have:=hf.str _ _ rfl hu;simp only at this;rw[hs]at this;cases this);·have h0:=(ij V hV m 0 (by omega)).2;refine⟨m,e,hu,by rw[h0];exact hE.facts he,ky V hV m (by omega),fun i hi=>?_⟩;rw[h0];exact(ij V hV m i hi).1
theorem sv(hE:aA E)(h:Full n w0 S0 s a w ν S)(ho:bF n o=true) {t f:Nat} {x:Operand} (aC:o.op= .fieldAddr t x f)(ae:aP E (aj E F s o) (fun l=>K (s.fin o.dst l))):o.wp E.P a w (fun a' w'=> ∃s',K s'∧Rel n w0 S0 s' a' w') Q:=by
 simp only[aj,aC]at ae;have hx:=h.ev (aw ho (x:=x) (by simp[aC,Op.operands]));split at ae;(·rename_i T hT;split at ae;(·rename_i hb;simp only[Bool.and_eq_true,Nat.blt_eq]at hb;obtain⟨fs,fd,hu,NX,iJ,Bo,mU⟩:=(hE.facts hT).field hE hb.2 hb.1;(have aU: ∀(g ob:Nat),a.eval x= .pointer (some ⟨g,ob,none⟩)→(execOp a.eval o).run E.P w= .ok (.value (.pointer (some ⟨g,ob+fC T f,none⟩))) w:=by intro g ob he;have cr:=Bo.sizeOf w;simp only[execOp,aC,he,Instr.fieldAt,Sem.run_bind,run_underlying hu,Result.andThen_ok,NX,Instr.sureAddr,Sem.run_pure,fieldPlace,cr,Sem.run_ite];rw[if_neg (by omega)];simp only[Result.andThen_ok,iJ,cS,Sem.run_pure]);split at ae;(·rename_i id off bt;rw[bt]at hx;simp only[ai]at hx;obtain⟨hd,g,hg,hv⟩:=hx;refine h.val ho (aU _ _ hv) ?_ ae;simp only[ai];exact⟨hd,g,hg,rfl⟩);(·rename_i U y off bt;rw[bt]at hx;simp only[ai]at hx;obtain⟨lR,g,ob,cs,hv,r⟩:=hx;refine h.val ho (aU _ _ hv) ?_ ae;simp only[ai];exact⟨lR,g,ob,cs,by rw[Nat.add_assoc],r⟩);(·rename_i id sz i off bt;rw[bt]at hx;simp only[ai]at hx;obtain⟨hd,g,ob,m,cap,cg,GM,hv⟩:=hx;refine h.val ho (aU _ _ hv) ?_ ae;simp only[ai];exact⟨hd,g,ob,m,cap,cg,GM,by rw[Nat.add_assoc]⟩);·exact ae.elim);·exact ae.elim)
 ·exact ae.elim
theorem fa {E:Env} {t:Nat} {T:Ty} (hf:bL E t T) {w:World} {cs:Array Value} {off:Nat} (hl:off+T.cells≤cs.size):(Go.part t cs off).run E.P w= .ok (valOf T ((cs.toList.drop off).take T.cells)) w:=by
 unfold Go.part;simp only[Sem.run_bind,hf.isAgg w,Result.andThen_ok];have hT:=hf.val;cases T with|st r=>simp only[Bc,if_true,Sem.run_bind,hf.sizeOf w,Result.andThen_ok,Sem.run_pure,valOf];congr 2;apply Array.toList_inj.1;simp[Array.toList_extract]|unit=>cases hT|pair a b=>cases hT|bC a b=>cases hT|_=>simp only[Ty.cells]at hl;simp only[Bc,Bool.false_eq_true,if_false,Ty.cells,valOf];rw[Array.getElem?_eq_getElem (by omega)];rw[List.drop_eq_getElem_cons (by simpa using(by omega:off<cs.size))];simp
theorem l0 {c:Ctx} {p:PV} {v:Value} {cs:List PV} (h:ai c p v)(hc:fW p=some cs):ak c cs v.cells.toList∧(∀u,u∈v.cells.toList→u.oneCell'=true)∧ ∃us,v= .agg us:=by
 cases p with|iv T x=>(cases T with|st R=>simp only[fW]at hc;(have lg:(PV.iv (.st R) x).cells=some cs:=by simp only[PV.cells,Ty.val];exact hc);obtain⟨h1,h2⟩:=gj h lg;simp only[ai]at h;obtain⟨_,vs,hv,_⟩:=h;exact⟨h1,h2,_,hv⟩|_=>simp only[fW]at hc;cases hc)|agg ps=>have lg:(PV.agg ps).cells=some cs:=hc;obtain⟨h1,h2⟩:=gj h lg;simp only[ai]at h;obtain⟨vs,hv,_⟩:=h;exact⟨h1,h2,_,hv⟩|_=>simp only[fW]at hc;cases hc
theorem Bp(hE:aA E)(h:Full n w0 S0 s a w ν S)(ho:bF n o=true) {t f:Nat} {x:Operand} (aC:o.op= .field t x f)(ae:aP E (aj E F s o) (fun l=>K (s.fin o.dst l))):o.wp E.P a w (fun a' w'=> ∃s',K s'∧Rel n w0 S0 s' a' w') Q:=by
 simp only[aj,aC]at ae;have hx:=h.ev (aw ho (x:=x) (by simp[aC,Op.operands]));split at ae;(·rename_i T cs hT wh;split at ae;(·rename_i cF hb;simp only[Bool.and_eq_true,Nat.blt_eq]at hb;have cF:=Nat.le_of_ble_eq_true cF;obtain⟨fs,fd,hu,NX,iJ,Bo,mU⟩:=(hE.facts hT).field hE hb.2 hb.1;obtain⟨hp,h1,us,hv⟩:=l0 hx wh;rw[hv]at hp h1;simp only[Value.cells]at hp h1;rw[cc hp]at cF;have aU:=fa (E:=E) Bo (w:=w) (cs:=us) (off:=fC T f) (by simpa using cF);refine h.val ho ?_ (e9 (by rw[List.length_take,List.length_drop];omega) Bo.val (fun u hu=>h1 u (List.mem_of_mem_drop (List.mem_of_mem_take hu))) (cC _ (cB _ hp))) ae;simp only[execOp,aC,hv,Instr.field,Sem.run_bind,run_underlying hu,Result.andThen_ok,NX,asAgg,Sem.run_pure,iJ,aU]);·exact ae.elim)
 ·exact ae.elim
theorem sw(hE:aA E)(h:Full n w0 S0 s a w ν S)(ho:bF n o=true) {t:Nat} {x i:Operand} (aC:o.op= .indexAddr t x i)(ae:aP E (aj E F s o) (fun l=>K (s.fin o.dst l))):o.wp E.P a w (fun a' w'=> ∃s',K s'∧Rel n w0 S0 s' a' w') Q:=by
 simp only[aj,aC]at ae;have hx:=h.ev (aw ho (x:=x) (by simp[aC,Op.operands]));have hi:=h.ev (aw ho (x:=i) (by simp[aC,Op.operands]));split at ae;(·rename_i k m Bq;rw[Bq]at hi;obtain⟨DC,_⟩:=bo hi;(have kP: ∀ {U:Ty} (hT:E.ty t=some (.sl U))(g ob len cap:Nat),a.eval x= .slice (some ⟨g,ob,none⟩) len cap→0≤m→m<len→(execOp a.eval o).run E.P w= .ok (.value (.pointer (some ⟨g,ob+m.toNat*U.cells,none⟩))) w:=by intro U hT g ob len cap he h0 h1;obtain⟨e,hu,Ks,jT,_⟩:=(hE.facts hT).elem hE;have cr:=jT.sizeOf w;simp only[execOp,aC,he,DC,Instr.indexAt,asIntOf,Sem.run_bind,Sem.run_pure,Result.andThen_ok,run_underlying hu,Sem.run_ite];rw[if_pos ⟨h0,h1⟩];simp only[Sem.run_bind,cr,Result.andThen_ok,Sem.run_pure,cS]);(have zm: ∀ {R:Ty} (hT:E.ty t=some (.st R))(hs:E.str t=false)(g ob:Nat),a.eval x= .pointer (some ⟨g,ob,none⟩)→0≤m→m<bD R→(execOp a.eval o).run E.P w= .ok (.value (.pointer (some ⟨g,ob+m.toNat*(aY R 0).cells,none⟩))) w:=by intro R hT hs g ob he h0 h1;obtain⟨l,e,hu,jT,eG,_⟩:=(hE.facts hT).array hE hs;have cr:=jT.sizeOf w;simp only[execOp,aC,he,DC,Instr.indexAt,asIntOf,Sem.run_bind,Sem.run_pure,Result.andThen_ok,run_underlying hu,Instr.sureAddr,Sem.run_ite];rw[if_pos ⟨h0,by rw[←eG];exact h1⟩];simp only[Sem.run_bind,cr,Result.andThen_ok,Sem.run_pure,cS]);simp only[g7]at ae;split at ae;(·rename_i T xs bt;rw[bt]at hx;split at ae;(·rename_i U hT;split at ae;(·rename_i heq;have wx:=Ty.bZ heq;subst wx;obtain⟨h0,y,hy,ae⟩:=ae;simp only[ai]at hx;obtain⟨kQ,aa,cap,hv,hle,ld,cj⟩:=hx;injection hv with hv;have cX:m.toNat<xs.length:=(List.getElem?_eq_some_iff.1 hy).1;rcases cj with rfl|⟨g,ob,rfl,hS,dP⟩;(·simp at cX);·obtain⟨cs,eG,hc,hr⟩:=dP _ y hy;refine h.val ho (kP hT g ob xs.length cap hv h0 ((Int.toNat_lt h0).1 cX)) ?_ ae;simp only[ai];exact⟨by simpa[aB]using kQ,g,ob+m.toNat*T.cells,cs,by rw[Nat.add_zero],hS,eG,hc,hr⟩);·exact ae.elim);·exact ae.elim);(·rename_i id bt;rw[bt]at hx;split at ae;(·rename_i T xs te U hl hT;obtain⟨hl,_⟩:=bH hl;split at ae;(·rename_i heq;have wx:=Ty.bZ heq;subst wx;obtain⟨⟨h0,h1⟩,ae⟩:=ae;simp only[ai]at hx;obtain⟨hd,cg,_⟩:=hx;obtain⟨fm,lR,u,hu,Bl,cj⟩:=h.W.bJ _ _ hl;simp only[List.cons.injEq,and_true]at hu;simp only[Full.c]at cg;rcases cj with⟨hn,rfl⟩|⟨g,ob,cap,cur,e,od,_⟩;(·simp at h1;omega);·rw[od]at hu;rw[hu]at cg;refine h.val ho (kP hT g ob xs.length cap cg h0 h1) ?_ ae;simp only[ai];exact⟨hd,g,ob,xs.length,cap,hu,by omega,by rw[Nat.add_zero]⟩);·exact ae.elim);·exact ae.elim);(·rename_i id sz off len bt;rw[bt]at hx;split at ae;(·rename_i U hT;split at ae;(·rename_i cr;have cr:=Nat.eq_of_beq_eq_true cr;obtain⟨⟨h0,h1⟩,ae⟩:=ae;simp only[ai]at hx;obtain⟨hd,aa,m',cap,b,cg,hn,ld,hv,hb⟩:=hx;obtain⟨g,ob,rfl,rfl⟩:=hb (by omega);refine h.val ho (kP hT g _ _ _ hv h0 h1) ?_ ae;simp only[ai];exact⟨hd,g,ob,m',cap,cg,by omega,by rw[cr,Nat.add_mul,Nat.add_zero,Nat.add_assoc]⟩);·exact ae.elim);·exact ae.elim);(·rename_i id off bt;rw[bt]at hx;split at ae;(·rename_i R hT hs;simp only[ai]at hx;obtain⟨hd,g,hg,hv⟩:=hx;split at ae;(·rename_i hb;simp only[Bool.and_eq_true]at hb;have mU:=Nat.eq_of_beq_eq_true hb.2;obtain⟨⟨h0,h1⟩,ae⟩:=ae;refine h.val ho (zm hT hs g off hv h0 h1) ?_ ae;simp only[ai];exact⟨hd,h0,h1,g,hg,by rw[mU,Nat.mul_one]⟩);·obtain⟨⟨h0,h1⟩,ae⟩:=ae;refine h.val ho (zm hT hs g off hv h0 h1) ?_ ae;simp only[ai];exact⟨hd,g,hg,rfl⟩);·exact ae.elim);(·rename_i U y off bt;rw[bt]at hx;split at ae;(·rename_i R hT hs;obtain⟨⟨h0,h1⟩,ae⟩:=ae;simp only[ai]at hx;obtain⟨lR,g,ob,cs,hv,r⟩:=hx;refine h.val ho (zm hT hs g _ hv h0 h1) ?_ ae;simp only[ai];exact⟨lR,g,ob,cs,by rw[Nat.add_assoc],r⟩);·exact ae.elim);·exact ae.elim)
 ·exact ae.elim
theorem Br(hE:aA E)(h:Full n w0 S0 s a w ν S)(ho:bF n o=true) {t:Nat} {x i:Operand} (aC:o.op= .index t x i)(ae:aP E (aj E F s o) (fun l=>K (s.fin o.dst l))):o.wp E.P a w (fun a' w'=> ∃s',K s'∧Rel n w0 S0 s' a' w') Q:=by
 simp only[aj,aC]at ae;have hx:=h.ev (aw ho (x:=x) (by simp[aC,Op.operands]));have hi:=h.ev (aw ho (x:=i) (by simp[aC,Op.operands]));split at ae;(·rename_i xs k m pd Bq hT;obtain⟨d,hu,tB⟩:=(hE.facts hT).kV;(have hd:d= .string:=by cases d<;>first|rfl|cases tB);subst hd;rw[Bq]at hi;rw[pd]at hx;obtain⟨DC,_⟩:=bo hi;obtain⟨vM,_⟩:=cI hx;obtain⟨h0,c,⟨u,lJ,rfl⟩,ae⟩:=ae;refine h.val ho (v:=.int .u8 u.toNat) ?_ (bK (by have:=u.toNat_lt;constructor<;>simp[IntKind.min,IntKind.max,IntKind.signed,IntKind.bits]<;>omega)) ae;simp only[execOp,aC,vM,DC,Instr.index,asIntOf,Sem.run_bind,Sem.run_pure,Result.andThen_ok,run_underlying hu];rw[if_pos h0];(have:(⟨xs.toArray⟩:ByteArray)[m.toNat]?=some u:=by have hl:m.toNat<xs.length:=(List.getElem?_eq_some_iff.1 lJ).1;have hs:m.toNat<(⟨xs.toArray⟩:ByteArray).size:=hl;rw[getElem?_pos (⟨xs.toArray⟩:ByteArray) m.toNat hs];have:=(List.getElem?_eq_some_iff.1 lJ).2;rw[←this];rfl);rw[this];rfl)
 (·exact ae.elim);(·rename_i k m R Bq hT _;split at ae;(·rename_i cs wh D1;split at ae;(·rename_i xs wv zk;obtain⟨⟨h0,h1⟩,z,hz,ae⟩:=ae;rw[Bq]at hi;obtain⟨DC,_⟩:=bo hi;obtain⟨l,e,hu,jT,eG,_⟩:=(hE.facts hT).array hE D1;obtain⟨aX,Sk,us,vM⟩:=l0 hx wh;obtain⟨j1,j2,j3⟩:=nm zk (.iv (aY R 0) z);have hlen:=cc aX;rw[vM]at aX hlen;simp only[Value.cells]at aX hlen;obtain⟨e1,e2,e3⟩:=x7 (base:=0) (m:=cs.length) (by rw[List.drop_zero,List.take_length];exact wv) hz;rw[Nat.zero_add]at e1 e3;(have hle:m.toNat*(aY R 0).cells+(aY R 0).cells≤us.size:=by rw[j2,Nat.mul_one,←Array.length_toList,←hlen];omega);have hp:=fa jT (w:=w) (cs:=us) (off:=m.toNat*(aY R 0).cells) hle;refine h.val ho (v:=valOf (aY R 0) ((us.toList.drop (m.toNat*(aY R 0).cells)).take (aY R 0).cells)) ?_ ?_ ae;(·simp only[execOp,aC,vM,DC,Instr.index,asIntOf,Sem.run_bind,Sem.run_pure,Result.andThen_ok,run_underlying hu,Sem.run_ite];rw[if_pos ⟨h0,by rw[←eG];exact h1⟩];simp only[Sem.run_bind,jT.sizeOf w,Result.andThen_ok,hp,Sem.run_pure]);·(have jr: ∀u,u∈us.toList→u.oneCell'=true:=by intro u lJ;rw[vM]at Sk;exact Sk u lJ);have Sm:=e9 (T:=aY R 0) (c:=h.c) (vs:=(us.toList.drop m.toNat).take (aY R 0).cells) (by rw[List.length_take,List.length_drop,j2,←hlen];omega) jT.val (fun u hu=>jr u (List.mem_of_mem_drop (List.mem_of_mem_take hu))) (cC (aY R 0).cells (cB m.toNat aX));rw[j2,e1,j1]at Sm;rw[j2,Nat.mul_one];exact Sm);·exact ae.elim);·exact ae.elim)
 ·exact ae.elim
end
end Go.Proofs.Ytbbmofoiipjbgaa
namespace Go.Proofs.Ytbbmofoiipjbgaa
variable {cH:Prop} [fV cH]
open Go.RowKit
theorem sx {α:Type} (xs:List α)(lo hi:Option Int):cut xs lo hi=(xs.drop (bQ lo)).take (eb xs.length hi-bQ lo):=by
 cases lo<;>cases hi<;>simp[cut,bQ,eb];exact(List.take_of_length_le (by simp)).symm
def l3:Option Int→Option Value→Prop|none,none=>True|some n,some v=> ∃k,v= .int k n|_,_=>False
theorem fq {P:Program} {w:World} {isSlice:Bool} {len cap:Nat} {lo hi:Option Int} {vl vh:Option Value} (D2:l3 lo vl)(Kt:l3 hi vh)(h:gJ len lo hi)(hc:len≤cap):(Instr.sliceBounds isSlice len cap vl vh none).run P w= .ok (bQ lo,eb len hi,cap) w:=by
 (have sb: ∀(k:IntKind)(n:Int)(y:Nat)(code:BoundsCode),0≤n→n≤y→(Instr.sliceBound (.int k n) y code).run P w= .ok n.toNat w:=by intro k n y code h0 h1;simp only[Instr.sliceBound,asIntOf,Sem.run_bind,Sem.run_pure,Result.andThen_ok,Sem.run_ite];rw[if_pos ⟨h0,h1⟩])
 cases lo with|none=>(cases vl with|some v=>exact D2.elim|none=>cases hi with|none=>(cases vh with|some v=>exact Kt.elim|none=>simp[Instr.sliceBounds,bQ,eb])|some m=>cases vh with|none=>exact Kt.elim|some v=>obtain⟨k,rfl⟩:=Kt;obtain⟨h0,h1⟩:=h;cases isSlice<;>simp[Instr.sliceBounds,bQ,eb,sb _ _ _ _ h0 (show m≤(cap:Int)by omega)])|some l=>cases vl with|none=>exact D2.elim|some v=>obtain⟨k,rfl⟩:=D2;cases hi with|none=>(cases vh with|some v=>exact Kt.elim|none=>obtain⟨h0,h1⟩:=h;simp[Instr.sliceBounds,bQ,eb,sb _ _ _ _ h0 h1])|some m=>cases vh with|none=>exact Kt.elim|some v=>obtain⟨k',rfl⟩:=Kt;obtain⟨h0,h1,h2⟩:=h;have e1:(0:Int)≤m:=Int.le_trans h0 h1;cases isSlice<;>simp[Instr.sliceBounds,bQ,eb,sb _ _ _ _ e1 (show m≤(cap:Int)by omega),sb _ _ _ _ h0 (show l≤(m.toNat:Int)by omega)]
theorem nn {P:Program} {w:World} {isSlice:Bool} {len cap:Nat} {lo:Option Int} {m:Int} {k k':IntKind} {vl:Option Value} (D2:l3 lo vl)(h:gJ len lo (some m))(hc:len≤cap):(Instr.sliceBounds isSlice len cap vl (some (.int k m)) (some (.int k' m))).run P w= .ok (bQ lo,m.toNat,m.toNat) w:=by
 (have sb: ∀(k:IntKind)(n:Int)(y:Nat)(code:BoundsCode),0≤n→n≤y→(Instr.sliceBound (.int k n) y code).run P w= .ok n.toNat w:=by intro k n y code h0 h1;simp only[Instr.sliceBound,asIntOf,Sem.run_bind,Sem.run_pure,Result.andThen_ok,Sem.run_ite];rw[if_pos ⟨h0,h1⟩])
 cases lo with|none=>(cases vl with|some v=>exact D2.elim|none=>obtain⟨h0,h1⟩:=h;cases isSlice<;>simp[Instr.sliceBounds,bQ,sb _ _ _ _ h0 (show m≤(cap:Int)by omega),sb _ _ _ _ h0 (show m≤(m.toNat:Int)by omega)])|some l=>cases vl with|none=>exact D2.elim|some v=>obtain⟨k,rfl⟩:=D2;obtain⟨h0,h1,h2⟩:=h;have e1:(0:Int)≤m:=Int.le_trans h0 h1;cases isSlice<;>simp[Instr.sliceBounds,bQ,sb _ _ _ _ e1 (show m≤(cap:Int)by omega),sb _ _ _ _ e1 (show m≤(m.toNat:Int)by omega),sb _ _ _ _ h0 (show l≤(m.toNat:Int)by omega)]
theorem gq {n:Nat} {lo hi:Option Int} (h:gJ n lo hi):bQ lo≤eb n hi∧eb n hi≤n:=by cases lo<;>cases hi<;>simp only[gJ,bQ,eb]at* <;>omega
theorem uq {T:Ty} {w:World} {M:Mem} {a:Option Addr} {cap:Nat} (h:cap≤9223372036854775807):av (.sl T) ([]:List T.den) w M [.slice a 0 cap]:=⟨a,cap,rfl,Nat.zero_le _,h,.inl rfl⟩
section
variable {E:Env} {n:Nat} {w0:World} {S0:Cx} {s:St} {a:Act} {w:World} {ν:Nat→Value} {S:Nat→Prop} {F:cm} {o:Oper} {K:St→Prop} {Q:Exit→Act→World→Prop}
theorem ru(h:Full n w0 S0 s a w ν S) {x:Option Operand} {b:Option Int} (hc: ∀y,x=some y→iL y=true)(hb:bound s x=some b):l3 b (x.map a.eval):=by
 cases x with|none=>simp only[bound,Option.some.injEq]at hb;subst hb;trivial|some y=>simp only[bound]at hb;split at hb;(·rename_i k m bt;simp only[Option.some.injEq]at hb;subst hb;have hy:=h.ev (hc y rfl);rw[bt]at hy;exact⟨k,(bo hy).1⟩);·cases hb
theorem ur(xs:List UInt8)(l h:Nat):(⟨xs.toArray⟩:ByteArray).extract l h=⟨((xs.drop l).take (h-l)).toArray⟩:=by
 apply ByteArray.ext;rw[ByteArray.data_extract];apply Array.toList_inj.1;simp[Array.toList_extract]
theorem uu {w:World} {M:Mem} : ∀(U:Ty)(x:U.den)(l:List Nat)(cs:List Value),iz U x=some l→av U x w M cs→cs=l.map fun f=>Value.func (.func f) #[] #[]|.bG,x,l,cs,h,hr=>(by simp only[iz,Option.some.injEq]at h;subst h;exact hr)|.pair A B,x,l,cs,h,hr=>(by cases A with|bG=>simp only[iz]at h;split at h;(·rename_i l' hl;injection h with h;subst h;obtain⟨va,vb,rfl,ha,hb⟩:=hr;have ha:va=[.func (.func x.1) #[] #[]]:=ha;rw[uu B x.2 l' vb hl hb,ha];rfl);(·cases h)|_=>simp[iz]at h)|.unit,x,l,cs,h,hr=>(by simp[iz]at h)|.int _,x,l,cs,h,hr=>(by simp[iz]at h)|.bool,x,l,cs,h,hr=>(by simp[iz]at h)|.str,x,l,cs,h,hr=>(by simp[iz]at h)|.sl _,x,l,cs,h,hr=>(by simp[iz]at h)|.own _,x,l,cs,h,hr=>(by simp[iz]at h)|.st _,x,l,cs,h,hr=>(by simp[iz]at h)|.bC _ _,x,l,cs,h,hr=>(by simp[iz]at h)|.ptr _,x,l,cs,h,hr=>(by simp[iz]at h)|.ea _ _,x,l,cs,h,hr=>(by simp[iz]at h)|.mp _ _,x,l,cs,h,hr=>by simp[iz]at h
theorem Bs(hE:aA E)(h:Full n w0 S0 s a w ν S)(ho:bF n o=true) {t:Nat} {x:Operand} {lo hi mx:Option Operand} (aC:o.op= .slice t x lo hi mx)(ae:aP E (aj E F s o) (fun l=>K (s.fin o.dst l))):o.wp E.P a w (fun a' w'=> ∃s',K s'∧Rel n w0 S0 s' a' w') Q:=by
 simp only[aj,aC]at ae;have hx:=h.ev (aw ho (x:=x) (by simp[aC,Op.operands]));split at ae;(·rename_i bl bh T uj Uf hT;have K0:=ru h (fun y hy=>aw ho (by simp[aC,Op.operands,hy])) uj;have K1:=ru h (fun y hy=>aw ho (by simp[aC,Op.operands,hy])) Uf;have hf:=hE.facts hT;cases mx with|none=>simp only[iC]at ae;split at ae;(·split at ae;(·rename_i y bt;rw[bt]at hx;obtain⟨hv,hl⟩:=cI hx;obtain⟨fG,ae⟩:=ae;obtain⟨d,hu,tB⟩:=hf.kV;(have hd:d= .string:=by cases d<;>first|rfl|cases tB);subst hd;have hb:=fq (P:=E.P) (w:=w) (isSlice:=false) (cap:=y.length) K0 K1 fG (Nat.le_refl _);(have cr:(⟨y.toArray⟩:ByteArray).size=y.length:=by simp[ByteArray.size]);refine h.val ho (v:=.string ⟨(cut y bl bh).toArray⟩) ?_ (jV (by rw[sx];simp;omega)) ae;simp only[execOp,aC,hv,Instr.sliceAt,Sem.run_bind,run_underlying hu,Result.andThen_ok,Instr.slice,Option.map_none,Option.isSome_none,Bool.false_eq_true,if_false,Sem.run_pure,cr,hb,ur,sx]);·exact ae.elim);(·rename_i T;obtain⟨e,hu,Ks,jT,kR,ni⟩:=hf.elem hE;have cr:=jT.sizeOf w;(have aU: ∀(aa:Option Addr)(len cap:Nat),a.eval x= .slice aa len cap→gJ len bl bh→len≤cap→(execOp a.eval o).run E.P w= .ok (.value (.slice (if cap=bQ bl then aa else aa.map (·.add (bQ bl*T.cells))) (eb len bh-bQ bl) (cap-bQ bl))) w:=by intro aa len cap he fG Sn;have hb:=fq (P:=E.P) (w:=w) (isSlice:=true) K0 K1 fG Sn;simp only[execOp,aC,he,Instr.sliceAt,Sem.run_bind,run_underlying hu,Result.andThen_ok,Instr.slice,Option.map_none,hb,cr,Sem.run_pure]);split at ae;(·rename_i U xs bt;split at ae;(·rename_i So gr;obtain⟨e',fp⟩:=Ty.aT gr;injection e' with e';subst e';simp only at fp;subst fp;rw[bt]at hx;simp only[ai]at hx;obtain⟨kQ,bW⟩:=hx;obtain⟨fG,ae⟩:=ae;have uv:av (.sl U) xs w ⟨S,ax w0 S0⟩ [a.eval x]:=bW;obtain⟨aa,cap,hv,hle,ld,cj⟩:=bW;injection hv with hv;obtain⟨fQ,kW⟩:=gq fG;refine h.val ho (aU aa _ cap hv fG hle) ?_ ae;simp only[ai];refine⟨kQ,?_⟩;rw[sx];rw[hv]at uv;rcases cj with rfl|⟨g,ob,rfl,_⟩;(·simp only[List.length_nil]at kW fQ;(have h0:eb 0 bh=0:=by omega);(have h1:bQ bl=0:=by omega);simp only[List.length_nil,h0,h1,List.drop_nil,List.take_nil];exact uq (by omega));·exact ow (off:=bQ bl) (len:=eb xs.length bh-bQ bl) uv (by omega) (fun cX=>⟨g,ob,rfl,by rw[if_neg (by omega)];simp[cS]⟩));·exact ae.elim);(·rename_i id bt;split at ae;(·rename_i U xs te hl;obtain⟨hl,_⟩:=bH hl;split at ae;(·obtain⟨fG,ae⟩:=ae;rw[bt]at hx;simp only[ai]at hx;obtain⟨hd,cg,_⟩:=hx;obtain⟨fm,lR,u,lJ,Bl,cj⟩:=h.W.bJ _ _ hl;simp only[List.cons.injEq,and_true]at lJ;simp only[Full.c]at cg;obtain⟨fQ,kW⟩:=gq fG;rcases cj with⟨hn,rfl⟩|⟨g,ob,cap,cur,e',od,hle,ld,_⟩;(·rw[hn]at lJ;rw[lJ]at cg;simp only[List.length_nil]at fQ kW;refine h.val ho (aU none 0 0 cg fG (Nat.le_refl _)) ?_ ae;simp only[ai];exact⟨hd,none,0,0,_,lJ,by simp;omega,Nat.le_refl _,rfl,fun h=>by omega⟩);·rw[od]at lJ;rw[lJ]at cg;refine h.val ho (aU _ _ cap cg fG hle) ?_ ae;simp only[ai];exact⟨hd,_,xs.length,cap,_,lJ,by omega,hle,rfl,fun cX=>⟨g,ob,rfl,by rw[if_neg (by omega)];simp[cS]⟩⟩);·exact ae.elim);·exact ae.elim);(·rename_i id sz off len bt;split at ae;(·rename_i GQ;have GQ:=Nat.eq_of_beq_eq_true GQ;obtain⟨fG,ae⟩:=ae;rw[bt]at hx;simp only[ai]at hx;obtain⟨hd,aa,m',cap,b,cg,hn,ld,hv,hb⟩:=hx;obtain⟨fQ,kW⟩:=gq fG;refine h.val ho (aU b len (cap-off) hv fG (by omega)) ?_ ae;simp only[ai];refine⟨hd,aa,m',cap,_,cg,by omega,ld,by rw[Nat.sub_sub],fun cX=>?_⟩;obtain⟨g,ob,h1,h2⟩:=hb (by omega);exact⟨g,ob,h1,by rw[if_neg (by omega),h2];simp[cS,GQ,Nat.add_mul,Nat.add_assoc]⟩);·exact ae.elim);(·rename_i bt;obtain⟨fG,ae⟩:=ae;rw[bt]at hx;simp only[ai]at hx;obtain⟨fQ,kW⟩:=gq (n:=0) fG;(have h0:eb 0 bh=0:=by omega);(have h1:bQ bl=0:=by omega);refine h.val ho (aU none 0 0 hx fG (Nat.le_refl _)) ?_ ae;simp only[ai,h0,h1];rfl);·exact ae.elim);(·rename_i R;split at ae;(·rename_i U x0 bt;rw[bt]at hx;simp only[ai]at hx;obtain⟨_,g,ob,cs,K3,hg,eG,ya,bW⟩:=hx;split at ae;(·rename_i l hl;split at ae;(·rename_i FZ;simp only[Bool.and_eq_true,Bool.not_eq_true']at FZ;obtain⟨⟨⟨tC,qJ⟩,D1⟩,Ku⟩:=FZ;have mU:=Nat.eq_of_beq_eq_true tC;have oA:=Ty.bZ qJ;have VH:=Nat.le_of_ble_eq_true Ku;clear tC qJ Ku;obtain⟨d,hu,tB⟩:=hf.kV;have vN:=hf.str R d rfl hu;cases d with|array m e=>simp only[b6]at tB;split at tB;(·rename_i V hV;simp only[Bool.and_eq_true]at tB;obtain⟨⟨⟨hR,NY⟩,_⟩,h2⟩:=tB;have hR:=Ty.bZ hR;have h2:=Nat.le_of_ble_eq_true h2;subst hR;rw[ky V NY m (by omega)]at mU;rw[(ij V NY m 0 (by omega)).2]at oA;subst oA;have cr:=(hE.facts hV).sizeOf w;have hb:=fq (P:=E.P) (w:=w) (isSlice:=false) (len:=m) (cap:=m) K0 K1 trivial (Nat.le_refl _);have wh:=uu U x0 l cs hl bW;refine h.val ho (v:=.slice (some ⟨g,ob,none⟩) m m) ?_ ?_ ae;(·simp only[execOp,aC,K3,Nat.add_zero,Instr.sliceAt,Instr.sureAddr,Sem.run_bind,run_underlying hu,Result.andThen_ok,Option.map_none,hb,cr,Sem.run_pure,bQ,eb,Nat.sub_zero,Nat.zero_mul];rw[if_neg (by omega)];rfl);·simp only[ai];refine⟨rfl,some ⟨g,ob,none⟩,m,by rw[mU],by omega,by omega,.inr ⟨g,ob,rfl,hg,fun i y hy=>⟨[.func (.func y) #[] #[]],rfl,fun j v hj=>?_,rfl⟩⟩⟩;(have h0:j=0:=by cases j with|zero=>rfl|succ j=>simp at hj);subst h0;simp only[List.getElem?_cons_zero,Option.some.injEq]at hj;have:=ya i v (by rw[wh,List.getElem?_map,hy];simpa using hj);simpa[Ty.cells]using this);(·cases tB)|struct fs=>have vN:E.str t=true:=vN;rw[vN]at D1;cases D1|_=>simp[b6]at tB);·exact ae.elim);·exact ae.elim);·exact ae.elim);(·exact ae.elim)|some m=>split at ae;(·rename_i GR;cases GR);·rename_i mm GR;injection GR with GR;subst GR;split at ae;(·rename_i km mv NZ;have hm:=h.ev (aw ho (x:=m) (by simp[aC,Op.operands]));rw[NZ]at hm;obtain⟨Ug,_⟩:=bo hm;simp only[kq]at ae;split at ae;(·rename_i T;obtain⟨e,hu,Ks,jT,kR,ni⟩:=hf.elem hE;have cr:=jT.sizeOf w;(have key: ∀(xs:List T.den)(hh:Int),bh=some hh→gJ xs.length bl bh→mv=hh→av (.sl T) xs w ⟨S,ax w0 S0⟩ [a.eval x]→(∃g' n',(execOp a.eval o).run E.P w= .ok (.value (.slice g' n' n')) w∧av (.sl T) (cut xs bl bh) w ⟨S,ax w0 S0⟩ [.slice g' n' n']):=by intro xs hh N0 fG K4 bW;subst N0 K4;have uv:=bW;obtain⟨aa,cap,hv,hle,ld,cj⟩:=bW;injection hv with hv;(obtain⟨vh,kh,N1⟩: ∃vh kh,hi=some vh∧a.eval vh= .int kh mv:=by cases hi with|none=>exact K1.elim|some vh=>obtain⟨k,hk⟩:=K1;exact⟨vh,k,rfl,hk⟩);obtain⟨rfl,N1⟩:=N1;have hb:=nn (P:=E.P) (w:=w) (isSlice:=true) (k:=kh) (k':=km) K0 fG hle;obtain⟨fQ,kW⟩:=gq fG;simp only[eb]at fQ kW;refine⟨if mv.toNat=bQ bl then aa else aa.map (·.add (bQ bl*T.cells)),mv.toNat-bQ bl,?_,?_⟩;(·simp only[execOp,aC,hv,Instr.sliceAt,Sem.run_bind,run_underlying hu,Result.andThen_ok,Instr.slice,Option.map_some,N1,Ug,hb,cr,Sem.run_pure]);·rw[sx];simp only[eb];rw[hv]at uv;rcases cj with rfl|⟨g,ob,rfl,KZ⟩;(·simp only[List.length_nil]at kW fQ;(have h0:mv.toNat=0:=by omega);(have h1:bQ bl=0:=by omega);simp only[h0,h1,List.drop_nil,List.take_nil,Nat.sub_self];exact uq (by omega));·have h1:=ow (b:=some ⟨g,ob+bQ bl*T.cells,none⟩) (off:=bQ bl) (len:=mv.toNat-bQ bl) uv (by omega) (fun cX=>⟨g,ob,rfl,rfl⟩);obtain⟨a',jO,e1,e2,e3,e4⟩:=h1;simp only[List.cons.injEq,Value.slice.injEq,and_true]at e1;obtain⟨e1,Uh,Ui⟩:=e1;have hlen:((xs.drop (bQ bl)).take (mv.toNat-bQ bl)).length=mv.toNat-bQ bl:=Uh.symm;refine⟨_,mv.toNat-bQ bl,by rw[hlen],by rw[hlen];exact Nat.le_refl _,by omega,?_⟩;rcases e4 with e4|⟨g',o',e4,e5⟩;(·exact .inl e4);·by_cases hz:mv.toNat=bQ bl;(·left;apply List.eq_nil_of_length_eq_zero;omega);·right;rw[←e1]at e4;refine⟨g',o',?_,e5⟩;rw[if_neg hz];simpa[cS]using e4);split at ae;(·rename_i U xs bt;split at ae;(·rename_i So hh gr;obtain⟨e',fp⟩:=Ty.aT gr;injection e' with e';subst e';simp only at fp;subst fp;rw[bt]at hx;simp only[ai]at hx;obtain⟨kQ,bW⟩:=hx;obtain⟨⟨fG,K4⟩,ae⟩:=ae;obtain⟨g',n',Nb,AN⟩:=key xs hh rfl fG K4 bW;refine h.val ho Nb ?_ ae;simp only[ai];exact⟨kQ,⟨g',n',rfl⟩,AN⟩);·exact ae.elim);(·rename_i U xs bt;split at ae;(·rename_i So hh gr;obtain⟨e',fp⟩:=Ty.aT gr;injection e' with e';subst e';simp only at fp;subst fp;rw[bt]at hx;simp only[ai]at hx;obtain⟨kQ,_,bW⟩:=hx;obtain⟨⟨fG,K4⟩,ae⟩:=ae;obtain⟨g',n',Nb,AN⟩:=key xs hh rfl fG K4 bW;refine h.val ho Nb ?_ ae;simp only[ai];exact⟨kQ,⟨g',n',rfl⟩,AN⟩);·exact ae.elim);·exact ae.elim);·exact ae.elim);·exact ae.elim)
 ·exact ae.elim
theorem uw(h:Full n w0 S0 s a w ν S)(ho:bF n o=true) {f:Nat} {first cw:Array Operand} (aC:o.op= .makeFunc (.func f) first cw)(ae:aP E (aj E F s o) (fun l=>K (s.fin o.dst l))):o.wp E.P a w (fun a' w'=> ∃s',K s'∧Rel n w0 S0 s' a' w') Q:=by
 simp only[aj,aC]at ae;split at ae;(·rename_i wA;(have hf:first= #[]:=by apply Array.toList_inj.1;simpa using wA);subst hf;have hc:=ef h cw.toList (fun x hx=>aw ho (by simp only[aC,Op.operands];simpa using hx));refine h.val ho (v:=.func (.func f) #[] (cw.map a.eval)) ?_ ?_ ae;(·simp only[execOp,aC,Instr.makeFunc,Sem.run_bind,Sem.run_pure,Result.andThen_ok];rw[show(#[]:Array Operand).map a.eval= #[]from by simp]);·simp only[ai];exact⟨cw.toList.map a.eval,by congr 1;exact Array.toList_inj.1 (by simp),hc⟩)
 ·rename_i y r wA;split at ae;(·rename_i pe;(have hf:cw= #[]:=by apply Array.toList_inj.1;simpa using pe);subst hf;have hc:=ef h first.toList (fun x hx=>aw ho (by simp only[aC,Op.operands];simpa using hx));rw[←wA]at ae;refine h.val ho (v:=.func (.func f) (first.map a.eval) #[]) ?_ ?_ ae;(·simp only[execOp,aC,Instr.makeFunc,Sem.run_bind,Sem.run_pure,Result.andThen_ok];rw[show(#[]:Array Operand).map a.eval= #[]from by simp]);·simp only[ai];exact⟨first.toList.map a.eval,by congr 1;exact Array.toList_inj.1 (by simp),hc⟩);·exact ae.elim
theorem ry {c:Ctx} : ∀(vs:List PV)(us:List Value)(i:Nat)(p:PV),ak c vs us→rj vs i=some p→ ∃v,us[i]?=some v∧ai c p v|[],us,i,p,h,hv=>(by simp[rj]at hv)|q::vs,us,0,p,h,hv=>(by simp only[ak]at h;obtain⟨u,r,rfl,h1,h2⟩:=h;simp[rj]at hv;subst hv;exact⟨u,rfl,h1⟩)|q::vs,us,i+1,p,h,hv=>by simp only[ak]at h;obtain⟨u,r,rfl,h1,h2⟩:=h;simpa using ry vs r i p h2 hv
theorem eQ {T:Ty} {x:T.den} {w:World} {M:Mem} {v:Value} (h:b8 T x w M v):iy T x w M v:=by cases T<;>first|exact h|exact h.elim
theorem sy {c:Ctx} : ∀(T:Ty)(x:T.den)(us:List Value)(i:Nat)(p:PV),aB T=0→qL T x c.w c.M us→ga T x i=some p→ ∃v,us[i]?=some v∧ai c p v:=by
 intro T;induction T with|bC a b et dR=>intro x us i p ho h hv;simp[aB]at ho;obtain⟨u,r,rfl,h1,h2⟩:=h;(cases i with|zero=>simp only[ga,Option.some.injEq]at hv;subst hv;refine⟨u,rfl,?_⟩;simp only[ai];exact⟨ho.1,eQ h1⟩|succ i=>simpa using dR _ _ _ _ ho.2 h2 hv)|_=>intro x us i p ho h hv;obtain⟨u,rfl,h1⟩:=h;cases i with|zero=>simp only[ga,Option.some.injEq]at hv;subst hv;refine⟨u,rfl,?_⟩;simp only[ai];exact⟨ho,eQ h1⟩|succ i=>simp[ga]at hv
theorem wB(h:Full n w0 S0 s a w ν S)(ho:bF n o=true) {x:Operand} {i:Nat} (aC:o.op= .extract x i)(ae:aP E (aj E F s o) (fun l=>K (s.fin o.dst l))):o.wp E.P a w (fun a' w'=> ∃s',K s'∧Rel n w0 S0 s' a' w') Q:=by
 simp only[aj,aC]at ae;have hx:=h.ev (aw ho (x:=x) (by simp[aC,Op.operands]));split at ae;(·rename_i p hp;(have key: ∃us:List Value,a.eval x= .tuple us.toArray∧ ∃v,us[i]?=some v∧ai h.c p v:=by cases bt:s.ev x with|bC vs=>rw[bt]at hx hp;simp only[ai]at hx;obtain⟨us,hv,hr⟩:=hx;exact⟨us,hv,ry vs us i p hr hp⟩|iv T y=>rw[bt]at hx hp;(cases T with|bC ta tb=>simp only[ai]at hx;obtain⟨eH,us,hv,hr⟩:=hx;exact⟨us,hv,sy _ y us i p eH hr hp⟩|_=>simp only[lP]at hp;cases hp)|_=>rw[bt]at hp;simp only[lP]at hp;cases hp);obtain⟨us,hv,v,DC,hr⟩:=key;refine h.val ho (v:=v) ?_ hr ae;simp[execOp,aC,hv,Instr.extract,DC])
 ·exact ae.elim
end
end Go.Proofs.Ytbbmofoiipjbgaa
