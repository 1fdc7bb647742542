/-
  The operations one by one, continued: parts of slices and strings, new arrays, closures. Nothing here is trusted; no condition.
-/
import Derived.Test.YtimognngcagphaaGreatA1
import Derived.Deep.AppendSrc
import Derived.Laws.MakeOwn
import Derived.Laws.StructEq
set_option linter.all false
namespace Go.Proofs.YtimognngcagphaaGreat
section
variable {en:Prop} [lj en]
open Go.RowKit
structure Ctx.FF(ks:List Nat)(c c':Ctx):Prop where
 heap: ∀b,c.M.S b→c'.w.heap[b]?=c.w.heap[b]?
 S: ∀b,c.M.S b→c'.M.S b
 D: ∀i,c.D i→ao i ks=false→c'.D i
 ν: ∀i,c.D i→ao i ks=false→c'.ν i=c.ν i
def FG(c:Ctx)(ks:List Nat):Prop:= ∀i,ao i ks=true→c.D i→(∃a n m,c.ν i= .slice a n m)∨ ∃us,c.ν i=jL us
mutual theorem tg {ks:List Nat} {c c':Ctx} (hc:c.FF ks c')(hb:FG c ks): ∀ {p:PV} {v:Value},ag c p v→ag c' (p.kill ks) v|.iv T x,v,h=>(by simp only[PV.kill,ag]at h⊢;exact⟨h.1,jm hc.heap hc.S h.1 h.2⟩)|.ref i off,v,h=>(by simp only[PV.kill,ag]at h⊢;obtain⟨hd,g,h1,h2⟩:=h;(have bS:ao i ks=false:=by cases hm:ao i ks with|false=>rfl|true=>rcases hb i hm hd with⟨a,n,m,e⟩|⟨us,e⟩<;>(rw[h1]at e;cases e));exact⟨hc.D _ hd bS,g,by rw[hc.ν _ hd bS];exact h1,h2⟩)|.lmap i,v,h=>(by simp only[PV.kill,ag]at h⊢;obtain⟨hd,h1,r,h2⟩:=h;(have bS:ao i ks=false:=by cases hm:ao i ks with|false=>rfl|true=>rcases hb i hm hd with⟨a,n,m,e⟩|⟨us,e⟩<;>(rw[h1,e]at h2;cases h2));exact⟨hc.D _ hd bS,by rw[hc.ν _ hd bS];exact h1,r,h2⟩)|.eV T x off,v,h=>(by simp only[PV.kill,ag]at h⊢;obtain⟨ho,g,o,cs,h1,h2,h3,h4,h5⟩:=h;exact⟨ho,g,o,cs,h1,hc.S _ h2,h3,h4.mono (hc.heap _ h2),aD hc.heap hc.S _ _ _ ho h5⟩)|.aB i,v,h=>(by simp only[PV.kill];cases hi:ao i ks;(·simp only[cond_false,ag]at h⊢;exact⟨hc.D _ h.1 hi,by rw[hc.ν _ h.1 hi];exact h.2.1,h.2.2⟩);·simp only[cond_true,ag])|.ll i sz off len,v,h=>(by simp only[PV.kill];cases hi:ao i ks;(·simp only[cond_false,ag]at h⊢;obtain⟨hd,a,n,cap,b,h1,h2⟩:=h;exact⟨hc.D _ hd hi,a,n,cap,b,by rw[hc.ν _ hd hi];exact h1,h2⟩);·simp only[cond_true,ag])|.il i sz j off,v,h=>(by simp only[PV.kill];cases hi:ao i ks;(·simp only[cond_false,ag]at h⊢;obtain⟨hd,g,o,n,cap,h1,h2⟩:=h;exact⟨hc.D _ hd hi,g,o,n,cap,by rw[hc.ν _ hd hi];exact h1,h2⟩);·simp only[cond_true,ag])|.agg cs,v,h=>(by simp only[PV.kill,ag]at h⊢;obtain⟨vs,h1,h0,h2⟩:=h;exact⟨vs,h1,h0,fV hc hb h2⟩)|.bG cs,v,h=>(by simp only[PV.kill,ag]at h⊢;obtain⟨vs,h1,h2⟩:=h;exact⟨vs,h1,fV hc hb h2⟩)|.bO,v,h=>(by simp only[PV.kill,ag]at h⊢;exact h)|.cv,v,h=>(by simp only[PV.kill,ag]at h⊢;exact h)|.dV,v,h=>(by simp only[PV.kill,ag]at h⊢;exact h)|.ke i base T n j,v,h=>(by simp only[PV.kill,ag]at h⊢;obtain⟨hd,h0,hn,g,h1,h2⟩:=h;(have bS:ao i ks=false:=by cases hm:ao i ks with|false=>rfl|true=>rcases hb i hm hd with⟨a,n,m,e⟩|⟨us,e⟩<;>(rw[h1]at e;cases e));exact⟨hc.D _ hd bS,h0,hn,g,by rw[hc.ν _ hd bS];exact h1,h2⟩)|.zW f cs,v,h=>(by simp only[PV.kill,ag]at h⊢;obtain⟨vs,h1,h2⟩:=h;exact⟨vs,h1,fV hc hb h2⟩)|.rk f cs,v,h=>(by simp only[PV.kill,ag]at h⊢;obtain⟨vs,h1,h2⟩:=h;exact⟨vs,h1,fV hc hb h2⟩)|.bU hk i,v,h=>(by simp only[PV.kill];cases hi:ao i ks;(·simp only[cond_false,ag]at h⊢;exact⟨hc.D _ h.1 hi,by rw[hc.ν _ h.1 hi];exact h.2⟩);·simp only[cond_true,ag])|.clip T xs,v,h=>(by simp only[PV.kill,ag]at h⊢;exact⟨h.1,h.2.1,aD hc.heap hc.S (.sl T) _ _ h.1 h.2.2⟩)|.fn f cs,v,h=>(by simp only[PV.kill,ag]at h⊢;obtain⟨vs,h1,h2⟩:=h;exact⟨vs,h1,fV hc hb h2⟩)|.any,v,h=>by simp only[PV.kill,ag]theorem fV {ks:List Nat} {c c':Ctx} (hc:c.FF ks c')(hb:FG c ks): ∀ {ps:List PV} {vs:List Value},aj c ps vs→aj c' (PV.cK ks ps) vs|[],vs,h=>(by simp only[PV.cK,aj]at h⊢;exact h)|p::ps,vs,h=>by simp only[PV.cK,aj]at h⊢;obtain⟨v,r,h1,h2,h3⟩:=h;exact⟨v,r,h1,tg hc hb h2,fV hc hb h3⟩end
theorem jg(f:PV→PV)(t:Nat): ∀l:List (Nat×PV),look t (mF f l)=(look t l).map f|[]=>rfl|p::r=>by simp only[mF,look];cases Nat.beq t p.1;(·simpa using jg f t r);·rfl
theorem qg(f:List PV→List PV)(t:Nat): ∀l:List (Nat×aQ),look t (oE f l)=(look t l).map (aQ.map f)|[]=>rfl|p::r=>by simp only[oE,look];cases Nat.beq t p.1;(·simpa using qg f t r);·rfl
theorem eW(ks:List Nat)(t:Nat): ∀l:List (Nat×aQ),look t (bA ks l)=bif ao t ks then none else look t l|[]=>(by simp[bA,look])|p::r=>by simp only[bA];cases hm:ao p.1 ks with|true=>simp only[cond_true,look,eW ks t r];(cases hb:Nat.beq t p.1 with|true=>rw[y6 hb,hm];rfl|false=>rfl)|false=>simp only[cond_false,look,eW ks t r];cases hb:Nat.beq t p.1 with|true=>rw[y6 hb,hm];rfl|false=>rfl
theorem wv(s:St)(ks:List Nat)(t:Nat):(s.kill ks).get t=(s.get t).kill ks:=by simp only[St.get,St.kill,jg];cases look t s.sl<;>simp[PV.kill]
theorem oJ(s:St)(ks:List Nat)(i:Nat):look i (s.kill ks).bl=(look i s.bl).map (aQ.map (PV.cK ks)):=by simp only[St.kill,qg]
theorem yw {ks:List Nat} {c c':Ctx} (hc:c.FF ks c')(Tx:FG c ks)(hB:c'.M.O=c.M.O) {id:Nat} {b:aQ} (cE:c'.ν id=c.ν id)(hg: ∀g,dh (c.ν id) g→c'.w.heap[g]?=c.w.heap[g]?∧(¬c.M.S g→ ¬c'.M.S g))(h:kC c id b):kC c' id (b.map (PV.cK ks)):=by
 cases b with|box cs te=>obtain⟨kd,g,vs,e,h1,h2,h3,h4,h0,h5⟩:=h;obtain⟨e1,e2⟩:=hg g (by rw[h1];rfl);exact⟨kd.oH cE fun g ee=>(hg g (dx ee)).1,g,vs,e,by rw[cE];exact h1,by rw[hB];exact h2,e2 h3,by rw[e1];exact h4,h0,fV hc Tx h5⟩|arr T xs te=>obtain⟨kd,ho,v,hv,h1,h2⟩:=h;injection hv with hv;refine⟨kd.oH cE fun g ee=>(hg g (dx ee)).1,ho,v,by rw[cE,hv],h1,?_⟩;rcases h2 with h2|⟨g,o,cap,cur,e,rfl,h3,h4,h5,h6,h7,h8,h9⟩;(·exact .inl h2);(·obtain⟨e1,e2⟩:=hg g (by rw[hv];rfl);refine .inr ⟨g,o,cap,cur,e,rfl,h3,h4,e2 h5,by rw[hB];exact h6,by rw[e1];exact h7,h8,fun i y hy=>?_⟩;obtain⟨cs,hl,Cd,hr⟩:=h9 i y hy;exact⟨cs,hl,Cd.mono e1,aD hc.heap hc.S _ _ _ ho hr⟩)|mp K V es=>obtain⟨dy,wm,h0,r,ay,clock,h1,h2,h3,h4,h5,h6,h7⟩:=h;obtain⟨e1,e2⟩:=hg r (by rw[h1];rfl);refine⟨dy,wm,h0,r,ay,clock,by rw[cE];exact h1,by rw[hB];exact h2,e2 h3,by rw[e1];exact h4,h5,h6,fun i y hy=>?_⟩;obtain⟨e,ca,cb,a1,a2,a3,a4,a5⟩:=h7 i y hy;exact⟨e,ca,cb,a1,a2,aD hc.heap hc.S _ _ _ dy a3,a4,aD hc.heap hc.S _ _ _ wm a5⟩|it src since seen=>obtain⟨g,m,h1,h2,h3,h4,h6⟩:=h;obtain⟨e1,e2⟩:=hg g (by rw[h1];rfl);exact⟨g,m,by rw[cE];exact h1,by rw[hB];exact h2,e2 h3,by rw[e1];exact h4,fV hc Tx h6⟩|Bj x pos=>obtain⟨g,h1,h2,h3,h4,h5⟩:=h;obtain⟨e1,e2⟩:=hg g (by rw[h1];rfl);exact⟨g,by rw[cE];exact h1,by rw[hB];exact h2,e2 h3,by rw[e1];exact h4,h5⟩|gh o cs=>obtain⟨g,vs,h1,h2,h3,h4,h6⟩:=h;obtain⟨e1,e2⟩:=hg g (by rw[h1];rfl);exact⟨g,vs,by rw[cE];exact h1,by rw[hB];exact h2,e2 h3,by rw[e1];exact h4,fV hc Tx h6⟩|ln T xss=>exact rO hc.heap hc.S cE (fun g iQ hO hn=>⟨(hg g iQ).1,by rw[hB];exact hO,(hg g iQ).2 hn⟩) h
theorem mO {i k:Nat} :ao i [k]=Nat.beq i k:=by simp only[ao];cases Nat.beq i k<;>rfl
theorem Ab {i k:Nat} (h:i≠k):ao i [k]=false:=by rw[mO];cases hb:Nat.beq i k with|false=>rfl|true=>exact absurd (y6 hb) h
theorem rP {i k:Nat} (h:ao i [k]=true):i=k:=by rw[mO]at h;exact y6 h
section
variable {n:Nat} {w0:World} {S0:Cx} {s:St} {a:Act} {w:World} {ν:Nat→Value} {S:Nat→Prop}
theorem Full.app(h:Full n w0 S0 s a w ν S) {d id j:Nat} {T:Ty} {xs:List T.den} {te:Option Nat} {b':aQ} {v':Value} {w':World} (hd:d<n)(hl:look id s.bl=some (.arr T xs te))(hj:j<P0)(FH:j=id∨look j s.bl=none)(hw:eP w w' (aM (ν id)))(hv: ∃a n cap,v'= .slice a n cap)(jM: ∀g,dh v' g→dh (ν id) g∨w.heap.size≤g)(hb: ∀D:Nat→Prop,kC ⟨fun i=>if i=j then v' else ν i,D,w',⟨S,aJ w0 S0⟩⟩ j b'):Full n w0 S0 ⟨(d,.aB j)::(s.kill [id]).sl,(j,b')::bA [id] (s.kill [id]).bl⟩ (a.put (some d) v') w' (fun i=>if i=j then v' else ν i) S:=by
 (have lV: ∃a n m,ν id= .slice a n m:=by obtain⟨_,ho,v,hv,_,h2⟩:=h.W.cD id _ hl;injection hv with hv;simp only at hv;rw[hv];rcases h2 with⟨h2,_⟩|⟨g',o,cap,cur,e,h2,_⟩<;>subst h2<;>exact⟨_,_,_,rfl⟩)
 (have Tx:FG ⟨ν,s.D,w,⟨S,aJ w0 S0⟩⟩ [id]:=by intro i hi _;rw[rP hi];exact .inl lV);(have JC: ∀i c,i≠j→look i (⟨(d,.aB j)::(s.kill [id]).sl,(j,b')::bA [id] (s.kill [id]).bl⟩:St).bl=some c→i≠id∧ ∃c0,look i s.bl=some c0∧c=c0.map (PV.cK [id]):=by intro i c eQ hc;rw[al _ _ eQ,eW]at hc;cases hm:ao i [id]with|true=>rw[hm]at hc;cases hc|false=>rw[hm]at hc;simp only[cond_false]at hc;rw[oJ]at hc;refine⟨fun e=>?_,?_⟩;(·subst e;rw[mO,Nat.beq_refl]at hm;cases hm);·cases ZK:look i s.bl with|none=>rw[ZK]at hc;cases hc|some c0=>rw[ZK]at hc;injection hc with hc;exact⟨c0,rfl,hc.symm⟩)
 (have hD: ∀i,s.D i→i≠id→(⟨(d,.aB j)::(s.kill [id]).sl,(j,b')::bA [id] (s.kill [id]).bl⟩:St).D i:=by rintro i⟨c,hc⟩bS;by_cases eQ:i=j;(·subst eQ;exact⟨b',aw _ _ _⟩);·exact⟨c.map (PV.cK [id]),by rw[al _ _ eQ,eW,Ab bS,cond_false,oJ,hc];rfl⟩)
 (have bS: ∀i,s.D i→i≠id→i≠j:=by rintro i⟨c,hc⟩hi e;subst e;rcases FH with FH|FH;(·exact hi FH);·rw[FH]at hc;cases hc);have hS: ∀g,S g→w'.heap[g]?=w.heap[g]?:=fun g hg=>hw.block g (h.W.lt g hg) (fun e=>(h.iF hl (dx e.symm)).2.1 hg)
 (have hle:Ctx.FF [id] ⟨ν,s.D,w,⟨S,aJ w0 S0⟩⟩ ⟨fun i=>if i=j then v' else ν i,(⟨(d,.aB j)::(s.kill [id]).sl,(j,b')::bA [id] (s.kill [id]).bl⟩:St).D,w',⟨S,aJ w0 S0⟩⟩:=by refine⟨hS,fun _ h=>h,fun i hi hm=>hD i hi ?_,fun i hi hm=>?_⟩;(·rintro rfl;rw[mO,Nat.beq_refl]at hm;cases hm);·(have:i≠id:=by rintro rfl;rw[mO,Nat.beq_refl]at hm;cases hm);simp[bS i hi this])
 refine⟨h.below.grown hw (fun g hg=>(h.iF hl (dx hg)).1),h.FC,h.fresh,⟨fun g hg=>Nat.lt_of_lt_of_le (h.W.lt g hg) hw.size,fun g hg=>h.W.size g (Nat.le_trans hw.size hg),fun i c hc=>?_,fun i k c e Hw hi hk g iQ ur=>?_⟩,?_,?_,?_,h.rM,fun i hi FD=>?_,h.Hu⟩
 (·by_cases hi:i=j;(·subst hi;rw[aw]at hc;injection hc with hc;subst hc;exact hb _);·obtain⟨MZ,c0,th,rfl⟩:=JC i c hi hc;refine yw hle Tx rfl (by simp[hi]) (fun g hg=>?_) (h.W.cD i c0 th);exact⟨hw.block g (h.iF th hg).2.2 (fun e=>h.W.ne i id c0 _ MZ th hl g hg (dx e.symm)),fun h=>h⟩)
 (·by_cases eQ:i=j;(·subst eQ;have nC:k≠i:=fun e=>Hw e.symm;simp only[if_true]at iQ;simp only[nC,if_false]at ur;obtain⟨bP6,e',A2,_⟩:=JC k e nC hk;rcases jM g iQ with hf|hf;(·exact h.W.ne id k _ _ (fun e=>bP6 e.symm) hl A2 g hf ur);·have:=(h.iF A2 ur).2.2;omega);·simp only[eQ,if_false]at iQ;obtain⟨bP7,c',jN,_⟩:=JC i c eQ hi;by_cases hkj:k=j;(·subst hkj;simp only[if_true]at ur;rcases jM g ur with hf|hf;(·exact h.W.ne i id _ _ bP7 jN hl g iQ hf);·have:=(h.iF jN iQ).2.2;omega);·simp only[hkj,if_false]at ur;obtain⟨_,e',A2,_⟩:=JC k e hkj hk;exact h.W.ne i k _ _ Hw jN A2 g iQ ur)
 (·intro t;(have hlf:ag ⟨fun i=>if i=j then v' else ν i,(⟨(d,.aB j)::(s.kill [id]).sl,(j,b')::bA [id] (s.kill [id]).bl⟩:St).D,w',⟨S,aJ w0 S0⟩⟩ (.aB j) v':=by simp only[ag];exact⟨⟨b',aw _ _ _⟩,by simp,hv⟩);refine yu (s:=s.kill [id]) (fun t=>?_) h.size hd (fun t=>?_) hlf t;(·rw[wv];exact tg hle Tx (h.gn t));·by_cases ht:t=d;(·subst ht;simp[St.get,aw]);·simp[St.get,al _ _ ht,ht])
 (·rw[wu];exact h.size);(·rw[qf];exact h.defers);·have eQ:i≠j:=v6;simp only[eQ,if_false];obtain⟨c,hc⟩:=FD;obtain⟨_,c0,th,_⟩:=JC i c eQ hc;exact h.kept i hi ⟨c0,th⟩
end
/-! ### append -/
theorem ti {T:Ty} {w:World} {M:Mem} {g o:Nat} : ∀(xs:List T.den),(∀i y,xs[i]?=some y→ ∃cs,cs.length=T.cells∧ep w g (o+i*T.cells) cs∧aH T y w M cs)→ ∃vs:List Value,vs.length=xs.length*T.cells∧ep w g o vs∧(∀u,u∈vs→u.oneCell'=true)∧ ∀i y,xs[i]?=some y→aH T y w M ((vs.drop (i*T.cells)).take T.cells):=by
 intro xs;induction xs generalizing o with|nil=>intro _;exact⟨[],by simp,fun j v h=>by simp at h,by simp,fun i y h=>by simp at h⟩|cons x xs ih=>intro h;obtain⟨cs,hl,hc,hr⟩:=h 0 x rfl;obtain⟨vs,EP,hvc,hv1,hvr⟩:=ih (o:=o+T.cells) (fun i y hy=>by obtain⟨uL,ZK,jN,kF⟩:=h (i+1) y (by simpa using hy);refine⟨uL,ZK,?_,kF⟩;(have e:o+(i+1)*T.cells=o+T.cells+i*T.cells:=by rw[Nat.add_mul];omega);rwa[e]at jN);refine⟨cs++vs,by simp[hl,EP,Nat.add_mul];omega,fun j v hj=>?_,fun u hu=>?_,fun i y hy=>?_⟩;(·rcases Nat.lt_or_ge j T.cells with ZL|ZL;(·rw[List.getElem?_append_left v6]at hj;have:=hc j v hj;simpa using this);·rw[List.getElem?_append_right v6]at hj;have:=hvc _ v hj;rw[←this];congr 2;omega);(·rcases ws hu with hu|hu;(·exact wj _ _ _ _ _ hr u hu);·exact hv1 u hu);·cases i with|zero=>simp at hy;subst hy;rw[Nat.zero_mul,List.drop_zero,←hl,List.take_left];exact hr|succ i=>have:=hvr i y (by simpa using hy);(have e:(i+1)*T.cells=cs.length+i*T.cells:=by rw[Nat.add_mul,hl];omega);rw[e,List.drop_append];simpa[List.drop_of_length_le]using this
theorem Bm {T:Ty} {w:World} {M:Mem} {g o:Nat} {xs:List T.den} {vs:List Value} (hl:vs.length=xs.length*T.cells)(hc:ep w g o vs)(hr: ∀i y,xs[i]?=some y→aH T y w M ((vs.drop (i*T.cells)).take T.cells)): ∀i y,xs[i]?=some y→ ∃cs,cs.length=T.cells∧ep w g (o+i*T.cells) cs∧aH T y w M cs:=by
 intro i y hy;(have hi:i<xs.length:=by rcases Nat.lt_or_ge i xs.length with h|h;(·exact h);·rw[List.getElem?_eq_none h]at hy;cases hy);refine⟨_,bV _ _ _ _ _ (hr i y hy),fun j v hj=>?_,hr i y hy⟩
 (have Aa:j<T.cells:=by rcases Nat.lt_or_ge j T.cells with h|h;(·exact h);·rw[List.getElem?_eq_none (by rw[bV _ _ _ _ _ (hr i y hy)];exact h)]at hj;cases hj);rw[List.getElem?_take,if_pos Aa,List.getElem?_drop]at hj
 have:=hc _ v hj;rw[←this,Nat.add_assoc]
theorem uM {T : Ty} {w w' : World} {M : Mem} (hw : ∀ b, M.S b → w'.heap[b]? = w.heap[b]?) (ho : aR T = 0) {xs ys : List T.den} {us vs : List Value} (hu : us.length = xs.length * T.cells) (hr : ∀ i y, xs[i]? = some y → aH T y w M ((us.drop (i * T.cells)).take T.cells))
    (hs : ∀ i y, ys[i]? = some y → aH T y w M ((vs.drop (i * T.cells)).take T.cells)) : ∀ i y, (xs ++ ys)[i]? = some y → aH T y w' M (((us ++ vs).drop (i * T.cells)).take T.cells) := by
  intro i y hy
  refine aD hw (fun _ h => h) _ _ _ ho ?_
  rcases Nat.lt_or_ge i xs.length with hi | hi
  · rw [List.getElem?_append_left hi] at hy
    have h1 := hr i y hy
    have hle : i * T.cells + T.cells ≤ us.length := by
      rw [hu]
      calc i * T.cells + T.cells = (i + 1) * T.cells := by rw [Nat.add_mul]; omega
        _ ≤ xs.length * T.cells := Nat.mul_le_mul_right _ hi
    rw [List.drop_append_of_le_length v6, List.take_append_of_le_length (by rw [List.length_drop]; omega)]
    exact h1
  · rw [List.getElem?_append_right hi] at hy
    have h1 := hs _ y hy
    have e : i * T.cells = us.length + (i - xs.length) * T.cells := by
      rw [hu, ← Nat.add_mul]
      congr 1
      omega
    rw [e, List.drop_append]
    simpa [List.drop_of_length_le] using h1
end
section
variable {en:Prop} [lj en]
open Go.RowKit
theorem eX(g o n:Nat):(⟨g,o,none⟩:Addr).add n=⟨g,o+n,none⟩:=by unfold Addr.add;split<;>simp_all
theorem cS.elem {E:Env} (hE:aI E) {t:Nat} {T:Ty} (h:cS E t (.sl T)): ∃e,E.P.underlying t=some (.slice e)∧E.ty e=some T∧cS E e T∧T.val=true∧0<T.cells:=by
 obtain⟨d,hd,hs⟩:=h.sZ;(cases d<;>simp only[di]at hs<;>first|cases hs|skip);rename_i e;simp only[z8,rL]at hs;obtain⟨⟨h1,h2⟩,h3⟩:=hs;split at h1;(·rename_i U hU;rw[Ty.dw h1]at hU;exact⟨e,hd,hU,hE.facts hU,h2,Nat.le_of_ble_eq_true h3⟩)
 ·cases h1
structure Source(w:World)(size:Nat)(a:Option Addr)(m:Nat)(news:List Value):Prop where
 len:news.length=m*size
 cells:m=0∨ ∃ad,a=some ad∧ ∀j u,news[j]?=some u→w.cell? (ad.add j)=some u
 one: ∀u,u∈news→u.oneCell'=true
theorem Source.first {P:Program} {w:World} {size:Nat} {a:Option Addr} {m:Nat} {news:List Value} (h:Source w size a m news)(c:Nat):(Builtin.firstCells size m (.slice a m c)).run P w= .ok news.toArray w:=by
 rcases h.cells with rfl|⟨ad,rfl,hc⟩;(·have hn:news=[]:=List.eq_nil_of_length_eq_zero (by simpa using h.len);subst hn;cases a with|none=>exact run_firstCells_none w _ _ _ _|some ad=>exact run_firstCells_some w size 0 ad _ c [] (by simp) (by simp))
 ·exact run_firstCells_some w size m ad _ c news h.len hc
theorem gZ(w:World)(g:Nat)(cs:Array Value):eP w (w.setRow g cs) (some g):=⟨rfl,rfl,rfl,by simp,fun k _ hk=>setRow_other w g k _ (fun e=>hk (by rw[e])),fun _=>x8⟩
theorem Source.src {P:Program} {w:World} {size:Nat} {a:Option Addr} {m:Nat} {news:List Value} (h:Source w size a m news) {tx e':TypeId} (hk:P.underlying tx=some (.slice e'))(c:Nat):Src P size tx (.slice a m c) m news w:=⟨.inl ⟨e',hk⟩,fun _=>rfl,h.first c,by have h':Source w.drew size a m news:=⟨h.len,h.cells,h.one⟩;exact h'.first c,h.len,h.one⟩
theorem yx {P:Program} {w:World} {t tx ty e:TypeId} {i:TypeInfo} (ht:P.underlying t=some (.slice e))(hi:P.info? e=some i) {g o n cap:Nat} {cur:Array Value} {e':TypeId} (hg:w.heap[g]?=some (.cells cur e' (0,0))) {x:Value} {m:Nat} {news:List Value} (hs:Src P i.size tx x m news w)(wx:n+m≤cap)(ue:o+n*i.size+news.length≤cur.size):(Builtin.append_ #[t,tx] ty #[.slice (some ⟨g,o,none⟩) n cap,x]).run P w= .ok (.slice (some ⟨g,o,none⟩) (n+m) cap) (w.setRow g (cur.toList.take (o+n*i.size)++news++cur.toList.drop (o+n*i.size+news.length)).toArray):=by
 have cw:=run_storeCells_at (P:=P) g (o+n*i.size) e' news 0 cur w hg (by simpa using ue) hs.one;simp only[Nat.add_zero]at cw;rcases hs.kind with⟨e2,hk⟩|hk<;>simp[Builtin.append_,run_underlying ht,run_underlying hk,sizeOf,typeInfo,hi,hs.len,wx,hs.cells,eX,cw]
theorem Pd(z:Array Value)(n:Nat):(Builtin.zeroCells z n).size=n*z.size:=by simp[Builtin.zeroCells]
theorem yz {E:Env} {T:Ty} {w:World} {M:Mem} {zs:List T.den} {e:TypeId} {z:Value} (ME:z.cells.size=T.cells)(ho:aR T=0)(cu: ∀b,M.S b→b<w.heap.size)(hB: ∀g,w.heap.size≤g→M.O g)(hlen:zs.length≤274877906944)(cs:List Value)(gI:cs.length=zs.length*T.cells)(hcr: ∀i y,zs[i]?=some y→aH T y w M ((cs.drop (i*T.cells)).take T.cells))(iG:Nat):aH (.own T) zs (w.drew.alloc (.cells (cs.toArray++Builtin.zeroCells z.cells (grownCap w zs.length iG e-zs.length)) e)) M [.slice (some ⟨w.heap.size,0,none⟩) zs.length (grownCap w zs.length iG e)]:=by
 have JD:=grownCap_ge w zs.length iG e;have hcm:=grownCap_le_maxLen w zs.length iG e (by simp only[maxLen];omega);simp only[maxLen]at hcm;have hh:(w.drew.alloc (.cells (cs.toArray++Builtin.zeroCells z.cells (grownCap w zs.length iG e-zs.length)) e)).heap[w.heap.size]?=some (.cells (cs.toArray++Builtin.zeroCells z.cells (grownCap w zs.length iG e-zs.length)) e):=heap_alloc_new w.drew _
 refine⟨_,rfl,v6,.inr ⟨w.heap.size,0,grownCap w zs.length iG e,_,e,rfl,JD,v6,fun h=>absurd (cu _ h) v6,hB _ (x8),hh,?_,?_⟩⟩;(·rw[Array.size_append,Pd,ME,List.size_toArray,gI,Nat.zero_add,←Nat.add_mul];exact Nat.mul_le_mul_right _ v6)
 ·refine Bm (vs:=cs) gI (fun j u hj=>?_) (fun k y hy=>?_);(·rw[cell_of_row _ _ _ _ _ _ hh,Nat.zero_add,Array.getElem?_append_left (by simpa using(z6 hj).1)];simpa using hj);·exact aD (w:=w) (fun b hb=>Below.heap_alloc w.drew _ b (cu b hb)) (fun _ h=>h) _ _ _ ho (hcr k y hy)
theorem lK {E:Env} (hE:aI E) {t tx ty:Nat} {T:Ty} (ht:E.ty t=some (.sl T)) {w:World} {M:Mem} {a:Option Addr} {m:Nat} {xs ys:List T.den} (ho:aR T=0)(lV:aH (.sl T) xs w M [.slice a m m])(cu: ∀b,M.S b→b<w.heap.size)(hB: ∀g,w.heap.size≤g→M.O g) {x:Value} {news:List Value} (hs:Src E.P T.cells tx x ys.length news w)(hr: ∀i y,ys[i]?=some y→aH T y w M ((news.drop (i*T.cells)).take T.cells))(bS:ys≠ [])(hlen:xs.length+ys.length≤274877906944): ∃v' w',(Builtin.append_ #[t,tx] ty #[.slice a m m,x]).run E.P w= .ok v' w'∧aH (.own T) (xs++ys) w' M [v']∧eP w w' none∧(∃a n cap,v'= .slice a n cap)∧(∀g,aM v'=some g→w.heap.size≤g):=by
 obtain⟨e,hu,he,rQ,oK,rR⟩:=(hE.facts ht).elem hE;obtain⟨i,hi,cY,hby,_,z,hz,ME⟩:=rQ.info;rw[←cY]at hs;(have aa4: ∀k:Nat,k≤274877906944→k*i.bytes≤140737488355328:=fun k hk=>by calc k*i.bytes≤274877906944*512:=Nat.mul_le_mul hk hby
 _=140737488355328:=by decide);have hm:ys.length≠0:=fun h=>bS (List.eq_nil_of_length_eq_zero h);obtain⟨a',rJ,hv,h1,h2,h3⟩:=lV;(obtain⟨rfl,rfl,rfl⟩:a'=a∧m=xs.length∧rJ=m:=by injection hv with hv;injection hv with h1 h2 h3;exact⟨h1.symm,h2,h3.symm⟩)
 (obtain⟨us,wy,M3,ZM⟩: ∃us:List Value,us.length=xs.length*T.cells∧(∀i y,xs[i]?=some y→aH T y w M ((us.drop (i*T.cells)).take T.cells))∧(Builtin.firstCells i.size xs.length (.slice a' xs.length xs.length)).run E.P w.drew= .ok us.toArray w.drew:=by rcases h3 with rfl|⟨g,o,rfl,_,gq⟩;(·refine⟨[],by simp,fun i y hy=>by simp at hy,?_⟩;cases a' with|none=>exact run_firstCells_none _ _ _ _ _|some ad=>exact run_firstCells_some _ _ 0 ad _ _ [] (by simp) (by simp));·obtain⟨us,wy,huc,T8,M3⟩:=ti xs gq;exact⟨us,wy,M3,run_firstCells_some w.drew i.size xs.length ⟨g,o,none⟩ _ _ us (by rw[wy,cY]) (fun j u hj=>by rw[eX];exact huc j u hj)⟩)
 have aT:=run_append_grow_src (P:=E.P) w t tx ty e i z hu hi hz a' xs.length xs.length us ZM x ys.length news hs v6 v6 (growslice_fits v6 (aa4 _ hlen))
 have hg:=yz (E:=E) (e:=e) (zs:=xs++ys) ME ho cu hB (by rw[y9];exact hlen) (us++news) (by rw[y9,y9,wy,hs.newsLen,cY,Nat.add_mul]) (uM (fun _ _=>rfl) ho wy M3 hr) xs.length
 rw[y9]at hg;exact⟨_,_,aT,hg,⟨rfl,rfl,rfl,by simp,fun k hk _=>Below.heap_alloc w.drew _ k hk,fun _=>Nat.le_succ _⟩,⟨_,_,_,rfl⟩,fun g hg=>by injection hg with hg;simp at hg;omega⟩
theorem mP {E:Env} (hE:aI E) {t tx ty:Nat} {T:Ty} (ht:E.ty t=some (.sl T)) {w:World} {M:Mem} {v:Value} {xs ys:List T.den} (ho:aR T=0)(iH:aH (.own T) xs w M [v])(cu: ∀b,M.S b→b<w.heap.size)(hB: ∀g,w.heap.size≤g→M.O g) {x:Value} {news:List Value} (hs:Src E.P T.cells tx x ys.length news w)(hr: ∀i y,ys[i]?=some y→aH T y w M ((news.drop (i*T.cells)).take T.cells))(hlen:xs.length+ys.length≤274877906944): ∃v' w',(Builtin.append_ #[t,tx] ty #[v,x]).run E.P w= .ok v' w'∧aH (.own T) (xs++ys) w' M [v']∧eP w w' (aM v)∧(∃a n cap,v'= .slice a n cap)∧(∀g,aM v'=some g→aM v=some g∨w.heap.size≤g)∧(∀e0,E.P.underlying t=some (.slice e0)→iE (some e0) w v→iE (some e0) w' v'):=by
 obtain⟨e,hu,he,rQ,oK,rR⟩:=(hE.facts ht).elem hE;obtain⟨i,hi,cY,hby,_,z,hz,ME⟩:=rQ.info;rw[←cY]at hs;(have aa4: ∀k:Nat,k≤274877906944→k*i.bytes≤140737488355328:=fun k hk=>by calc k*i.bytes≤274877906944*512:=Nat.mul_le_mul hk hby
 _=140737488355328:=by decide);obtain⟨u,hv,h1,h2⟩:=iH;injection hv with hv;subst hv;(have grown: ∀(cs:List Value),cs.length=(xs.length+ys.length)*T.cells→(∀i y,(xs++ys)[i]?=some y→aH T y w M ((cs.drop (i*T.cells)).take T.cells))→ ∀(iG:Nat),aH (.own T) (xs++ys) (w.drew.alloc (.cells (cs.toArray++Builtin.zeroCells z.cells (grownCap w (xs.length+ys.length) iG e-(xs.length+ys.length))) e)) M [.slice (some ⟨w.heap.size,0,none⟩) (xs.length+ys.length) (grownCap w (xs.length+ys.length) iG e)]:=by intro cs gI hcr iG;have:=yz (E:=E) (e:=e) (zs:=xs++ys) ME ho cu hB (by rw[y9];exact hlen) cs (by rw[gI,y9]) hcr iG;rwa[y9]at this)
 rcases h2 with⟨rfl,rfl⟩|⟨g,o,cap,cur,e',rfl,h3,h4,h5,h6,h7,h8,h9⟩;(·by_cases hm:ys.length=0;(·have hn:news=[]:=List.eq_nil_of_length_eq_zero (by rw[hs.newsLen,hm,Nat.zero_mul]);have hy:ys=[]:=List.eq_nil_of_length_eq_zero hm;subst hy;refine⟨.slice none 0 0,w,?_,⟨_,rfl,by simp,.inl ⟨rfl,by simp⟩⟩,⟨rfl,rfl,rfl,x8,fun _ _ _=>rfl,fun _=>x8⟩,⟨_,_,_,rfl⟩,fun g hg=>(by cases hg),fun e0 _ _ t' _ g hg=>(by cases hg)⟩;have Jh:=hs.len;have th:=hs.cells;simp only[List.length_nil]at Jh th;rcases hs.kind with⟨e2,hk⟩|hk<;>simp[Builtin.append_,run_underlying hu,run_underlying hk,sizeOf,typeInfo,hi,Jh,th]);·skip;·have hb:=aa4 ys.length (by simpa using hlen);have aT:=run_append_grow_src (P:=E.P) w t tx ty e i z hu hi hz none 0 0 [] (run_firstCells_none _ _ _ _ _) x ys.length news hs v6 (by simp at hlen;omega) (growslice_fits v6 (by simpa using hb));simp only[Nat.zero_add,List.nil_append]at aT;have hg:=grown news (by rw[hs.newsLen,cY];simp) (by simpa using hr) 0;simp only[List.length_nil,Nat.zero_add]at hg;exact⟨_,_,aT,hg,⟨rfl,rfl,rfl,by simp,fun k hk _=>Below.heap_alloc w.drew _ k hk,fun _=>Nat.le_succ _⟩,⟨_,_,_,rfl⟩,fun g hg=>.inr (by injection hg with hg;simp at hg;omega),fun e0 he0 _ t' Rr g hg=>by obtain rfl:=Option.some.inj Rr;(obtain rfl:e=e0:=by rw[hu]at he0;injection he0 with he0;injection he0);injection hg with hg;subst hg;exact⟨rfl,_,_,heap_alloc_new w.drew _⟩⟩)
 ·obtain⟨us,wy,huc,T8,M3⟩:=ti xs h9;by_cases wx:xs.length+ys.length≤cap;(·(have ue:o+xs.length*i.size+news.length≤cur.size:=by rw[hs.newsLen,Nat.add_assoc,←Nat.add_mul,cY];exact Nat.le_trans (Nat.add_le_add_left (Nat.mul_le_mul_right _ wx) _) h8);have aT:=yx (P:=E.P) (ty:=ty) hu hi h7 hs wx ue;refine⟨_,_,aT,?_,?_,⟨_,_,_,rfl⟩,fun g hg=>.inl hg,fun e0 _ kd=>(by exact kd.MV rfl h7 (setRow_heap w g cur _ e' _ h7))⟩;(·have hh:=setRow_heap w g cur (cur.toList.take (o+xs.length*i.size)++news++cur.toList.drop (o+xs.length*i.size+news.length)).toArray e' _ h7;have hSg: ∀b,M.S b→(w.setRow g (cur.toList.take (o+xs.length*i.size)++news++cur.toList.drop (o+xs.length*i.size+news.length)).toArray).heap[b]?=w.heap[b]?:=fun b hb=>setRow_other w g b _ (fun e=>h5 (e▸hb));refine⟨_,rfl,by rw[y9];omega,.inr ⟨g,o,cap,_,e',by rw[y9],by rw[y9];exact wx,h4,h5,h6,hh,?_,?_⟩⟩;(·simp only[List.size_toArray,y9,List.length_take,List.length_drop,Array.length_toList];omega);·refine Bm (vs:=us++news) (by rw[y9,y9,wy,hs.newsLen,cY,Nat.add_mul]) (fun j u hj=>?_) (uM hSg ho wy M3 hr);rw[cell_of_row _ _ _ _ _ _ hh];simp only[List.getElem?_toArray];rcases Nat.lt_or_ge j us.length with hju|hju;(·rw[List.getElem?_append_left hju]at hj;have fA:=huc j u hj;rw[cell_of_row _ _ _ _ _ _ h7]at fA;(have Rs:o+j<o+xs.length*i.size:=by rw[cY,←wy];omega);rw[List.append_assoc,List.getElem?_append_left (by simp only[List.length_take,Array.length_toList];omega),List.getElem?_take,if_pos Rs];simpa using fA);·rw[List.getElem?_append_right hju]at hj;have ZL:j-us.length<news.length:=(z6 hj).1;(have A3:(cur.toList.take (o+xs.length*i.size)).length=o+xs.length*i.size:=by simp only[List.length_take,Array.length_toList];omega);rw[List.append_assoc,List.getElem?_append_right (by rw[A3,cY,←wy];omega),A3,List.getElem?_append_left (by rw[cY,←wy];omega)];rw[←hj];congr 1;rw[cY,←wy];omega);·exact gZ w g _);·have hm:ys.length≠0:=v6;skip;·have aT:=run_append_grow_src (P:=E.P) w t tx ty e i z hu hi hz (some ⟨g,o,none⟩) xs.length cap us (run_firstCells_some w.drew i.size xs.length ⟨g,o,none⟩ xs.length cap us (by rw[wy,cY]) (fun j u hj=>by rw[eX];exact huc j u hj)) x ys.length news hs v6 v6 (growslice_fits v6 (aa4 _ hlen));have hg:=grown (us++news) (by rw[y9,wy,hs.newsLen,cY,Nat.add_mul]) (uM (fun _ _=>rfl) ho wy M3 hr) cap;exact⟨_,_,aT,hg,⟨rfl,rfl,rfl,by simp,fun k hk _=>Below.heap_alloc w.drew _ k hk,fun _=>Nat.le_succ _⟩,⟨_,_,_,rfl⟩,fun g hg=>.inr (by injection hg with hg;simp at hg;omega),fun e0 he0 _ t' Rr g hg=>by obtain rfl:=Option.some.inj Rr;(obtain rfl:e=e0:=by rw[hu]at he0;injection he0 with he0;injection he0);injection hg with hg;subst hg;exact⟨rfl,_,_,heap_alloc_new w.drew _⟩⟩
end
section
variable {en:Prop} [lj en]
open Go.RowKit
theorem cO {P:Program} {o:Oper} {a:Act} {w w':World} {v:Value} {K:Act→World→Prop} {Q:Exit→Act→World→Prop} (h:(execOp a.eval o).run P w= .ok (.value v) w')(hk:K (a.put o.dst v) w'):o.wp P a w K Q:=by
 unfold Oper.wp;rw[h];exact hk
theorem kG {P:Program} {o:Oper} {a:Act} {w w':World} {K:Act→World→Prop} {Q:Exit→Act→World→Prop} (h:(execOp a.eval o).run P w= .ok .skip w')(hk:K (a.put o.dst undef) w'):o.wp P a w K Q:=by
 unfold Oper.wp;rw[h];exact hk
theorem nK {P:Program} {o:Oper} {a:Act} {w w':World} {f:FuncId} {args:Array Value} {K:Act→World→Prop} {Q:Exit→Act→World→Prop} (h:(execOp a.eval o).run P w= .ok (.enter f args) w')(hk:Calls P f args w' fun e MW=> ∃v,e= .returned v∧K (a.put o.dst v) MW):o.wp P a w K Q:=by
 unfold Oper.wp;rw[h];refine hk.mono ?_;rintro e MW⟨v,rfl,hv⟩;exact hv
section
variable {E:Env} {n:Nat} {w0:World} {S0:Cx} {s:St} {a:Act} {w:World} {ν:Nat→Value} {S:Nat→Prop} {F:dI} {o:Oper} {K:St→Prop} {Q:Exit→Act→World→Prop}
theorem bo(ho:bL n o=true): ∀d,o.dst=some d→d<n:=by intro d hd;simp only[bL,hd,z8]at ho;have:=ho.2;simp only[Nat.blt_eq]at this;exact this
theorem aA(ho:bL n o=true) {x:Operand} (hx:x∈o.op.operands):qe x=true:=by simp only[bL,z8,List.all_eq_true]at ho;exact ho.1 x (Array.mem_toList_iff.2 hx)
theorem Full.val(h:Full n w0 S0 s a w ν S)(ho:bL n o=true) {p:PV} {v:Value} (hr:(execOp a.eval o).run E.P w= .ok (.value v) w)(hp:ag h.c p v)(hK:K (s.fin o.dst (.val p))):o.wp E.P a w (fun a' w'=> ∃s',K s'∧Rel n w0 S0 s' a' w') Q:=cO hr ⟨_,hK,(h.put (bo ho) hp).rel⟩
theorem bp {c:Ctx} {k:IntKind} {x:Int} {v:Value} (h:ag c (.iv (.int k) x) v):v= .int k x∧k.min≤x∧x≤k.max:=by
 simp only[ag]at h;obtain⟨_,hv,h⟩:=h;injection hv with hv;exact⟨hv,h⟩
theorem cj {c:Ctx} {k:IntKind} {x:Int} (h:k.min≤x∧x≤k.max):ag c (.iv (.int k) x) (.int k x):=by simp only[ag];exact⟨rfl,rfl,h⟩
theorem lb {c:Ctx} {x:Bool} {v:Value} (h:ag c (.iv .bool x) v):v= .bool x:=by simp only[ag]at h;obtain⟨_,hv⟩:=h;injection hv
theorem bM {c:Ctx} {x:Bool} :ag c (.iv .bool x) (.bool x):=by simp only[ag];exact⟨rfl,rfl⟩
theorem eY {c:Ctx} {x:List UInt8} {v:Value} (h:ag c (.iv .str x) v):v= .string ⟨x.toArray⟩∧x.length≤9223372036854775807:=by
 simp only[ag]at h;obtain⟨_,hv,h⟩:=h;injection hv with hv;exact⟨hv,h⟩
theorem rS {c:Ctx} {x:List UInt8} (h:x.length≤9223372036854775807):ag c (.iv .str x) (.string ⟨x.toArray⟩):=by simp only[ag];exact⟨rfl,rfl,h⟩
theorem aa5(h:Full n w0 S0 s a w ν S)(ho:bL n o=true) {x:Operand} (aK:o.op= .move x)(ab:aZ E (aq E F s o) (fun l=>K (s.fin o.dst l))):o.wp E.P a w (fun a' w'=> ∃s',K s'∧Rel n w0 S0 s' a' w') Q:=by
 simp only[aq,aK,aZ]at ab;refine h.val ho ?_ (h.ev (aA ho (by simp[aK,Op.operands]))) ab;simp only[execOp,aK,Sem.run_pure]
theorem Ru(h:Full n w0 S0 s a w ν S)(ho:bL n o=true) {x:Operand} (aK:o.op= .assign x)(ab:aZ E (aq E F s o) (fun l=>K (s.fin o.dst l))):o.wp E.P a w (fun a' w'=> ∃s',K s'∧Rel n w0 S0 s' a' w') Q:=by
 simp only[aq,aK,aZ]at ab;refine h.val ho ?_ (h.ev (aA ho (by simp[aK,Op.operands]))) ab;simp only[execOp,aK,Sem.run_pure]
theorem JE(h:Full n w0 S0 s a w ν S)(ho:bL n o=true) {x:Operand} (aK:o.op= .nilCheck x)(ab:aZ E (aq E F s o) (fun l=>K (s.fin o.dst l))):o.wp E.P a w (fun a' w'=> ∃s',K s'∧Rel n w0 S0 s' a' w') Q:=by
 simp only[aq,aK]at ab;have hx:=h.ev (aA ho (x:=x) (by simp[aK,Op.operands]));(have fin: ∀ {p:PV} {ad:Addr},ag h.c p (a.eval x)→a.eval x= .pointer (some ad)→K (s.fin o.dst (.val p))→o.wp E.P a w (fun a' w'=> ∃s',K s'∧Rel n w0 S0 s' a' w') Q:=by intro p ad hr he hk;rw[he]at hr;refine h.val ho ?_ hr hk;simp only[execOp,aK,he,Sem.run_pure])
 split at ab;(·rename_i id off cg;rw[cg]at hx;have ov:=hx;simp only[ag]at ov;obtain⟨_,g,_,hv⟩:=ov;exact fin hx hv ab);(·rename_i U y off cg;rw[cg]at hx;have ov:=hx;simp only[ag]at ov;obtain⟨_,g,ob,cs,hv,_⟩:=ov;exact fin hx hv ab)
 (·rename_i id sz i off cg;rw[cg]at hx;have ov:=hx;simp only[ag]at ov;obtain⟨_,g,ob,n,cap,_,_,hv⟩:=ov;exact fin hx hv ab);(·rename_i U y cg;rw[cg]at hx;have ov:=hx;simp only[ag,ra,dc,aH]at ov;obtain⟨jG,g,ob,cs,hv,hS,hl,hc,hr⟩:=ov;simp only[List.cons.injEq,and_true]at hv;refine fin (p:=.eV U y 0) (ad:=⟨g,ob,none⟩) ?_ hv ab;simp only[ag];exact⟨jG,g,ob,cs,hv,hS,hl,hc,hr⟩)
 ·exact ab.elim
theorem M4: ∀ {T:Ty},lQ T=true→aR T=0:=by
 intro T;induction T with|own t=>intro h;cases h|pair a b jE iP=>intro h;simp only[lQ,z8]at h;simp only[aR,jE h.1,iP h.2]|bG a b jE iP=>intro h;simp only[lQ,z8]at h;simp only[aR,jE h.1,iP h.2]|mp a b jE iP=>intro h;simp only[lQ,z8]at h;simp only[aR,jE h.1,iP h.2]|st t ih=>exact ih|sl t ih=>exact ih|ptr t ih=>exact ih|iO f t ih=>exact ih|_=>intro _;rfl
theorem aa6(h:Full n w0 S0 s a w ν S)(ho:bL n o=true) {x y z:Operand} (aK:o.op= .pick x y z)(ab:aZ E (aq E F s o) (fun l=>K (s.fin o.dst l))):o.wp E.P a w (fun a' w'=> ∃s',K s'∧Rel n w0 S0 s' a' w') Q:=by
 simp only[aq,aK]at ab;have hx:=h.ev (aA ho (x:=x) (by simp[aK,Op.operands]));have hy:=h.ev (aA ho (x:=y) (by simp[aK,Op.operands]));have hz:=h.ev (aA ho (x:=z) (by simp[aK,Op.operands]))
 split at ab;(·rename_i b hb;rw[hb]at hx;have hv:=lb hx;cases b;(·refine h.val ho ?_ hz ab;simp[execOp,aK,hv,asBool]);·refine h.val ho ?_ hy ab;simp[execOp,aK,hv,asBool])
 ·exact ab.elim
theorem yA(hE:aI E)(h:Full n w0 S0 s a w ν S)(ho:bL n o=true) {t:Nat} {x:Operand} (aK:o.op= .makeInterface t x)(ab:aZ E (aq E F s o) (fun l=>K (s.fin o.dst l))):o.wp E.P a w (fun a' w'=> ∃s',K s'∧Rel n w0 S0 s' a' w') Q:=by
 simp only[aq,aK]at ab;have hx:=h.ev (aA ho (x:=x) (by simp[aK,Op.operands]));split at ab;(·rename_i hc;have hc:=hE.Hn t hc;unfold aa3 at hc;refine h.val ho (p:=.rk t [s.ev x]) (v:=.iface t (a.eval x)) ?_ (by simp only[ag,aj];exact⟨_,rfl,_,[],rfl,hx,rfl⟩) ab;cases hu:E.P.underlying t with|none=>rw[hu]at hc;cases hc|some d=>rw[hu]at hc;(have hi:(Instr.makeInterface t (a.eval x)).run E.P w= .ok (.iface t (a.eval x)) w:=by unfold Instr.makeInterface;simp only[Sem.run_bind,run_underlying hu,Result.andThen_ok];cases d<;>first|(cases hc;done)|rfl);simp only[execOp,aK,Sem.run_bind,hi,Result.andThen_ok,Sem.run_pure])
 ·exact ab.elim
theorem ER(hE:aI E)(h:Full n w0 S0 s a w ν S)(ho:bL n o=true) {x:Operand} {xt u:Nat} {ok:Bool} (aK:o.op= .typeAssert x xt u ok)(ab:aZ E (aq E F s o) (fun l=>K (s.fin o.dst l))):o.wp E.P a w (fun a' w'=> ∃s',K s'∧Rel n w0 S0 s' a' w') Q:=by
 simp only[aq,aK]at ab;have hx:=h.ev (aA ho (x:=x) (by simp[aK,Op.operands]));split at ab;(·rename_i hc;have hc:=hE.Hn u hc;unfold aa3 at hc;unfold Hp at ab;split at ab;(·rename_i t q cg;rw[cg]at hx;simp only[ag,aj]at hx;obtain⟨v,hv,v',r,hvr,hq,hr⟩:=hx;subst hr;injection hvr with hvr;subst hvr;(have hi:Nat.beq t u=true→(Instr.typeAssert (a.eval x) xt u ok).run E.P w= .ok (if ok then .tuple #[v,.bool true]else v) w:=fun hb=>by have e:=y6 hb;subst e;rw[hv];cases hu:E.P.underlying t with|none=>rw[hu]at hc;cases hc|some d=>rw[hu]at hc;unfold Instr.typeAssert;simp only[Sem.run_bind,run_underlying hu,Result.andThen_ok];cases d<;>first|(cases hc;done)|simp);split at ab;(·rename_i hb;refine h.val (v:=.tuple #[v,.bool true]) ho ?_ ?_ ab;(·have:=hi hb;simp only[execOp,aK,Sem.run_bind,this,Result.andThen_ok,Sem.run_pure,if_true];try rfl);·simp only[ag,aj];exact⟨[v,.bool true],rfl,v,_,rfl,hq,.bool true,[],rfl,bM,rfl⟩);(·rename_i hb;refine h.val (v:=v) ho ?_ hq ab;have:=hi hb;simp only[execOp,aK,Sem.run_bind,this,Result.andThen_ok,Sem.run_pure,Bool.false_eq_true,if_false];try rfl);·exact ab.elim);·exact ab.elim)
 ·exact ab.elim
theorem Full.T9(h:Full n w0 S0 s a w ν S) {d:Nat} (hd:d<n)(hl:look d s.bl=none) {cs:List PV} {vs:List Value} {e:TypeId} {te:Option Nat} (hte: ∀t,te=some t→e=t)(h1: ∀u,u∈vs→u.oneCell'=true)(hp:aj h.c cs vs):Rel n w0 S0 ⟨(d,.ref d 0)::s.sl,(d,.box cs te)::s.bl⟩ (a.put (some d) (.pointer (some ⟨w.heap.size,0,none⟩))) (w.alloc (.cells vs.toArray e)):=by
 have hD:(⟨(d,.ref d 0)::s.sl,(d,.box cs te)::s.bl⟩:St).D d:=⟨_,aw _ _ _⟩;(have bS: ∀i,s.D i→i≠d∧(⟨(d,.ref d 0)::s.sl,(d,.box cs te)::s.bl⟩:St).D i:=by rintro i⟨c,hc⟩;(have bS:i≠d:=by rintro rfl;rw[hl]at hc;cases hc);exact⟨bS,c,by rw[al _ _ bS];exact hc⟩)
 have hle:Ctx.Le h.c ⟨fun i=>if i=d then .pointer (some ⟨w.heap.size,0,none⟩)else ν i,(⟨(d,.ref d 0)::s.sl,(d,.box cs te)::s.bl⟩:St).D,w.alloc (.cells vs.toArray e),⟨S,aJ w0 S0⟩⟩:=⟨fun g hg=>Below.heap_alloc w _ g (h.W.lt g hg),fun _ h=>h,fun i hi=>(bS i hi).2,fun i hi=>by simp[(bS i hi).1,Full.c]⟩
 refine(h.new (b:=.box cs te) (p:=.ref d 0) (v:=.pointer (some ⟨w.heap.size,0,none⟩)) (val:=.pointer (some ⟨w.heap.size,0,none⟩)) hd hl (dK w _ none) (fun g hg=>h.beyond (by injection hg with hg;simp at hg;omega)) ?_ ?_).rel
 (·exact⟨fun t ht g hg=>by simp only[if_true,aM,y5]at hg;subst hg;rw[←hte t ht];exact⟨by simp[T0],_,_,_root_.Go.heap_alloc_new w _⟩,w.heap.size,vs.toArray,e,by simp,h.W.size _ (x8),fun hS=>absurd (h.W.lt _ hS) (by simp),_root_.Go.heap_alloc_new w _,by simpa using h1,by simpa using cc hle hp⟩)
 ·simp only[ag];exact⟨hD,w.heap.size,by simp,rfl⟩
theorem rT {c:Ctx} : ∀(T:Ty)(cs:List PV),zeroCells T=some cs→ ∃vs,dM T=some vs∧aj c cs vs∧ ∀u,u∈vs→u.oneCell'=true:=by
 intro T;induction T with|unit=>intro cs h;simp only[zeroCells,y5]at h;subst h;exact⟨[],rfl,by simp only[aj],by simp⟩|int k=>intro cs h;simp only[zeroCells,y5]at h;subst h;refine⟨[.int k 0],rfl,?_,by simp[Value.oneCell']⟩;simp only[aj];exact⟨_,[],rfl,cj (by cases k<;>decide),rfl⟩|bool=>intro cs h;simp only[zeroCells,y5]at h;subst h;exact⟨[.bool false],rfl,by simp only[aj];exact⟨_,[],rfl,bM,rfl⟩,by simp[Value.oneCell']⟩|str=>intro cs h;simp only[zeroCells,y5]at h;subst h;exact⟨[.string ⟨#[]⟩],rfl,by simp only[aj];exact⟨_,[],rfl,rS (by simp),rfl⟩,by simp[Value.oneCell']⟩|sl t=>intro cs h;simp only[zeroCells,y5]at h;subst h;exact⟨[.slice none 0 0],rfl,by simp only[aj,ag];exact⟨_,[],rfl,rfl,rfl⟩,by simp[Value.oneCell']⟩|own t=>intro cs h;simp[zeroCells]at h|bG a b=>intro cs h;simp[zeroCells]at h|ptr t=>intro cs h;simp only[zeroCells,y5]at h;subst h;exact⟨[.pointer none],rfl,by simp only[aj,ag];exact⟨_,[],rfl,rfl,rfl⟩,by simp[Value.oneCell']⟩|iO f t=>intro cs h;simp[zeroCells]at h|mp a b=>intro cs h;simp only[zeroCells]at h;split at h;(·rename_i hn;simp only[y5]at h;subst h;exact⟨[.map none],rfl,by simp only[aj,ag,ra,dc,aH];exact⟨_,[],rfl,⟨M4 hn,by simp,.inl ⟨rfl,trivial⟩⟩,rfl⟩,by simp[Value.oneCell']⟩);(·simp only[y5]at h;subst h;exact⟨[.map none],rfl,by simp only[aj,ag];exact⟨_,[],rfl,trivial,rfl⟩,by simp[Value.oneCell']⟩)|aL=>intro cs h;simp only[zeroCells,y5]at h;subst h;exact⟨[.nilFunc],rfl,by simp only[aj,ag];exact⟨_,[],rfl,trivial,rfl⟩,by simp[Value.oneCell']⟩|st t ih=>intro cs h;exact ih cs h|pair a b jE iP=>intro cs h;simp only[zeroCells]at h;split at h;(·rename_i x y hx hy;simp only[y5]at h;subst h;obtain⟨va,ha,Rq,h1a⟩:=jE x hx;obtain⟨vb,hb,hpb,h1b⟩:=iP y hy;refine⟨va++vb,by simp only[dM,ha,hb],ct Rq hpb,fun u hu=>?_⟩;rcases ws hu with hu|hu;(·exact h1a u hu);·exact h1b u hu);·cases h
theorem mQ {T:Ty} {z:Value} {vs:List Value} (hz:rK (some z) T=true)(hv:dM T=some vs):z.cells.toList=vs:=by
 unfold rK at hz;rw[hv]at hz;simp only at hz;split at hz;(·split at hz;(·exact nJ hz);·cases hz);·split at hz;(·rename_i u;have:=qd hz;subst this;unfold Jz at hz;split at hz<;>first|rfl|cases hz);·cases hz
theorem Ua(hE:aI E)(h:Full n w0 S0 s a w ν S)(ho:bL n o=true) {t:Nat} (aK:o.op= .alloc t)(ab:aZ E (aq E F s o) (fun l=>K (s.fin o.dst l))):o.wp E.P a w (fun a' w'=> ∃s',K s'∧Rel n w0 S0 s' a' w') Q:=by
 simp only[aq,aK]at ab;split at ab;(·rename_i T d hT hd;split at ab;(·rename_i cs hl hz;simp only[aZ,St.fin,hd]at ab;obtain⟨vs,uN,hp,h1⟩:=rT (c:=h.c) T cs hz;obtain⟨i,hi,_,_,JF,z,hzz,_⟩:=(hE.facts hT).info;rw[hzz]at JF;have ZN:=mQ JF uN;(have hr:(execOp a.eval o).run E.P w= .ok (.value (.pointer (some ⟨w.heap.size,0,none⟩))) (w.alloc (.cells vs.toArray t)):=by simp only[execOp,aK,Instr.alloc,Sem.run_bind,zeroValue,typeInfo,Sem.run_bind,run_program,Result.andThen_ok,hi,hzz,Sem.run_pure,newVar,newRow,run_newObj];rw[←ZN];rfl);refine cO hr ⟨_,ab,?_⟩;rw[hd];exact h.T9 (bo ho d hd) hl (fun t' ht=>by cases hb:E.BW t with|true=>(rw[hb]at ht;exact Option.some.inj ht)|false=>(rw[hb]at ht;cases ht)) h1 hp);·exact ab.elim)
 ·exact ab.elim
theorem aZ2(h:Full n w0 S0 s a w ν S)(ho:bL n o=true) {t:Nat} {x:Operand} (aK:o.op= .box t x)(ab:aZ E (aq E F s o) (fun l=>K (s.fin o.dst l))):o.wp E.P a w (fun a' w'=> ∃s',K s'∧Rel n w0 S0 s' a' w') Q:=by
 simp only[aq,aK]at ab;have hx:=h.ev (aA ho (x:=x) (by simp[aK,Op.operands]));split at ab;(·rename_i d cs hd ES;split at ab;(·rename_i hl;simp only[aZ,St.fin,hd]at ab;obtain⟨hp,h1⟩:=mL hx ES;(have hr:(execOp a.eval o).run E.P w= .ok (.value (.pointer (some ⟨w.heap.size,0,none⟩))) (w.alloc (.cells (a.eval x).cells.toList.toArray t)):=by simp only[execOp,aK,Instr.box,Sem.run_bind,newVar,newRow,run_newObj,Result.andThen_ok,Sem.run_pure,Array.toArray_toList];rfl);refine cO hr ⟨_,ab,?_⟩;rw[hd];exact h.T9 (bo ho d hd) hl (fun t' ht=>by cases ht) h1 hp);·exact ab.elim)
 ·exact ab.elim
theorem Full.yB(h:Full n w0 S0 s a w ν S) {d:Nat} (hd:d<n)(hl:look d s.bl=none) {T:Ty} {te:Option Nat} {xs:List T.den} {v:Value} {w':World} (hT:aR T=0)(hw:eP w w' none)(hs: ∃a n c,v= .slice a n c)(jM: ∀g,dh v g→w.heap.size≤g)(hr:aH (.own T) xs w' ⟨S,aJ w0 S0⟩ [v])(hte:iE te w' v):Rel n w0 S0 ⟨(d,.aB d)::s.sl,(d,.arr T xs te)::s.bl⟩ (a.put (some d) v) w':=by
 refine(h.new (b:=.arr T xs te) (p:=.aB d) (v:=v) (val:=v) hd hl hw (fun g hg=>h.beyond (jM g hg)) ?_ ?_).rel;(·exact⟨hte.oH (by simp) fun _ _=>rfl,hT,by simpa using hr⟩)
 ·simp only[ag];exact⟨⟨_,aw _ _ _⟩,by simp,hs⟩
theorem kH(s:St): ∀(l:List (Nat×Operand)),dJ s l=l.map fun p=>(p.1,s.ev p.2)|[]=>rfl|p::l=>by simp[dJ,kH s l]
theorem wz(s:St): ∀(l:List Operand),cL s l=l.map s.ev|[]=>rfl|p::l=>by simp[cL,wz s l]
theorem jo(h:Full n w0 S0 s a w ν S): ∀(l:List Operand),(∀x,x∈l→qe x=true)→aj h.c (cL s l) (l.map a.eval)|[],_=>(by simp only[cL,List.map_nil,aj])|x::l,hc=>by simp only[cL,List.map_cons,aj];exact⟨_,_,rfl,h.ev (hc x (by simp)),jo h l (fun y hy=>hc y (by simp[hy]))⟩
end
/-! ### Literals -/
theorem JG: ∀(vs:List Value)(k off:Nat)(cells:Array Value),off+k+vs.length≤cells.size→((vs.zipIdx k).foldl (fun cs p=>cs.setIfInBounds (off+p.2) p.1) cells).toList=cells.toList.take (off+k)++vs++cells.toList.drop (off+k+vs.length)|[],k,off,cells,h=>(by simp)|v::vs,k,off,cells,h=>by simp only[x6]at h;simp only[List.zipIdx_cons,List.foldl_cons];rw[JG vs (k+1) off _ (by simp;omega)];simp only[Array.toList_setIfInBounds];(have h1:(cells.toList.set (off+k) v).take (off+(k+1))=cells.toList.take (off+k)++ [v]:=by rw[show off+(k+1)=(off+k)+1 from by omega,List.take_succ_eq_append_getElem (by simp;omega)];rw[List.take_set_of_le v6,List.getElem_set_self]);(have h2:(cells.toList.set (off+k) v).drop (off+(k+1)+vs.length)=cells.toList.drop (off+k+(v::vs).length):=by rw[List.drop_set_of_lt v6];congr 1;simp;omega);rw[h1,h2];simp
theorem JH {place:Nat→Option (Nat×Nat)} {i off size:Nat} {v:Value} {cells:Array Value} {rest:List (Nat×Value)} (hp:place i=some (off,size))(hs:v.cells.size=size)(hf:off+v.cells.size≤cells.size):Instr.fill place cells ((i,v)::rest)=Instr.fill place (cells.toList.take off++v.cells.toList++cells.toList.drop (off+v.cells.size)).toArray rest:=by
 simp only[Instr.fill,hp];rw[if_neg (by simp[hs];omega)];congr 1;have:=JG v.cells.toList 0 off cells (by simpa using hf);simp only[Nat.add_zero]at this;(have e:(v.cells.zipIdx.foldl (fun cs x=>match x with|(c,j)=>cs.setIfInBounds (off+j) c) cells)=(v.cells.toList.zipIdx.foldl (fun cs p=>cs.setIfInBounds (off+p.2) p.1) cells):=by rw[←Array.foldl_toList,Array.toList_zipIdx])
 rw[e];apply Array.toList_inj.1;rw[this];simp
theorem JI {c:Ctx} {T:Ty} {place:Nat→Option (Nat×Nat)} (pP: ∀i,i<lH T→place i=some (lS T i,(qV T i).cells)): ∀(ps:List (Nat×PV))(vs:List (Nat×Value))(cs uL:List PV)(cells:Array Value),ps.length=vs.length→(∀(k:Nat)(p:Nat×PV)(v:Nat×Value),ps[k]?=some p→vs[k]?=some v→p.1=v.1∧ag c p.2 v.2)→aj c cs cells.toList→(∀u,u∈cells.toList→u.oneCell'=true)→Fy T ps cs=some uL→ ∃out,Instr.fill place cells vs=some out∧aj c uL out.toList∧ ∀u,u∈out.toList→u.oneCell'=true|[],[],cs,uL,cells,_,_,hc,h1,h=>(by simp only[Fy,y5]at h;subst h;exact⟨cells,rfl,hc,h1⟩)|[],_::_,_,_,_,hl,_,_,_,_=>(by cases hl)|_::_,[],_,_,_,hl,_,_,_,_=>(by cases hl)|p::ps,v::vs,cs,uL,cells,hl,hr,hc,h1,h=>by obtain⟨Tz,bF⟩:=hr 0 p v rfl rfl;simp only[Fy]at h;split at h;(·rename_i us hus;obtain⟨bz8,Cm⟩:=mL bF hus;split at h;(·rename_i hle gD cu;(have hlen:us.length=(qV T p.1).cells:=by(have: ∀ {α:Type} (l:List α)(k:Nat),B5 l k=true→l.length=k:=by intro α l;induction l with|nil=>intro k hk;(cases k<;>first|rfl|cases hk)|cons x l ih=>intro k hk;cases k with|zero=>cases hk|succ k=>simp[ih k hk]);exact this _ _ hle);(have EP:us.length=v.2.cells.size:=by rw[dW bz8];simp);have gI:=dW hc;have eR:=Nat.le_of_ble_eq_true gD;(have Rs:p.1<lH T:=by simpa[Nat.blt_eq]using cu);(have bP8:cs.length=cells.size:=by rw[gI];simp);obtain⟨pi,pv⟩:=p;obtain⟨vi,vv⟩:=v;simp only at Tz Rs hlen EP eR;subst Tz;rw[JH (pP pi Rs) (by rw[←EP,hlen]) (by rw[←EP,←bP8];exact eR)];refine JI pP ps vs _ uL _ (by simpa using hl) (fun k p' v' Rv Ub=>hr (k+1) p' v' Rv Ub) ?_ ?_ h;(·simp only[EP];exact ct (ct (ez _ hc) bz8) (ey _ hc));·intro u hu;simp only[List.mem_append]at hu;rcases hu with(hu|hu)|hu;(·exact h1 u (List.mem_of_mem_take hu));(·exact Cm u hu);·exact h1 u (List.mem_of_mem_drop hu));·cases h);·cases h
end
section
variable {en:Prop} [lj en]
open Go.RowKit
section
variable {E:Env} {n:Nat} {w0:World} {S0:Cx} {s:St} {a:Act} {w:World} {ν:Nat→Value} {S:Nat→Prop} {F:dI} {o:Oper} {K:St→Prop} {Q:Exit→Act→World→Prop}
theorem Ac {ty:Nat→Option Ty} : ∀(fs:List Field)(R:Ty)(off:Nat),bX ty fs R off=true→ ∀(i:Nat),i<cH R→ ∃f,fs[i]?=some f∧f.offset=off+fF R i∧ty f.type=some (bJ R i)∧1≤(bJ R i).cells∧(bJ R i).val=true∧f.name≠ "_" |[],R,off,h,i,hi=>(by cases h)|[f],R,off,h,i,hi=>(by simp only[bX,z8,rL]at h;obtain⟨⟨⟨⟨h1,h2⟩,h3⟩,h4⟩,h5⟩:=h;(have bS: ∀x y,R≠ .pair x y:=by rintro x y rfl;cases h4);(have gI:cH R=1:=by cases R<;>first|rfl|exact absurd rfl (bS _ _));have Pe:i=0:=v6;subst Pe;(have ZM:fF R 0=0:=by cases R<;>first|rfl|exact absurd rfl (bS _ _));(have Pf:bJ R 0=R:=by cases R<;>first|rfl|exact absurd rfl (bS _ _));split at h2;(·rename_i U hU;rw[Ty.dw h2]at hU;exact⟨f,rfl,by rw[ZM,y6 h1];omega,by rw[Pf];exact hU,by rw[Pf];exact Nat.le_of_ble_eq_true h3,by rw[Pf];exact h4,by simpa using h5⟩);·cases h2)|f::g::gs,R,off,h,i,hi=>by cases R with|pair x y=>simp only[bX,z8,rL]at h;obtain⟨⟨⟨⟨⟨h1,h2⟩,h3⟩,h4⟩,h5⟩,h6⟩:=h;split at h2;(·rename_i U hU;rw[Ty.dw h2]at hU;cases i with|zero=>exact⟨f,rfl,by simp[fF,y6 h1],hU,Nat.le_of_ble_eq_true h3,h4,by simpa using h5⟩|succ i=>obtain⟨f',e1,e2,e3⟩:=Ac (g::gs) y (off+x.cells) (by unfold bX;exact h6) i (by simp[cH]at hi;omega);exact⟨f',by simpa using e1,by simp only[fF];omega,e3⟩);(·cases h2)|_=>simp only[bX]at h;cases h
theorem wA {ty:Nat→Option Ty} : ∀(fs:List Field)(R:Ty)(off:Nat),bX ty fs R off=true→fs.length=cH R|[],R,off,h=>(by cases h)|[f],R,off,h=>(by simp only[bX,z8]at h;have h4:=h.1.2;cases R<;>first|rfl|cases h4)|f::g::gs,R,off,h=>by cases R with|pair x y=>simp only[bX,z8]at h;have:=wA (g::gs) y (off+x.cells) (by unfold bX;exact h.2);simp only[x6]at this⊢;simp only[cH];omega|_=>simp only[bX]at h;cases h
theorem tj(V:Ty)(hV:V.val=true): ∀n,0<n→cH (rowOf V n)=n|0,h=>(by cases h)|1,_=>(by cases V<;>first|rfl|cases hV)|n+2,_=>by simp only[rowOf,cH];rw[tj V hV (n+1) v6];omega
theorem oL(V:Ty)(hV:V.val=true): ∀n i,i<n→fF (rowOf V n) i=i*V.cells∧bJ (rowOf V n) i=V|0,i,h=>(by cases h)|1,i,h=>(by(have:i=0:=by omega);subst this;cases V<;>first|exact⟨by simp[rowOf,fF],rfl⟩|cases hV)|n+2,0,_=>(by simp[rowOf,fF,bJ])|n+2,i+1,h=>by obtain⟨h1,h2⟩:=oL V hV (n+1) i v6;simp only[rowOf,fF,bJ];exact⟨by rw[h1,Nat.add_mul];omega,h2⟩
theorem rU(V:Ty): ∀n,(rowOf V n).cells=n*V.cells|0=>(by simp[rowOf,Ty.cells])|1=>(by simp[rowOf])|n+2=>by simp only[rowOf,Ty.cells];rw[rU V (n+1),Nat.add_mul (n+1) 1];omega
theorem cS.agg(hE:aI E) {t:Nat} {R:Ty} (h:cS E t (.st R)):(∃fs,E.P.underlying t=some (.struct fs)∧fs.size=cH R∧ ∀i,i<cH R→ ∃f,fs[i]?=some f∧f.offset=fF R i∧E.ty f.type=some (bJ R i)∧1≤(bJ R i).cells∧(bJ R i).val=true∧f.name≠ "_")∨(∃m e V,E.P.underlying t=some (.array m e)∧E.ty e=some V∧R=rowOf V m∧V.val=true∧1≤V.cells∧2≤m):=by
 obtain⟨d,hd,hs⟩:=h.sZ;(cases d<;>simp only[di]at hs<;>first|cases hs|skip);(·rename_i m e;split at hs;(·rename_i V hV;simp only[z8]at hs;exact .inr ⟨_,_,V,hd,hV,Ty.dw hs.1.1.1,hs.1.1.2,Nat.le_of_ble_eq_true hs.1.2,Nat.le_of_ble_eq_true hs.2⟩);·cases hs)
 ·rename_i fs;refine .inl ⟨fs,hd,by simpa using wA _ _ _ hs,fun i hi=>?_⟩;obtain⟨f,h1,h2,h3⟩:=Ac fs.toList R 0 hs i hi;exact⟨f,by simpa using h1,by simpa using h2,h3⟩
theorem Uc(hE:aI E)(h:Full n w0 S0 s a w ν S)(ho:bL n o=true) {t:Nat} {parts:Array (Nat×Operand)} (aK:o.op= .build t parts)(ab:aZ E (aq E F s o) (fun l=>K (s.fin o.dst l))):o.wp E.P a w (fun a' w'=> ∃s',K s'∧Rel n w0 S0 s' a' w') Q:=by
 simp only[aq,aK]at ab;split at ab;(·rename_i bP9 rb;have he:=hE.emp t bP9;unfold aY9 at he;split at he;(·rename_i i fs hi hu;simp only[z8]at he;obtain⟨h1,h2⟩:=he;split at h2;(·rename_i cs hz;have ES:cs= #[]:=Array.toList_inj.1 (by simpa using h2);have hfs:fs= #[]:=Array.toList_inj.1 (by simpa using h1);have yk:parts= #[]:=Array.toList_inj.1 (by rw[rb]);subst ES;subst hfs;subst yk;refine h.val ho (p:=.agg []) (v:=.agg #[]) ?_ (by simp only[ag,aj];exact⟨[],rfl,by simp,rfl⟩) ab;(have JJ:(zeroValue t).run E.P w= .ok (.agg #[]) w:=by simp[zeroValue,typeInfo,hi,hz]);simp[execOp,aK,Instr.build,JJ,run_underlying hu,Value.cells,Instr.fill]);·cases h2);·cases he)
 simp only[B7]at ab;split at ab;(·rename_i R hT;split at ab;(·rename_i z hz;split at ab;(·rename_i cs bz9;have hf:=hE.facts hT;obtain⟨vs,uN,hp,h1⟩:=rT (c:=h.c) (.st R) z hz;obtain⟨i,hi,cY,_,JF,zv,hzz,_⟩:=hf.info;rw[hzz]at JF;have ZN:=mQ JF uN;(have M5: ∀(k:Nat)(p:Nat×PV)(v:Nat×Value),(dJ s parts.toList)[k]?=some p→((parts.map fun x=>(x.1,a.eval x.2)).toList)[k]?=some v→p.1=v.1∧ag h.c p.2 v.2:=by intro k p v hk hv;rw[kH,List.getElem?_map]at hk;simp only[Array.toList_map,List.getElem?_map]at hv;cases hx:parts.toList[k]? with|none=>rw[hx]at hk;cases hk|some x=>rw[hx]at hk hv;simp only[Option.map_some,y5]at hk hv;subst hk;subst hv;refine⟨rfl,h.ev (aA ho ?_)⟩;have hm:x∈parts:=Array.mem_toList_iff.1 (x7 hx);simp only[aK,Op.operands,List.mem_toArray,List.mem_map];exact⟨x,Array.mem_toList_iff.2 hm,rfl⟩);(have hlen:(dJ s parts.toList).length=((parts.map fun x=>(x.1,a.eval x.2)).toList).length:=by simp[kH]);(have main: ∀place:Nat→Option (Nat×Nat),(∀i,i<lH (.st R)→place i=some (lS (.st R) i,(qV (.st R) i).cells))→ ∃out,Instr.fill place zv.cells (parts.map fun x=>(x.1,a.eval x.2)).toList=some out∧ag h.c (.agg cs) (.agg out):=by intro place pP;obtain⟨out,h2,h3,h4⟩:=JI pP _ _ z cs zv.cells hlen M5 (by rw[ZN];exact hp) (by rw[ZN];exact h1) bz9;refine⟨out,h2,?_⟩;simp only[ag];exact⟨out.toList,by simp,h4,h3⟩);rcases hf.agg hE with⟨fs,hu,A4,hfa⟩|⟨m,e,V,hu,he,rfl,hV,hV1,hm⟩;(·(have aa7: ∀(l:List Field),(∀f,f∈l→ ∃j,E.P.info? f.type=some j)→(l.mapM fun f=>do pure (f.offset,←sizeOf f.type):Sem (List (Nat×Nat))).run E.P w= .ok (l.map fun f=>(f.offset,E.P.cellsOf f.type)) w:=by intro l;induction l with|nil=>intro _;simp|cons f l ih=>intro hl;obtain⟨j,hj⟩:=hl f (by simp);have:=ih (fun g hg=>hl g (by simp[hg]));(have step:(do pure (f.offset,←sizeOf f.type):Sem (Nat×Nat)).run E.P w= .ok (f.offset,E.P.cellsOf f.type) w:=by simp[sizeOf,typeInfo,hj,Program.cellsOf]);rw[List.mapM_cons,Sem.run_bind,step];simp only[Result.andThen_ok];rw[Sem.run_bind,this];simp only[Result.andThen_ok,Sem.run_pure,List.map_cons]);(have bA0: ∀f,f∈fs.toList→ ∃j,E.P.info? f.type=some j:=by intro f Cn;obtain⟨k,hk⟩:=List.getElem?_of_mem Cn;(have yl:k<cH R:=by rw[←A4];have:=(z6 hk).1;simpa using this);obtain⟨f',Cm,_,h3',_⟩:=hfa k yl;(have:f=f':=by(have:fs.toList[k]?=some f':=by simpa using Cm);rw[hk]at this;injection this);subst this;obtain⟨j,hj,_⟩:=(hE.facts h3').info;exact⟨j,hj⟩);have bA1:=aa7 fs.toList bA0;obtain⟨out,ZM,bF⟩:=main (fun i=>(fs.map fun f=>(f.offset,E.P.cellsOf f.type))[i]?) (fun i zZ=>by obtain⟨f,Cm,ZO,h3',_⟩:=hfa i zZ;obtain⟨j,hj,hjs,_⟩:=(hE.facts h3').info;simp only[Array.getElem?_map,Cm,Option.map_some,lS,qV,Program.cellsOf,hj,Option.getD_some,hjs,ZO]);refine h.val ho (v:=.agg out) ?_ bF ab;(have Hx:(fs.mapM fun f=>do pure (f.offset,←sizeOf f.type):Sem (Array (Nat×Nat))).run E.P w= .ok (fs.map fun f=>(f.offset,E.P.cellsOf f.type)) w:=by rw[Array.mapM_eq_mapM_toList,Sem.run_map,bA1];simp only[Result.andThen_ok];congr 1;exact Array.toList_inj.1 (by simp));simp only[execOp,aK,Instr.build,Sem.run_bind,zeroValue,typeInfo,run_program,Result.andThen_ok,hi,hzz,Sem.run_pure,run_underlying hu,Hx,ZM]);·obtain⟨j,hj,hjs,_⟩:=(hE.facts he).info;obtain⟨out,ZM,bF⟩:=main (fun i=>some (i*V.cells,V.cells)) (fun i zZ=>by simp only[lH]at zZ;rw[tj V hV m v6]at zZ;obtain⟨e1,e2⟩:=oL V hV m i zZ;simp only[lS,qV,e1,e2]);refine h.val ho (v:=.agg out) ?_ bF ab;simp only[execOp,aK,Instr.build,Sem.run_bind,zeroValue,typeInfo,run_program,Result.andThen_ok,hi,hzz,Sem.run_pure,run_underlying hu,sizeOf,hj,hjs,ZM]);·exact ab.elim);·exact ab.elim)
 ·exact ab.elim
end
end
section
variable {en:Prop} [lj en]
open Go.RowKit
theorem Co {F F':dI} {bl bl':List (Nat×aQ)} : ∀(T:Ty)(ps:List PV)(r:T.den×List PV),PV.fM ps=false→PV.cX ps=[]→pk F bl T ps=some r→pk F' bl' T ps=some r∧PV.fM r.2=false∧PV.cX r.2=[]:=by
 (have cons: ∀(p:PV)(ps:List PV),PV.fM (p::ps)=false→PV.cX (p::ps)=[]→(PV.refs p=false∧PV.lF p=[])∧PV.fM ps=false∧PV.cX ps=[]:=by intro p ps h1 h2;simp only[PV.fM,Bool.or_eq_false_iff]at h1;simp only[PV.cX,List.append_eq_nil_iff]at h2;exact⟨⟨h1.1,h2.1⟩,h1.2,h2.2⟩)
 intro T;induction T with|unit=>intro ps r h1 h2 h;simp only[pk,y5]at h⊢;subst h;exact⟨rfl,h1,h2⟩|pair a b jE iP=>intro ps r h1 h2 h;simp only[pk]at h⊢;split at h;(·rename_i x r1 hx;obtain⟨e1,h3,h4⟩:=jE ps _ h1 h2 hx;split at h;(·rename_i y r2 hy;obtain⟨e2,h5,h6⟩:=iP r1 _ h3 h4 hy;simp only[y5]at h;subst h;simp only[e1,e2];exact⟨trivial,h5,h6⟩);·cases h);(·cases h)|st t ih=>intro ps r h1 h2 h;simp only[pk]at h⊢;exact ih ps r h1 h2 h|bG a b=>intro ps r h1 h2 h;simp only[pk]at h;cases h|int k=>intro ps r h1 h2 h;(cases ps with|nil=>simp only[pk]at h;cases h|cons p ps=>simp only[pk]at h⊢;obtain⟨x,r'⟩:=r;obtain⟨_,h3,h4⟩:=cons p ps h1 h2;obtain⟨_,rfl⟩:=aY h;exact⟨h,h3,h4⟩)|bool=>intro ps r h1 h2 h;(cases ps with|nil=>simp only[pk]at h;cases h|cons p ps=>simp only[pk]at h⊢;obtain⟨x,r'⟩:=r;obtain⟨_,h3,h4⟩:=cons p ps h1 h2;obtain⟨_,rfl⟩:=aY h;exact⟨h,h3,h4⟩)|str=>intro ps r h1 h2 h;(cases ps with|nil=>simp only[pk]at h;cases h|cons p ps=>simp only[pk]at h⊢;obtain⟨x,r'⟩:=r;obtain⟨_,h3,h4⟩:=cons p ps h1 h2;obtain⟨_,rfl⟩:=aY h;exact⟨h,h3,h4⟩)|sl t ih=>intro ps r h1 h2 h;(cases ps with|nil=>simp only[pk]at h;cases h|cons p ps=>simp only[pk]at h⊢;obtain⟨x,r'⟩:=r;obtain⟨⟨h5,h6⟩,h3,h4⟩:=cons p ps h1 h2;obtain⟨hx,rfl⟩:=aY h;refine⟨?_,h3,h4⟩;cases p<;>first|(simp[PV.lF]at h6;done)|exact h)|own t ih=>intro ps r h1 h2 h;(cases ps with|nil=>simp only[pk]at h;cases h|cons p ps=>simp only[pk]at h⊢;obtain⟨x,r'⟩:=r;obtain⟨⟨h5,h6⟩,h3,h4⟩:=cons p ps h1 h2;obtain⟨hx,rfl⟩:=aY h;refine⟨?_,h3,h4⟩;cases p<;>first|(simp[PV.lF]at h6;done)|exact h)|mp a b=>intro ps r h1 h2 h;(cases ps with|nil=>simp only[pk]at h;cases h|cons p ps=>simp only[pk]at h⊢;obtain⟨x,r'⟩:=r;obtain⟨⟨h5,h6⟩,h3,h4⟩:=cons p ps h1 h2;obtain⟨hx,rfl⟩:=aY h;refine⟨?_,h3,h4⟩;cases p<;>first|(simp[PV.lF]at h6;done)|exact h)|aL=>intro ps r h1 h2 h;(cases ps with|nil=>simp only[pk]at h;cases h|cons p ps=>simp only[pk]at h⊢;obtain⟨x,r'⟩:=r;obtain⟨_,h3,h4⟩:=cons p ps h1 h2;obtain⟨_,rfl⟩:=aY h;exact⟨h,h3,h4⟩)|ptr t ih=>intro ps r h1 h2 h;(cases ps with|nil=>simp only[pk]at h;cases h|cons p ps=>simp only[pk]at h⊢;obtain⟨x,r'⟩:=r;obtain⟨⟨h5,h6⟩,h3,h4⟩:=cons p ps h1 h2;cases p with|ref i off=>simp[PV.refs]at h5|iv U y=>obtain⟨_,rfl⟩:=aY h;exact⟨h,h3,h4⟩|eV U y off=>(cases off with|zero=>obtain⟨_,rfl⟩:=aY h;exact⟨h,h3,h4⟩|succ k=>cases h)|_=>cases h)|iO f t ih=>intro ps r h1 h2 h;cases ps with|nil=>simp only[pk]at h;cases h|cons p ps=>simp only[pk]at h⊢;obtain⟨x,r'⟩:=r;obtain⟨⟨h5,h6⟩,h3,h4⟩:=cons p ps h1 h2;cases p with|iv U y=>obtain⟨_,rfl⟩:=aY h;exact⟨h,h3,h4⟩|fn g ec=>(cases hb:Nat.beq f g with|false=>simp[hb]at h|true=>simp only[hb,cond_true]at h⊢;obtain⟨hx,rfl⟩:=aY h;obtain⟨e1,_⟩:=ih ec _ (by simpa[PV.refs]using h5) (by simpa[PV.lF]using h6) (eA hx);exact⟨by rw[e1];rfl,h3,h4⟩)|_=>cases h
theorem JK {F F':dI} {bl bl':List (Nat×aQ)} {T:Ty} {p:PV} {x:T.den} (h1:PV.refs p=false)(h2:PV.lF p=[])(h:exp F bl T p=some x):exp F' bl' T p=some x:=by
 (have uf:PV.fM [p]=false:=by simp[PV.fM,h1]);(have tn:PV.cX [p]=[]:=by simp[PV.cX,h2]);cases T with|st t=>(cases p with|iv U y=>exact h|agg cs=>simp only[exp]at h⊢;rw[(Co (F':=F') (bl':=bl') t cs _ (by simpa[PV.refs]using h1) (by simpa[PV.lF]using h2) (eA h)).1];rfl|_=>simp only[exp]at h;cases h)|unit=>simp only[exp]at h;cases h|pair a b=>simp only[exp]at h;cases h|bG a b=>simp only[exp]at h;cases h|_=>simp only[exp]at h⊢;rw[(Co (F':=F') (bl':=bl') _ _ _ uf tn (eA h)).1];rfl
theorem dC {id:Nat} {b:aQ} : ∀ {bl:List (Nat×aQ)},look id bl=some b→ao id (keys bl)=true|[],h=>(by cases h)|p::r,h=>by simp only[look]at h;simp only[keys,List.map_cons,ao];cases hb:Nat.beq id p.1 with|true=>rfl|false=>simp only[hb,cond_false]at h⊢;exact dC h
theorem JL {T:Ty} {c:PV} {x:T.den} (h:ry T c=some x):c= .iv T x:=by
 (cases c<;>simp only[ry]at h<;>first|cases h|skip);rename_i U y;obtain⟨e,hx⟩:=Ty.bE h;subst e;simp only at hx;rw[hx]
theorem Cp {T:Ty} : ∀ {cs:List PV} {xs:List T.den},pX T cs=some xs→cs=xs.map (PV.iv T)|[],xs,h=>(by simp only[pX,y5]at h;subst h;rfl)|c::r,xs,h=>by simp only[pX]at h;split at h;(·rename_i x ys hx qh;simp only[y5]at h;subst h;rw[JL hx,Cp qh];rfl);·cases h
theorem yC {T:Ty} (h:TX T=true)(c:PV):join T [c]=c∧T.cells=1∧T.val=true:=by cases T<;>first|(cases h;done)|exact⟨rfl,rfl,rfl⟩
theorem Pg {T:Ty} {cs:List PV} {base m:Nat} {xs:List T.den} (h:pX T ((cs.drop base).take m)=some xs) {k:Nat} {x:T.den} (hx:xs[k]?=some x):(cs.drop (base+k)).take 1=[.iv T x]∧k<m∧base+k<cs.length:=by
 have hm:=Cp h;(have hk:((cs.drop base).take m)[k]?=some (.iv T x):=by rw[hm,List.getElem?_map,hx];rfl);(have hkm:k<m:=by rcases Nat.lt_or_ge k m with h'|h';(·exact h');·rw[List.getElem?_eq_none (by rw[List.length_take];omega)]at hk;cases hk)
 rw[List.getElem?_take,if_pos hkm,List.getElem?_drop]at hk;obtain⟨hl,e⟩:=z6 hk;refine⟨?_,hkm,hl⟩;rw[List.drop_eq_getElem_cons hl,e];rfl
section
variable {E:Env} {n:Nat} {w0:World} {S0:Cx} {s:St} {a:Act} {w:World} {ν:Nat→Value} {S:Nat→Prop} {F:dI} {o:Oper} {K:St→Prop} {Q:Exit→Act→World→Prop}
theorem Full.Ud(h:Full n w0 S0 s a w ν S) {T:Ty} {p:PV} {x:T.den} {v:Value} (ho:aR T=0)(h1:PV.refs p=false)(h2:PV.lF p=[])(hx:exp F s.bl T p=some x)(hp:ag h.c p v):dc T x w ⟨S,aJ w0 S0⟩ v:=by
 have ov:=JK (F':=⟨keys s.bl,true⟩) (bl':=s.bl) h1 h2 hx;refine gC (s:=s) (c:=h.c) (M':=⟨S,aJ w0 S0⟩) ⟨rfl,h.W.cD,fun _ h=>h,fun id hF hD g hg=>?_⟩ (.inl ho) ov hp
 obtain⟨b,hb⟩:=hD;rw[dC hb]at hF;cases hF
theorem M6(P:Program)(t:TypeId)(p:Addr)(w:World):(Instr.loadAt t (.pointer (some p))).run P w=(loadVar t p).run P w:=by simp[Instr.loadAt,Instr.sureAddr]
theorem ep.part {w:World} {g o:Nat} {cs:List Value} (h:ep w g o cs)(off k:Nat):ep w g (o+off) ((cs.drop off).take k):=by
 intro j v hj;(have hjk:j<k:=by rcases Nat.lt_or_ge j k with h'|h';(·exact h');·rw[List.getElem?_eq_none (by rw[List.length_take];omega)]at hj;cases hj);rw[List.getElem?_take,if_pos hjk,List.getElem?_drop]at hj
 rw[Nat.add_assoc];exact h _ v hj
theorem mj {w:World} {g:Nat} {vs:Array Value} {e:TypeId} (h:w.heap[g]?=some (.cells vs e (0,0))):ep w g 0 vs.toList:=by
 intro j v hj;rw[cell_of_row w g _ vs e (0,0) h,Nat.zero_add];simpa using hj
theorem aa8(hE:aI E)(h:Full n w0 S0 s a w ν S)(ho:bL n o=true) {t:Nat} {x:Operand} (aK:o.op= .load t x)(ab:aZ E (aq E F s o) (fun l=>K (s.fin o.dst l))):o.wp E.P a w (fun a' w'=> ∃s',K s'∧Rel n w0 S0 s' a' w') Q:=by
 simp only[aq,aK,nI]at ab;have hx:=h.ev (aA ho (x:=x) (by simp[aK,Op.operands]));(have aT: ∀(p:Addr)(v:Value),a.eval x= .pointer (some p)→(loadVar t p).run E.P w= .ok v w→(execOp a.eval o).run E.P w= .ok (.value v) w:=by intro p v he hl;simp only[execOp,aK,he,Sem.run_bind,M6,hl,Result.andThen_ok,Sem.run_pure])
 split at ab;(·rename_i T hT;have hf:=hE.facts hT;split at ab;(·rename_i id off cg;split at ab;(·rename_i cs te hl;obtain⟨hl,_⟩:=cM hl;split at ab;(·rename_i eR;have eR:=Nat.le_of_ble_eq_true eR;rw[cg]at hx;simp only[ag]at hx;obtain⟨hd,g,hg,hv⟩:=hx;obtain⟨kd,g',vs,e,ee,hB,vW,hh,h1,bF⟩:=h.W.cD _ _ hl;simp only[Full.c]at hg;simp only at ee;rw[hg]at ee;(obtain rfl:g=g':=by injection ee with e1;injection e1 with e1;injection e1);have gI:=dW bF;have hc:=(mj hh).part off T.cells;rw[Nat.zero_add]at hc;refine h.val ho (aT _ _ hv (gY hf (by rw[List.length_take,List.length_drop];omega) hc)) ?_ ab;refine lq (by rw[List.length_take,List.length_drop];omega) hf.val (fun u hu=>h1 u (List.mem_of_mem_drop (List.mem_of_mem_take hu))) (ez _ (ey _ bF)));·exact ab.elim);·exact ab.elim);(·rename_i U y off cg;split at ab;(·rename_i eR;have eR:=Nat.le_of_ble_eq_true eR;rw[cg]at hx;simp only[ag]at hx;obtain⟨wk,g,ob,cs,hv,hS,gI,hc,hr⟩:=hx;have jN:=hc.part off T.cells;refine h.val ho (aT _ _ hv (gY hf (by rw[List.length_take,List.length_drop];omega) jN)) ?_ ab;exact Cg wk hf.val eR hr);·exact ab.elim);(·rename_i id sz i off cg;split at ab;(·rename_i U xs te hl;obtain⟨hl,_⟩:=cM hl;split at ab;(·rename_i eR cY;have eR:=Nat.le_of_ble_eq_true eR;have cY:=y6 cY;obtain⟨y,hy,ab⟩:=ab;rw[cg]at hx;simp only[ag]at hx;obtain⟨hd,g,ob,m,cap,cE,him,hv⟩:=hx;obtain⟨kd,wk,u,hu,Ue,cZ⟩:=h.W.cD _ _ hl;simp only[Full.c]at cE;simp only[List.cons.injEq,and_true]at hu;rw[cE]at hu;subst hu;rcases cZ with⟨hn,_⟩|⟨g',o',rJ,cur,e,tp,hle,hcm,vW,hB,hh,ue,gq⟩;(·cases hn);·injection tp with e1 e2 e3;injection e1 with e1;injection e1 with e1 e4;subst e1;subst e4;subst e3;obtain⟨cs,gI,hc,hr⟩:=gq i y hy;have jN:=hc.part off T.cells;rw[cY]at hv;refine h.val ho (aT _ _ hv (gY hf (by rw[List.length_take,List.length_drop];omega) jN)) ?_ ab;exact Cg wk hf.val eR hr);·exact ab.elim);·exact ab.elim);(·rename_i id base U m i cg;split at ab;(·rename_i cs te hl;obtain⟨hl,_⟩:=cM hl;split at ab;(·rename_i xs ET hb;simp only[z8]at hb;obtain⟨⟨M7,Rw⟩,eR⟩:=hb;have M7:=Ty.dw M7;subst M7;have eR:=Nat.le_of_ble_eq_true eR;obtain⟨y,hy,ab⟩:=ab;rw[cg]at hx;simp only[ag]at hx;obtain⟨hd,h0,hn,g,hg,hv⟩:=hx;obtain⟨kd,g',vs,e,ee,hB,vW,hh,h1,bF⟩:=h.W.cD _ _ hl;simp only[Full.c]at hg;simp only at ee;rw[hg]at ee;(obtain rfl:g=g':=by injection ee with e1;injection e1 with e1;injection e1);have gI:=dW bF;obtain⟨e1,e2,e3⟩:=Pg ET hy;obtain⟨j1,j2,j3⟩:=yC Rw (.iv T y);have hc:=(mj hh).part (base+i.toNat) T.cells;rw[Nat.zero_add]at hc;refine h.val ho (aT _ _ hv (gY hf (by rw[List.length_take,List.length_drop];omega) hc)) ?_ ab;have:=lq (T:=T) (c:=h.c) (by rw[List.length_take,List.length_drop];omega) hf.val (fun u hu=>h1 u (List.mem_of_mem_drop (List.mem_of_mem_take hu))) (ez T.cells (ey (base+i.toNat) bF));rw[j2,e1,j1]at this;rw[j2];exact this);·exact ab.elim);·exact ab.elim);·exact ab.elim)
 ·exact ab.elim
end
end
section
variable {en:Prop} [lj en]
open Go.RowKit
section
variable {E:Env} {n:Nat} {w0:World} {S0:Cx} {s:St} {a:Act} {w:World} {ν:Nat→Value} {S:Nat→Prop} {F:dI} {o:Oper} {K:St→Prop} {Q:Exit→Act→World→Prop}
theorem Cq: ∀ {α:Type} {l:List α} {k:Nat},B5 l k=true→l.length=k|_,[],0,_=>rfl|_,[],_+1,h=>(by cases h)|_,_::_,0,h=>(by cases h)|_,_::r,k+1,h=>by simp[Cq (l:=r) (k:=k) h]
theorem nL {E:Env} {t:Nat} {T:Ty} (hf:cS E t T) {w:World} {g off:Nat} {v:Value} {cur:Array Value} {e:TypeId} (hg:w.heap[g]?=some (.cells cur e (0,0)))(hl:v.cells.size=T.cells)(ue:off+T.cells≤cur.size)(h1: ∀u,u∈v.cells.toList→u.oneCell'=true):(Instr.storeAt t (.pointer (some ⟨g,off,none⟩)) v).run E.P w= .ok () (w.setRow g (cur.toList.take off++v.cells.toList++cur.toList.drop (off+T.cells)).toArray):=by
 have cw:=run_storeCells_at (P:=E.P) g off e v.cells.toList 0 cur w hg (by simpa[hl]using ue) h1;simp only[Nat.add_zero,Array.length_toList,hl]at cw;simp only[Instr.storeAt,Instr.sureAddr,Sem.run_bind,Sem.run_pure,Result.andThen_ok,storeVar,hf.sizeOf w,Sem.run_ite,hl,ne_eq,not_true_eq_false,if_false]
 exact cw
theorem M8 {α:Type} (A ys B:List α)(i:Nat)(v:α)(hi:i<ys.length)(cs:List α)(h:cs=A++(ys++B)):A++ys.set i v++B=cs.take (A.length+i)++ [v]++cs.drop (A.length+i+1):=by
 subst h;(have h1:(A++(ys++B)).take (A.length+i)=A++ys.take i:=by rw[List.take_append,wt v6,Nat.add_sub_cancel_left,List.take_append_of_le_length v6])
 (have h2:(A++(ys++B)).drop (A.length+i+1)=ys.drop (i+1)++B:=by rw[List.drop_append,List.drop_of_length_le v6,show A.length+i+1-A.length=i+1 from by omega,List.nil_append,List.drop_append_of_le_length v6])
 rw[h1,h2,List.set_eq_take_append_cons_drop,if_pos hi];simp[List.append_assoc]
theorem Ph {T:Ty} (i:Int)(y:T.den)(h0:0≤i): ∀(xs:List T.den)(j:Nat),Ri T i y j xs=if(j:Int)≤i then(xs.set (i.toNat-j) y).map (PV.iv T)else xs.map (PV.iv T)|[],j=>(by split<;>rfl)|x::r,j=>by simp only[Ri];rw[Ph i y h0 r (j+1)];by_cases h1:i=(j:Int);(·subst h1;rw[if_pos rfl,if_pos (Int.le_refl _),if_neg v6];simp);·rw[if_neg h1];by_cases h2:(j:Int)≤i;(·rw[if_pos h2,if_pos v6];(have e:i.toNat-j=(i.toNat-(j+1))+1:=by omega);rw[e];simp);·rw[if_neg h2,if_neg v6];rfl
theorem rV {c:Ctx} {q:PV} {v:Value} (hq:ag c q v): ∀(U:Ty)(off:Nat)(f:U.den→U.den),EO U off q=some f→ ∀(x:U.den)(cs:List Value),aH U x c.w c.M cs→off<cs.length∧aH U (f x) c.w c.M (cs.set off v)∧v.cells= #[v]|.bool,off,f,h,x,cs,hx=>(by simp only[EO]at h;split at h;(·rename_i y;injection h with h;subst h;simp only[ag]at hq;have hv:[v]=[Value.bool y]:=hq.2;injection hv with hv;subst hv;have hx:cs=[.bool x]:=hx;subst hx;exact⟨by simp,rfl,rfl⟩);·cases h)|.int k,off,f,h,x,cs,hx=>(by simp only[EO]at h;split at h;(·rename_i k' y;split at h;(·rename_i he;have he:=Ty.dw he;injection he with he;subst he;injection h with h;subst h;simp only[ag]at hq;have hv:[v]=[Value.int k y]∧_:=hq.2;obtain⟨hv,hb⟩:=hv;injection hv with hv;subst hv;have hx:cs=[.int k x]∧_:=hx;obtain⟨rfl,_⟩:=hx;exact⟨by simp,⟨rfl,hb⟩,rfl⟩);·cases h);·cases h)|.str,off,f,h,x,cs,hx=>(by simp only[EO]at h;split at h;(·rename_i y;injection h with h;subst h;simp only[ag]at hq;have hv:[v]=[Value.string ⟨y.toArray⟩]∧_:=hq.2;obtain⟨hv,hb⟩:=hv;injection hv with hv;subst hv;have hx:cs=[.string ⟨x.toArray⟩]∧_:=hx;obtain⟨rfl,_⟩:=hx;exact⟨by simp,⟨rfl,hb⟩,rfl⟩);·cases h)|.st V,off,f,h,x,cs,hx=>rV hq V off f h x cs hx|.pair A B,off,f,h,x,cs,hx=>(by obtain⟨va,vb,rfl,ha,hb⟩:=hx;have A5:=bV _ _ _ _ _ ha;simp only[EO]at h;split at h;(·rename_i cu;split at h;(·rename_i g hg;injection h with h;subst h;obtain⟨h1,h2,h3⟩:=rV hq A off g hg x.1 va ha;exact⟨by rw[y9];omega,⟨_,_,List.set_append_left _ _ h1,h2,hb⟩,h3⟩);·cases h);·rename_i cu;(have JD:A.cells≤off:=by rcases Nat.lt_or_ge off A.cells with h'|h';(·simp only[Nat.blt]at cu;have:=Nat.ble_eq_true_of_le (Nat.succ_le_of_lt h');rw[this]at cu;cases cu);·exact h');split at h;(·rename_i g hg;injection h with h;subst h;obtain⟨h1,h2,h3⟩:=rV hq B _ g hg x.2 vb hb;exact⟨by rw[y9];omega,⟨_,_,by rw[List.set_append_right _ _ v6,A5],ha,h2⟩,h3⟩);·cases h)|.unit,_,_,h,_,_,_=>nomatch h|.sl _,_,_,h,_,_,_=>nomatch h|.own _,_,_,h,_,_,_=>nomatch h|.bG _ _,_,_,h,_,_,_=>nomatch h|.ptr _,_,_,h,_,_,_=>nomatch h|.iO _ _,_,_,h,_,_,_=>nomatch h|.mp _ _,_,_,h,_,_,_=>nomatch h|.aL,_,_,h,_,_,_=>nomatch h
theorem FI (hE : aI E) (h : Full n w0 S0 s a w ν S) (ho : bL n o = true) {t : Nat} {x y : Operand} (aK : o.op = .store t x y) (uO : o.dst = none) (ab : aZ E (rE E F s.bl t (s.ev x) (s.ev y)) (fun l => K (s.fin o.dst l))) : o.wp E.P a w (fun a' w' => ∃ s', K s' ∧ Rel n w0 S0 s' a' w') Q := by
  have hx := h.ev (aA ho (x := x) (by simp [aK, Op.operands]))
  have hy := h.ev (aA ho (x := y) (by simp [aK, Op.operands]))
  by_cases hT0 : True
  · simp only [rE] at ab
    split at ab
    · rename_i T hT
      have hf := hE.facts hT
      split at ab
      · rename_i us hus
        obtain ⟨Uf, h1u⟩ := mL hy hus
        split at ab
        · rename_i hle
          have wy := Cq hle
          have EP : (a.eval y).cells.size = T.cells := by rw [← wy, dW Uf]; simp
          split at ab
          · rename_i id off cg
            split at ab
            · rename_i cs te hl
              obtain ⟨hl, _⟩ := mM hl
              split at ab
              · rename_i eR
                have eR := Nat.le_of_ble_eq_true eR
                rw [cg] at hx
                simp only [ag] at hx
                obtain ⟨hd, g, hg, hv⟩ := hx
                obtain ⟨kd, g', vs, e, ee, hB, vW, hh, h1, bF⟩ := h.W.cD _ _ hl
                simp only [Full.c] at hg
                simp only at ee hh hB vW
                rw [hg] at ee
                obtain rfl : g = g' := by injection ee with e1; injection e1 with e1; injection e1
                have gI := dW bF
                have hr := nL hf (off := off) hh EP (by rw [← Array.length_toList, ← gI]; exact eR) h1u
                have aT : (execOp a.eval o).run E.P w = .ok .skip (w.setRow g (vs.toList.take off ++ (a.eval y).cells.toList ++ vs.toList.drop (off + T.cells)).toArray) := by
                  simp only [execOp, aK, hv, Sem.run_bind, hr, Result.andThen_ok, Sem.run_pure]
                refine kG aT ⟨_, ab, ?_⟩
                rw [uO]
                have mR := gZ w g (vs.toList.take off ++ (a.eval y).cells.toList ++ vs.toList.drop (off + T.cells)).toArray
                have Rx : aM (ν id) = some g := by rw [hg]; rfl
                have M9 : Ctx.Le h.c ⟨ν, s.D, w.setRow g (vs.toList.take off ++ (a.eval y).cells.toList ++ vs.toList.drop (off + T.cells)).toArray, ⟨S, aJ w0 S0⟩⟩ :=
                  ⟨fun b hb => setRow_other w g b _ (fun e => (h.iF hl (dx Rx)).2.1 (e ▸ hb)), fun _ h => h, fun _ h => h, fun _ _ => rfl⟩
                refine (h.upd hl (by rw [Rx]; exact mR) (b' := .box (cs.take off ++ us ++ cs.drop (off + T.cells)) te) ⟨(by exact kd.MV Rx hh (setRow_heap w g vs _ e _ hh)), g, _, e, hg, hB, vW, setRow_heap w g vs _ e _ hh, ?_, ?_⟩).rel
                · intro u hu
                  simp only [List.mem_append] at hu
                  rcases hu with (hu | hu) | hu
                  · exact h1 u (List.mem_of_mem_take hu)
                  · exact h1u u hu
                  · exact h1 u (List.mem_of_mem_drop hu)
                · exact ct (ct (ez _ (cc M9 bF)) (cc M9 Uf)) (ey _ (cc M9 bF))
              · exact ab.elim
            · exact ab.elim
          · rename_i id sz i off cg
            split at ab
            · rename_i U xs te hl
              obtain ⟨hl, _⟩ := mM hl
              split at ab
              · rename_i heq
                simp only [z8] at heq
                obtain ⟨heq, cY⟩ := heq
                have M7 := Ty.dw heq
                subst M7
                have cY := y6 cY
                split at ab
                · rename_i z vX Ry bQ0
                  rw [cg] at hx
                  simp only [ag] at hx
                  obtain ⟨hd, g, ob, m, cap, cE, him, hv⟩ := hx
                  have TA := h.W.cD _ _ hl
                  obtain ⟨kd, wk, u, hu, Ue, cZ⟩ := TA
                  simp only [Full.c] at cE
                  simp only [List.cons.injEq, and_true] at hu
                  rw [cE] at hu
                  subst hu
                  rcases cZ with ⟨hn, _⟩ | ⟨g', o', rJ, cur, e, tp, aZ3, hcm, vW, hB, hh, ue, gq⟩
                  · cases hn
                  · injection tp with e1 e2 e3
                    injection e1 with e1
                    injection e1 with e1 e4
                    subst e1; subst e4; subst e3; subst e2
                    rw [cY, Nat.add_zero] at hv
                    have rR : i * T.cells + T.cells ≤ cap * T.cells := by
                      calc i * T.cells + T.cells = (i + 1) * T.cells := by rw [Nat.add_mul]; omega
                        _ ≤ cap * T.cells := Nat.mul_le_mul_right _ v6
                    have hr := nL hf (off := ob + i * T.cells) hh EP v6 h1u
                    have aT : (execOp a.eval o).run E.P w = .ok .skip (w.setRow g (cur.toList.take (ob + i * T.cells) ++ (a.eval y).cells.toList ++ cur.toList.drop (ob + i * T.cells + T.cells)).toArray) := by
                      simp only [execOp, aK, hv, Sem.run_bind, hr, Result.andThen_ok, Sem.run_pure]
                    refine kG aT ⟨_, ab, ?_⟩
                    rw [uO]
                    have mR := gZ w g (cur.toList.take (ob + i * T.cells) ++ (a.eval y).cells.toList ++ cur.toList.drop (ob + i * T.cells + T.cells)).toArray
                    have Rx : aM (ν id) = some g := by rw [cE]; rfl
                    have bA2 := h.Ud wk vX Ry bQ0 hy
                    have FJ : ∀ b, S b → (w.setRow g (cur.toList.take (ob + i * T.cells) ++ (a.eval y).cells.toList ++ cur.toList.drop (ob + i * T.cells + T.cells)).toArray).heap[b]? = w.heap[b]? := fun b hb => setRow_other w g b _ (fun e => vW (e ▸ hb))
                    have FA := setRow_heap w g cur (cur.toList.take (ob + i * T.cells) ++ (a.eval y).cells.toList ++ cur.toList.drop (ob + i * T.cells + T.cells)).toArray e _ hh
                    generalize oM : (cur.toList.take (ob + i * T.cells) ++ (a.eval y).cells.toList ++ cur.toList.drop (ob + i * T.cells + T.cells)).toArray = EU at *
                    refine (h.upd (w' := w.setRow g EU) hl (by rw [Rx]; exact mR) (b' := .arr T (xs.set i z)) ⟨cA _ _, wk, .slice (some ⟨g, ob, none⟩) xs.length cap, by simp only [cE], by rw [List.length_set]; exact Ue, .inr ⟨g, ob, cap, EU, e, by rw [List.length_set], by rw [List.length_set]; exact aZ3, hcm, vW, hB, FA, ?_, ?_⟩⟩).rel
                    all_goals subst oM
                    · simp only [List.size_toArray, y9, List.length_take, List.length_drop, Array.length_toList, EP]
                      omega
                    · intro j q hq
                      by_cases eQ : i = j
                      · subst eQ
                        rw [List.getElem?_set_self him] at hq
                        · injection hq with hq
                          subst hq
                          refine ⟨(a.eval y).cells.toList, by rw [Array.length_toList, EP], fun k u hk => ?_, aD FJ (fun _ h => h) _ _ _ wk (mK hf.val bA2)⟩
                          rw [cell_of_row _ _ _ _ _ _ FA]
                          simp only [List.getElem?_toArray]
                          have yl : k < (a.eval y).cells.toList.length := (z6 hk).1
                          have A3 : (cur.toList.take (ob + i * T.cells)).length = ob + i * T.cells := by simp only [List.length_take, Array.length_toList]; omega
                          rw [List.append_assoc, List.getElem?_append_right (by rw [A3]; omega), A3, List.getElem?_append_left v6]
                          rw [← hk]
                          congr 1
                          omega
                      · rw [List.getElem?_set_ne eQ] at hq
                        obtain ⟨cs, gI, hc, Ji⟩ := gq j q hq
                        refine ⟨cs, gI, fun k u hk => ?_, aD FJ (fun _ h => h) _ _ _ wk Ji⟩
                        have yl : k < cs.length := (z6 hk).1
                        have fA := hc k u hk
                        rw [cell_of_row _ _ _ _ _ _ hh] at fA
                        rw [cell_of_row _ _ _ _ _ _ FA]
                        simp only [List.getElem?_toArray]
                        have A3 : (cur.toList.take (ob + i * T.cells)).length = ob + i * T.cells := by simp only [List.length_take, Array.length_toList]; omega
                        rcases Nat.lt_or_gt_of_ne eQ with cu | MF
                        · have hmul : i * T.cells + T.cells ≤ j * T.cells := by
                            calc i * T.cells + T.cells = (i + 1) * T.cells := by rw [Nat.add_mul]; omega
                              _ ≤ j * T.cells := Nat.mul_le_mul_right _ cu
                          rw [List.append_assoc, List.getElem?_append_right (by rw [A3]; omega), A3, List.getElem?_append_right (by rw [Array.length_toList, EP]; omega), List.getElem?_drop, Array.length_toList, EP]
                          rw [← fA]
                          simp only [Array.getElem?_toList]
                          congr 1
                          omega
                        · have hmul : j * T.cells + T.cells ≤ i * T.cells := by
                            calc j * T.cells + T.cells = (j + 1) * T.cells := by rw [Nat.add_mul]; omega
                              _ ≤ i * T.cells := Nat.mul_le_mul_right _ MF
                          rw [List.append_assoc, List.getElem?_append_left (by rw [A3]; omega), List.getElem?_take, if_pos v6]
                          simpa using fA
                · exact ab.elim
              · rename_i off _ _ bS
                split at ab
                · rename_i f cY hf2
                  have cY := y6 cY
                  rw [cg] at hx
                  simp only [ag] at hx
                  obtain ⟨hd, g, ob, m, cap, cE, him, hv⟩ := hx
                  have TA := h.W.cD _ _ hl
                  obtain ⟨kd, wk, u, hu, Ue, cZ⟩ := TA
                  simp only [Full.c] at cE
                  simp only [List.cons.injEq, and_true] at hu
                  rw [cE] at hu
                  subst hu
                  rcases cZ with ⟨hn, _⟩ | ⟨g', o', rJ, cur, e, tp, aZ3, hcm, vW, hB, hh, ue, gq⟩
                  · cases hn
                  · injection tp with e1 e2 e3
                    injection e1 with e1
                    injection e1 with e1 e4
                    subst e1; subst e4; subst e3; subst e2
                    rw [cY] at hv
                    have Ug : ∀ q, xs[i]? = some q → off < U.cells ∧ (a.eval y).cells = #[a.eval y] := fun q hq => by
                      obtain ⟨cs, gI, _, Ji⟩ := gq i q hq
                      obtain ⟨h1, _, h3⟩ := rV hy U off f hf2 q cs Ji
                      exact ⟨v6, h3⟩
                    obtain ⟨lJ, hcv⟩ := Ug _ (List.getElem?_eq_getElem him)
                    have hT1 : T.cells = 1 := by rw [← EP, hcv]; rfl
                    have rR : i * U.cells + U.cells ≤ cap * U.cells := by
                      calc i * U.cells + U.cells = (i + 1) * U.cells := by rw [Nat.add_mul]; omega
                        _ ≤ cap * U.cells := Nat.mul_le_mul_right _ v6
                    have hr := nL hf (off := ob + i * U.cells + off) hh EP v6 h1u
                    rw [hT1, hcv] at hr
                    have aT : (execOp a.eval o).run E.P w = .ok .skip (w.setRow g (cur.toList.take (ob + i * U.cells + off) ++ [a.eval y] ++ cur.toList.drop (ob + i * U.cells + off + 1)).toArray) := by
                      simp only [execOp, aK, hv, Sem.run_bind, hr, Result.andThen_ok, Sem.run_pure]
                    refine kG aT ⟨_, ab, ?_⟩
                    rw [uO]
                    have mR := gZ w g (cur.toList.take (ob + i * U.cells + off) ++ [a.eval y] ++ cur.toList.drop (ob + i * U.cells + off + 1)).toArray
                    have Rx : aM (ν id) = some g := by rw [cE]; rfl
                    have FJ : ∀ b, S b → (w.setRow g (cur.toList.take (ob + i * U.cells + off) ++ [a.eval y] ++ cur.toList.drop (ob + i * U.cells + off + 1)).toArray).heap[b]? = w.heap[b]? := fun b hb => setRow_other w g b _ (fun e => vW (e ▸ hb))
                    have FA := setRow_heap w g cur (cur.toList.take (ob + i * U.cells + off) ++ [a.eval y] ++ cur.toList.drop (ob + i * U.cells + off + 1)).toArray e _ hh
                    have Rz : (cur.toList.take (ob + i * U.cells + off) ++ [a.eval y] ++ cur.toList.drop (ob + i * U.cells + off + 1)).toArray = (cur.toList.set (ob + i * U.cells + off) (a.eval y)).toArray := by
                      rw [List.set_eq_take_append_cons_drop, if_pos (by rw [Array.length_toList]; omega)]
                      simp
                    rw [Rz] at mR FJ FA ⊢
                    generalize oM : (cur.toList.set (ob + i * U.cells + off) (a.eval y)).toArray = EU at *
                    refine (h.upd (w' := w.setRow g EU) hl (by rw [Rx]; exact mR) (b' := .arr U (xs.modify i f)) ⟨cA _ _, wk, .slice (some ⟨g, ob, none⟩) xs.length cap, by simp only [cE], by rw [List.length_modify]; exact Ue, .inr ⟨g, ob, cap, EU, e, by rw [List.length_modify], by rw [List.length_modify]; exact aZ3, hcm, vW, hB, FA, ?_, ?_⟩⟩).rel
                    all_goals subst oM
                    · simp only [List.size_toArray, List.length_set, Array.length_toList]
                      omega
                    · intro j q hq
                      by_cases eQ : i = j
                      · subst eQ
                        rw [List.getElem?_modify_eq] at hq
                        obtain ⟨q0, hq0, rfl⟩ := Option.map_eq_some_iff.1 (show (xs[i]?).map f = some q from hq)
                        obtain ⟨cs, gI, hc, Ji⟩ := gq i q0 hq0
                        obtain ⟨h1, h2, _⟩ := rV hy U off f hf2 q0 cs Ji
                        refine ⟨cs.set off (a.eval y), by rw [List.length_set, gI], fun k u hk => ?_, aD FJ (fun _ h => h) _ _ _ wk h2⟩
                        rw [cell_of_row _ _ _ _ _ _ FA]
                        simp only [List.getElem?_toArray]
                        by_cases hko : off = k
                        · subst hko
                          rw [List.getElem?_set_self h1] at hk
                          rw [List.getElem?_set_self (by rw [Array.length_toList]; omega)]
                          exact hk
                        · rw [List.getElem?_set_ne hko] at hk
                          rw [List.getElem?_set_ne v6]
                          have fA := hc k u hk
                          rw [cell_of_row _ _ _ _ _ _ hh] at fA
                          simpa using fA
                      · rw [List.getElem?_modify_ne _ _ eQ] at hq
                        obtain ⟨cs, gI, hc, Ji⟩ := gq j q hq
                        refine ⟨cs, gI, fun k u hk => ?_, aD FJ (fun _ h => h) _ _ _ wk Ji⟩
                        have yl : k < cs.length := (z6 hk).1
                        have fA := hc k u hk
                        rw [cell_of_row _ _ _ _ _ _ hh] at fA
                        rw [cell_of_row _ _ _ _ _ _ FA]
                        simp only [List.getElem?_toArray]
                        have bS : ob + i * U.cells + off ≠ ob + j * U.cells + k := by
                          rcases Nat.lt_or_gt_of_ne eQ with cu | MF
                          · have hmul : i * U.cells + U.cells ≤ j * U.cells := by
                              calc i * U.cells + U.cells = (i + 1) * U.cells := by rw [Nat.add_mul]; omega
                                _ ≤ j * U.cells := Nat.mul_le_mul_right _ cu
                            omega
                          · have hmul : j * U.cells + U.cells ≤ i * U.cells := by
                              calc j * U.cells + U.cells = (j + 1) * U.cells := by rw [Nat.add_mul]; omega
                                _ ≤ i * U.cells := Nat.mul_le_mul_right _ MF
                            omega
                        rw [List.getElem?_set_ne bS]
                        simpa using fA
                · exact ab.elim
            · exact ab.elim
          · rename_i id base U m i cg
            split at ab
            · rename_i cs te hl
              obtain ⟨hl, _⟩ := mM hl
              split at ab
              · rename_i xs z ET hb hz
                simp only [z8] at hb
                obtain ⟨⟨M7, Rw⟩, eR⟩ := hb
                have M7 := Ty.dw M7
                subst M7
                have eR := Nat.le_of_ble_eq_true eR
                obtain ⟨j1, j2, j3⟩ := yC Rw (.iv T z)
                have hq := JL hz
                rw [cg] at hx
                simp only [ag] at hx
                obtain ⟨hd, h0, hn, g, hg, hv⟩ := hx
                obtain ⟨kd, g', vs, e, ee, hB, vW, hh, h1, bF⟩ := h.W.cD _ _ hl
                simp only [Full.c] at hg
                simp only at ee hh hB vW
                rw [hg] at ee
                obtain rfl : g = g' := by injection ee with e1; injection e1 with e1; injection e1
                have gI := dW bF
                have bQ1 : us = [.iv T z] := by
                  rw [hq] at hus
                  cases T <;> first | (cases Rw; done) | (simp only [PV.cells, Ty.val, y5, cellsOf] at hus; exact hus.symm)
                have aa7 := Cp ET
                have EV : xs.length = m := by
                  have := congrArg List.length aa7
                  rw [List.length_take, List.length_drop, List.length_map] at this
                  omega
                have him : i.toNat < m := by omega
                have Hy : cs.take base ++ Ri T i z 0 xs ++ cs.drop (base + m) = cs.take (base + i.toNat) ++ us ++ cs.drop (base + i.toNat + T.cells) := by
                  have e0 := Ph i z h0 xs 0
                  simp only [Int.natCast_zero, Nat.sub_zero, if_pos h0] at e0
                  have Rz : cs = cs.take base ++ (xs.map (PV.iv T) ++ cs.drop (base + m)) := by
                    have := aa7
                    rw [← this]
                    conv => lhs; rw [← List.take_append_drop base cs]
                    congr 1
                    conv => lhs; rw [← List.take_append_drop m (cs.drop base)]
                    rw [List.drop_drop]
                  have A3 : (cs.take base).length = base := by rw [List.length_take]; omega
                  have hml : (xs.map (PV.iv T)).length = m := by rw [List.length_map]; exact EV
                  rw [e0, bQ1, j2, List.map_set]
                  have hss := M8 (cs.take base) (xs.map (PV.iv T)) (cs.drop (base + m)) i.toNat (.iv T z) v6 cs Rz
                  rw [A3] at hss
                  exact hss
                rw [Hy] at ab
                have hr := nL hf (off := base + i.toNat) hh EP (by rw [← Array.length_toList, ← gI]; omega) h1u
                have aT : (execOp a.eval o).run E.P w = .ok .skip (w.setRow g (vs.toList.take (base + i.toNat) ++ (a.eval y).cells.toList ++ vs.toList.drop (base + i.toNat + T.cells)).toArray) := by
                  simp only [execOp, aK, hv, Sem.run_bind, hr, Result.andThen_ok, Sem.run_pure]
                refine kG aT ⟨_, ab, ?_⟩
                rw [uO]
                have mR := gZ w g (vs.toList.take (base + i.toNat) ++ (a.eval y).cells.toList ++ vs.toList.drop (base + i.toNat + T.cells)).toArray
                have Rx : aM (ν id) = some g := by rw [hg]; rfl
                have M9 : Ctx.Le h.c ⟨ν, s.D, w.setRow g (vs.toList.take (base + i.toNat) ++ (a.eval y).cells.toList ++ vs.toList.drop (base + i.toNat + T.cells)).toArray, ⟨S, aJ w0 S0⟩⟩ :=
                  ⟨fun b hb => setRow_other w g b _ (fun e => (h.iF hl (dx Rx)).2.1 (e ▸ hb)), fun _ h => h, fun _ h => h, fun _ _ => rfl⟩
                refine (h.upd hl (by rw [Rx]; exact mR) (b' := .box (cs.take (base + i.toNat) ++ us ++ cs.drop (base + i.toNat + T.cells)) te) ⟨(by exact kd.MV Rx hh (setRow_heap w g vs _ e _ hh)), g, _, e, hg, hB, vW, setRow_heap w g vs _ e _ hh, ?_, ?_⟩).rel
                · intro u hu
                  simp only [List.mem_append] at hu
                  rcases hu with (hu | hu) | hu
                  · exact h1 u (List.mem_of_mem_take hu)
                  · exact h1u u hu
                  · exact h1 u (List.mem_of_mem_drop hu)
                · exact ct (ct (ez _ (cc M9 bF)) (cc M9 Uf)) (ey _ (cc M9 bF))
              · exact ab.elim
            · exact ab.elim
          · exact ab.elim
        · exact ab.elim
      · exact ab.elim
    · exact ab.elim
  · exact absurd trivial hT0
theorem cS.field {E:Env} (hE:aI E) {t:Nat} {T:Ty} (hf:cS E t T)(hs:E.str t=true) {i:Nat} (hi:i<lH T): ∃fs f,E.P.underlying t=some (.struct fs)∧fs[i]?=some f∧f.offset=lS T i∧cS E f.type (qV T i)∧1≤(qV T i).cells:=by
 (cases T<;>first|(simp[lH]at hi;done)|skip);rename_i R;rcases hf.agg hE with⟨fs,hu,A4,hfa⟩|⟨m,e,V,hu,he,rfl,hV,hV1,hm⟩;(·obtain⟨f,h1,h2,h3,h4,h5,h6⟩:=hfa i hi;exact⟨fs,f,hu,h1,h2,hE.facts h3,h4⟩)
 ·have:=hf.str _ _ rfl hu;simp only at this;rw[hs]at this;cases this
theorem cS.array {E:Env} (hE:aI E) {t:Nat} {R:Ty} (hf:cS E t (.st R))(hs:E.str t=false): ∃m e,E.P.underlying t=some (.array m e)∧cS E e (bJ R 0)∧cH R=m∧ ∀i,i<m→fF R i=i*(bJ R 0).cells:=by
 rcases hf.agg hE with⟨fs,hu,A4,hfa⟩|⟨m,e,V,hu,he,rfl,hV,hV1,hm⟩;(·have:=hf.str _ _ rfl hu;simp only at this;rw[hs]at this;cases this);·have h0:=(oL V hV m 0 v6).2;refine⟨m,e,hu,by rw[h0];exact hE.facts he,tj V hV m v6,fun i hi=>?_⟩;rw[h0];exact(oL V hV m i hi).1
theorem Hz(hE:aI E)(h:Full n w0 S0 s a w ν S)(ho:bL n o=true) {t f:Nat} {x:Operand} (aK:o.op= .fieldAddr t x f)(ab:aZ E (aq E F s o) (fun l=>K (s.fin o.dst l))):o.wp E.P a w (fun a' w'=> ∃s',K s'∧Rel n w0 S0 s' a' w') Q:=by
 simp only[aq,aK]at ab;have hx:=h.ev (aA ho (x:=x) (by simp[aK,Op.operands]));split at ab;(·rename_i T hT;split at ab;(·rename_i hb;simp only[z8,Nat.blt_eq]at hb;obtain⟨fs,fd,hu,hfd,lJ,Uh,Jj⟩:=(hE.facts hT).field hE hb.2 hb.1;(have aT: ∀(g ob:Nat),a.eval x= .pointer (some ⟨g,ob,none⟩)→(execOp a.eval o).run E.P w= .ok (.value (.pointer (some ⟨g,ob+lS T f,none⟩))) w:=by intro g ob he;have cY:=Uh.sizeOf w;simp only[execOp,aK,he,Instr.fieldAt,Sem.run_bind,run_underlying hu,Result.andThen_ok,hfd,Instr.sureAddr,Sem.run_pure,fieldPlace,cY,Sem.run_ite];rw[if_neg v6];simp only[Result.andThen_ok,lJ,eX,Sem.run_pure]);split at ab;(·rename_i id off cg;rw[cg]at hx;simp only[ag]at hx;obtain⟨hd,g,hg,hv⟩:=hx;refine h.val ho (aT _ _ hv) ?_ ab;simp only[ag];exact⟨hd,g,hg,rfl⟩);(·rename_i U y off cg;rw[cg]at hx;simp only[ag]at hx;obtain⟨wk,g,ob,cs,hv,r⟩:=hx;refine h.val ho (aT _ _ hv) ?_ ab;simp only[ag];exact⟨wk,g,ob,cs,by rw[Nat.add_assoc],r⟩);(·rename_i id sz i off cg;rw[cg]at hx;simp only[ag]at hx;obtain⟨hd,g,ob,m,cap,cE,him,hv⟩:=hx;refine h.val ho (aT _ _ hv) ?_ ab;simp only[ag];exact⟨hd,g,ob,m,cap,cE,him,by rw[Nat.add_assoc]⟩);·exact ab.elim);·exact ab.elim)
 ·exact ab.elim
theorem lr {E:Env} {t:Nat} {T:Ty} (hf:cS E t T) {w:World} {cs:Array Value} {off:Nat} (hl:off+T.cells≤cs.size):(Go.part t cs off).run E.P w= .ok (valOf T ((cs.toList.drop off).take T.cells)) w:=by
 unfold Go.part;simp only[Sem.run_bind,hf.isAgg w,Result.andThen_ok];have hT:=hf.val;cases T with|st r=>simp only[T6,if_true,Sem.run_bind,hf.sizeOf w,Result.andThen_ok,Sem.run_pure,valOf];congr 2;apply Array.toList_inj.1;simp[Array.toList_extract]|unit=>cases hT|pair a b=>cases hT|bG a b=>cases hT|_=>simp only[Ty.cells]at hl;simp only[T6,Bool.false_eq_true,if_false,Ty.cells,valOf];rw[Array.getElem?_eq_getElem v6];rw[List.drop_eq_getElem_cons (by simpa using(by omega:off<cs.size))];simp
theorem wB {c:Ctx} {p:PV} {v:Value} {cs:List PV} (h:ag c p v)(hc:mE p=some cs):aj c cs v.cells.toList∧(∀u,u∈v.cells.toList→u.oneCell'=true)∧ ∃us,v= .agg us:=by
 cases p with|iv T x=>(cases T with|st R=>simp only[mE]at hc;(have jN:(PV.iv (.st R) x).cells=some cs:=by simp only[PV.cells,Ty.val];exact hc);obtain⟨h1,h2⟩:=mL h jN;simp only[ag]at h;obtain⟨_,vs,hv,_⟩:=h;exact⟨h1,h2,_,hv⟩|_=>simp only[mE]at hc;cases hc)|agg ps=>have jN:(PV.agg ps).cells=some cs:=hc;obtain⟨h1,h2⟩:=mL h jN;simp only[ag]at h;obtain⟨vs,hv,_⟩:=h;exact⟨h1,h2,_,hv⟩|_=>simp only[mE]at hc;cases hc
theorem Ui(hE:aI E)(h:Full n w0 S0 s a w ν S)(ho:bL n o=true) {t f:Nat} {x:Operand} (aK:o.op= .field t x f)(ab:aZ E (aq E F s o) (fun l=>K (s.fin o.dst l))):o.wp E.P a w (fun a' w'=> ∃s',K s'∧Rel n w0 S0 s' a' w') Q:=by
 simp only[aq,aK]at ab;have hx:=h.ev (aA ho (x:=x) (by simp[aK,Op.operands]));split at ab;(·rename_i T cs hT ES;split at ab;(·rename_i eR hb;simp only[z8,Nat.blt_eq]at hb;have eR:=Nat.le_of_ble_eq_true eR;obtain⟨fs,fd,hu,hfd,lJ,Uh,Jj⟩:=(hE.facts hT).field hE hb.2 hb.1;obtain⟨hp,h1,us,hv⟩:=wB hx ES;rw[hv]at hp h1;simp only[Value.cells]at hp h1;rw[dW hp]at eR;have aT:=lr (E:=E) Uh (w:=w) (cs:=us) (off:=lS T f) (by simpa using eR);refine h.val ho ?_ (lq (by rw[List.length_take,List.length_drop];omega) Uh.val (fun u hu=>h1 u (List.mem_of_mem_drop (List.mem_of_mem_take hu))) (ez _ (ey _ hp))) ab;simp only[execOp,aK,hv,Instr.field,Sem.run_bind,run_underlying hu,Result.andThen_ok,hfd,asAgg,Sem.run_pure,lJ,aT]);·exact ab.elim)
 ·exact ab.elim
theorem HA(hE:aI E)(h:Full n w0 S0 s a w ν S)(ho:bL n o=true) {t:Nat} {x i:Operand} (aK:o.op= .indexAddr t x i)(ab:aZ E (aq E F s o) (fun l=>K (s.fin o.dst l))):o.wp E.P a w (fun a' w'=> ∃s',K s'∧Rel n w0 S0 s' a' w') Q:=by
 simp only[aq,aK]at ab;have hx:=h.ev (aA ho (x:=x) (by simp[aK,Op.operands]));have hi:=h.ev (aA ho (x:=i) (by simp[aK,Op.operands]));split at ab;(·rename_i k m Uj;rw[Uj]at hi;obtain⟨ZP,_⟩:=bp hi;(have lV: ∀ {U:Ty} (hT:E.ty t=some (.sl U))(g ob len cap:Nat),a.eval x= .slice (some ⟨g,ob,none⟩) len cap→0≤m→m<len→(execOp a.eval o).run E.P w= .ok (.value (.pointer (some ⟨g,ob+m.toNat*U.cells,none⟩))) w:=by intro U hT g ob len cap he h0 h1;obtain⟨e,hu,hee,rQ,_⟩:=(hE.facts hT).elem hE;have cY:=rQ.sizeOf w;simp only[execOp,aK,he,ZP,Instr.indexAt,asIntOf,Sem.run_bind,Sem.run_pure,Result.andThen_ok,run_underlying hu,Sem.run_ite];rw[if_pos ⟨h0,h1⟩];simp only[Sem.run_bind,cY,Result.andThen_ok,Sem.run_pure,eX]);(have Ry: ∀ {R:Ty} (hT:E.ty t=some (.st R))(hs:E.str t=false)(g ob:Nat),a.eval x= .pointer (some ⟨g,ob,none⟩)→0≤m→m<cH R→(execOp a.eval o).run E.P w= .ok (.value (.pointer (some ⟨g,ob+m.toNat*(bJ R 0).cells,none⟩))) w:=by intro R hT hs g ob he h0 h1;obtain⟨l,e,hu,rQ,gI,_⟩:=(hE.facts hT).array hE hs;have cY:=rQ.sizeOf w;simp only[execOp,aK,he,ZP,Instr.indexAt,asIntOf,Sem.run_bind,Sem.run_pure,Result.andThen_ok,run_underlying hu,Instr.sureAddr,Sem.run_ite];rw[if_pos ⟨h0,by rw[←gI];exact h1⟩];simp only[Sem.run_bind,cY,Result.andThen_ok,Sem.run_pure,eX]);simp only[om]at ab;split at ab;(·rename_i T xs cg;rw[cg]at hx;split at ab;(·rename_i U hT;split at ab;(·rename_i heq;have M7:=Ty.dw heq;subst M7;obtain⟨h0,y,hy,ab⟩:=ab;simp only[ag]at hx;obtain⟨nB,aa,cap,hv,hle,ud,cZ⟩:=hx;injection hv with hv;have cu:m.toNat<xs.length:=(z6 hy).1;rcases cZ with rfl|⟨g,ob,rfl,hS,gq⟩;(·simp at cu);·obtain⟨cs,gI,hc,hr⟩:=gq _ y hy;refine h.val ho (lV hT g ob xs.length cap hv h0 ((Int.toNat_lt h0).1 cu)) ?_ ab;simp only[ag];exact⟨by simpa[aR]using nB,g,ob+m.toNat*T.cells,cs,by rw[Nat.add_zero],hS,gI,hc,hr⟩);·exact ab.elim);·exact ab.elim);(·rename_i id cg;rw[cg]at hx;split at ab;(·rename_i T xs te U hl hT;obtain⟨hl,_⟩:=cM hl;split at ab;(·rename_i heq;have M7:=Ty.dw heq;subst M7;obtain⟨⟨h0,h1⟩,ab⟩:=ab;simp only[ag]at hx;obtain⟨hd,cE,_⟩:=hx;obtain⟨kd,wk,u,hu,Ue,cZ⟩:=h.W.cD _ _ hl;simp only[List.cons.injEq,and_true]at hu;simp only[Full.c]at cE;rcases cZ with⟨hn,rfl⟩|⟨g,ob,cap,cur,e,tp,_⟩;(·simp at h1;omega);·rw[tp]at hu;rw[hu]at cE;refine h.val ho (lV hT g ob xs.length cap cE h0 h1) ?_ ab;simp only[ag];exact⟨hd,g,ob,xs.length,cap,hu,v6,by rw[Nat.add_zero]⟩);·exact ab.elim);·exact ab.elim);(·rename_i id sz off len cg;rw[cg]at hx;split at ab;(·rename_i U hT;split at ab;(·rename_i cY;have cY:=y6 cY;obtain⟨⟨h0,h1⟩,ab⟩:=ab;simp only[ag]at hx;obtain⟨hd,aa,m',cap,b,cE,hn,ud,hv,hb⟩:=hx;obtain⟨g,ob,rfl,rfl⟩:=hb v6;refine h.val ho (lV hT g _ _ _ hv h0 h1) ?_ ab;simp only[ag];exact⟨hd,g,ob,m',cap,cE,v6,by rw[cY,Nat.add_mul,Nat.add_zero,Nat.add_assoc]⟩);·exact ab.elim);·exact ab.elim);(·rename_i id off cg;rw[cg]at hx;split at ab;(·rename_i R hT hs;simp only[ag]at hx;obtain⟨hd,g,hg,hv⟩:=hx;split at ab;(·rename_i hb;simp only[z8]at hb;have Jj:=y6 hb.2;obtain⟨⟨h0,h1⟩,ab⟩:=ab;refine h.val ho (Ry hT hs g off hv h0 h1) ?_ ab;simp only[ag];exact⟨hd,h0,h1,g,hg,by rw[Jj,Nat.mul_one]⟩);·obtain⟨⟨h0,h1⟩,ab⟩:=ab;refine h.val ho (Ry hT hs g off hv h0 h1) ?_ ab;simp only[ag];exact⟨hd,g,hg,rfl⟩);·exact ab.elim);(·rename_i U y off cg;rw[cg]at hx;split at ab;(·rename_i R hT hs;obtain⟨⟨h0,h1⟩,ab⟩:=ab;simp only[ag]at hx;obtain⟨wk,g,ob,cs,hv,r⟩:=hx;refine h.val ho (Ry hT hs g _ hv h0 h1) ?_ ab;simp only[ag];exact⟨wk,g,ob,cs,by rw[Nat.add_assoc],r⟩);·exact ab.elim);·exact ab.elim)
 ·exact ab.elim
theorem Uk(hE:aI E)(h:Full n w0 S0 s a w ν S)(ho:bL n o=true) {t:Nat} {x i:Operand} (aK:o.op= .index t x i)(ab:aZ E (aq E F s o) (fun l=>K (s.fin o.dst l))):o.wp E.P a w (fun a' w'=> ∃s',K s'∧Rel n w0 S0 s' a' w') Q:=by
 simp only[aq,aK]at ab;have hx:=h.ev (aA ho (x:=x) (by simp[aK,Op.operands]));have hi:=h.ev (aA ho (x:=i) (by simp[aK,Op.operands]));split at ab;(·rename_i xs k m uP Uj hT;obtain⟨d,hu,Jk⟩:=(hE.facts hT).sZ;(have hd:d= .string:=by cases d<;>first|rfl|cases Jk);subst hd;rw[Uj]at hi;rw[uP]at hx;obtain⟨ZP,_⟩:=bp hi;obtain⟨MG,_⟩:=eY hx;obtain⟨h0,c,⟨u,jO,rfl⟩,ab⟩:=ab;refine h.val ho (v:=.int .u8 u.toNat) ?_ (cj (by have:=u.toNat_lt;constructor<;>simp[IntKind.min,IntKind.max,IntKind.signed,IntKind.bits]<;>omega)) ab;simp only[execOp,aK,MG,ZP,Instr.index,asIntOf,Sem.run_bind,Sem.run_pure,Result.andThen_ok,run_underlying hu];rw[if_pos h0];(have:(⟨xs.toArray⟩:ByteArray)[m.toNat]?=some u:=by have hl:m.toNat<xs.length:=(z6 jO).1;have hs:m.toNat<(⟨xs.toArray⟩:ByteArray).size:=hl;rw[getElem?_pos (⟨xs.toArray⟩:ByteArray) m.toNat hs];have:=(z6 jO).2;rw[←this];rfl);rw[this];rfl)
 (·exact ab.elim);(·rename_i k m R Uj hT _;split at ab;(·rename_i cs ES aa9;split at ab;(·rename_i xs ET Rw;obtain⟨⟨h0,h1⟩,z,hz,ab⟩:=ab;rw[Uj]at hi;obtain⟨ZP,_⟩:=bp hi;obtain⟨l,e,hu,rQ,gI,_⟩:=(hE.facts hT).array hE aa9;obtain⟨bF,h1c,us,MG⟩:=wB hx ES;obtain⟨j1,j2,j3⟩:=yC Rw (.iv (bJ R 0) z);have hlen:=dW bF;rw[MG]at bF hlen;simp only[Value.cells]at bF hlen;obtain⟨e1,e2,e3⟩:=Pg (base:=0) (m:=cs.length) (by rw[List.drop_zero,List.take_length];exact ET) hz;rw[Nat.zero_add]at e1 e3;(have hle:m.toNat*(bJ R 0).cells+(bJ R 0).cells≤us.size:=by rw[j2,Nat.mul_one,←Array.length_toList,←hlen];omega);have hp:=lr rQ (w:=w) (cs:=us) (off:=m.toNat*(bJ R 0).cells) hle;refine h.val ho (v:=valOf (bJ R 0) ((us.toList.drop (m.toNat*(bJ R 0).cells)).take (bJ R 0).cells)) ?_ ?_ ab;(·simp only[execOp,aK,MG,ZP,Instr.index,asIntOf,Sem.run_bind,Sem.run_pure,Result.andThen_ok,run_underlying hu,Sem.run_ite];rw[if_pos ⟨h0,by rw[←gI];exact h1⟩];simp only[Sem.run_bind,rQ.sizeOf w,Result.andThen_ok,hp,Sem.run_pure]);·(have kI: ∀u,u∈us.toList→u.oneCell'=true:=by intro u jO;rw[MG]at h1c;exact h1c u jO);have hjr:=lq (T:=bJ R 0) (c:=h.c) (vs:=(us.toList.drop m.toNat).take (bJ R 0).cells) (by rw[List.length_take,List.length_drop,j2,←hlen];omega) rQ.val (fun u hu=>kI u (List.mem_of_mem_drop (List.mem_of_mem_take hu))) (ez (bJ R 0).cells (ey m.toNat bF));rw[j2,e1,j1]at hjr;rw[j2,Nat.mul_one];exact hjr);·exact ab.elim);·exact ab.elim)
 ·exact ab.elim
end
end
section
variable {en:Prop} [lj en]
open Go.RowKit
theorem HB {α:Type} (xs:List α)(lo hi:Option Int):cut xs lo hi=(xs.drop (dg lo)).take (jl xs.length hi-dg lo):=by
 cases lo<;>cases hi<;>simp[cut,dg,jl];exact(wt (by simp)).symm
def wE:Option Int→Option Value→Prop|none,none=>True|some n,some v=> ∃k,v= .int k n|_,_=>False
theorem lL {P:Program} {w:World} {isSlice:Bool} {len cap:Nat} {lo hi:Option Int} {vl vh:Option Value} (TB:wE lo vl)(hhi:wE hi vh)(h:nH len lo hi)(hc:len≤cap):(Instr.sliceBounds isSlice len cap vl vh none).run P w= .ok (dg lo,jl len hi,cap) w:=by
 (have sb: ∀(k:IntKind)(n:Int)(y:Nat)(code:BoundsCode),0≤n→n≤y→(Instr.sliceBound (.int k n) y code).run P w= .ok n.toNat w:=by intro k n y code h0 h1;simp only[Instr.sliceBound,asIntOf,Sem.run_bind,Sem.run_pure,Result.andThen_ok,Sem.run_ite];rw[if_pos ⟨h0,h1⟩])
 cases lo with|none=>(cases vl with|some v=>exact TB.elim|none=>cases hi with|none=>(cases vh with|some v=>exact hhi.elim|none=>simp[Instr.sliceBounds,dg,jl])|some m=>cases vh with|none=>exact hhi.elim|some v=>obtain⟨k,rfl⟩:=hhi;obtain⟨h0,h1⟩:=h;cases isSlice<;>simp[Instr.sliceBounds,dg,jl,sb _ _ _ _ h0 (show m≤(cap:Int)by omega)])|some l=>cases vl with|none=>exact TB.elim|some v=>obtain⟨k,rfl⟩:=TB;cases hi with|none=>(cases vh with|some v=>exact hhi.elim|none=>obtain⟨h0,h1⟩:=h;simp[Instr.sliceBounds,dg,jl,sb _ _ _ _ h0 h1])|some m=>cases vh with|none=>exact hhi.elim|some v=>obtain⟨k',rfl⟩:=hhi;obtain⟨h0,h1,h2⟩:=h;have e1:(0:Int)≤m:=Int.le_trans h0 h1;cases isSlice<;>simp[Instr.sliceBounds,dg,jl,sb _ _ _ _ e1 (show m≤(cap:Int)by omega),sb _ _ _ _ h0 (show l≤(m.toNat:Int)by omega)]
theorem yD {P:Program} {w:World} {isSlice:Bool} {len cap:Nat} {lo:Option Int} {m:Int} {k k':IntKind} {vl:Option Value} (TB:wE lo vl)(h:nH len lo (some m))(hc:len≤cap):(Instr.sliceBounds isSlice len cap vl (some (.int k m)) (some (.int k' m))).run P w= .ok (dg lo,m.toNat,m.toNat) w:=by
 (have sb: ∀(k:IntKind)(n:Int)(y:Nat)(code:BoundsCode),0≤n→n≤y→(Instr.sliceBound (.int k n) y code).run P w= .ok n.toNat w:=by intro k n y code h0 h1;simp only[Instr.sliceBound,asIntOf,Sem.run_bind,Sem.run_pure,Result.andThen_ok,Sem.run_ite];rw[if_pos ⟨h0,h1⟩])
 cases lo with|none=>(cases vl with|some v=>exact TB.elim|none=>obtain⟨h0,h1⟩:=h;cases isSlice<;>simp[Instr.sliceBounds,dg,sb _ _ _ _ h0 (show m≤(cap:Int)by omega),sb _ _ _ _ h0 (show m≤(m.toNat:Int)by omega)])|some l=>cases vl with|none=>exact TB.elim|some v=>obtain⟨k,rfl⟩:=TB;obtain⟨h0,h1,h2⟩:=h;have e1:(0:Int)≤m:=Int.le_trans h0 h1;cases isSlice<;>simp[Instr.sliceBounds,dg,sb _ _ _ _ e1 (show m≤(cap:Int)by omega),sb _ _ _ _ e1 (show m≤(m.toNat:Int)by omega),sb _ _ _ _ h0 (show l≤(m.toNat:Int)by omega)]
theorem mS {n:Nat} {lo hi:Option Int} (h:nH n lo hi):dg lo≤jl n hi∧jl n hi≤n:=by cases lo<;>cases hi<;>simp only[nH,dg,jl]at* <;>omega
theorem JM {T:Ty} {w:World} {M:Mem} {a:Option Addr} {cap:Nat} (h:cap≤9223372036854775807):aH (.sl T) ([]:List T.den) w M [.slice a 0 cap]:=⟨a,cap,rfl,x9,h,.inl rfl⟩
section
variable {E:Env} {n:Nat} {w0:World} {S0:Cx} {s:St} {a:Act} {w:World} {ν:Nat→Value} {S:Nat→Prop} {F:dI} {o:Oper} {K:St→Prop} {Q:Exit→Act→World→Prop}
theorem FK(h:Full n w0 S0 s a w ν S) {x:Option Operand} {b:Option Int} (hc: ∀y,x=some y→qe y=true)(hb:bound s x=some b):wE b (x.map a.eval):=by
 cases x with|none=>simp only[bound,y5]at hb;subst hb;trivial|some y=>simp only[bound]at hb;split at hb;(·rename_i k m cg;simp only[y5]at hb;subst hb;have hy:=h.ev (hc y rfl);rw[cg]at hy;exact⟨k,(bp hy).1⟩);·cases hb
theorem JN(xs:List UInt8)(l h:Nat):(⟨xs.toArray⟩:ByteArray).extract l h=⟨((xs.drop l).take (h-l)).toArray⟩:=by
 apply ByteArray.ext;rw[ByteArray.data_extract];apply Array.toList_inj.1;simp[Array.toList_extract]
theorem JO {w:World} {M:Mem} : ∀(U:Ty)(x:U.den)(l:List Nat)(cs:List Value),pT U x=some l→aH U x w M cs→cs=l.map fun f=>Value.func (.func f) #[] #[]|.aL,x,l,cs,h,hr=>(by simp only[pT,y5]at h;subst h;exact hr)|.pair A B,x,l,cs,h,hr=>(by cases A with|aL=>simp only[pT]at h;split at h;(·rename_i l' hl;injection h with h;subst h;obtain⟨va,vb,rfl,ha,hb⟩:=hr;have ha:va=[.func (.func x.1) #[] #[]]:=ha;rw[JO B x.2 l' vb hl hb,ha];rfl);(·cases h)|_=>simp[pT]at h)|.unit,x,l,cs,h,hr=>(by simp[pT]at h)|.int _,x,l,cs,h,hr=>(by simp[pT]at h)|.bool,x,l,cs,h,hr=>(by simp[pT]at h)|.str,x,l,cs,h,hr=>(by simp[pT]at h)|.sl _,x,l,cs,h,hr=>(by simp[pT]at h)|.own _,x,l,cs,h,hr=>(by simp[pT]at h)|.st _,x,l,cs,h,hr=>(by simp[pT]at h)|.bG _ _,x,l,cs,h,hr=>(by simp[pT]at h)|.ptr _,x,l,cs,h,hr=>(by simp[pT]at h)|.iO _ _,x,l,cs,h,hr=>(by simp[pT]at h)|.mp _ _,x,l,cs,h,hr=>by simp[pT]at h
theorem Ul(hE:aI E)(h:Full n w0 S0 s a w ν S)(ho:bL n o=true) {t:Nat} {x:Operand} {lo hi mx:Option Operand} (aK:o.op= .slice t x lo hi mx)(ab:aZ E (aq E F s o) (fun l=>K (s.fin o.dst l))):o.wp E.P a w (fun a' w'=> ∃s',K s'∧Rel n w0 S0 s' a' w') Q:=by
 simp only[aq,aK]at ab;have hx:=h.ev (aA ho (x:=x) (by simp[aK,Op.operands]));split at ab;(·rename_i bl bh T gD hbh hT;have oN:=FK h (fun y hy=>aA ho (by simp[aK,Op.operands,hy])) gD;have hrh:=FK h (fun y hy=>aA ho (by simp[aK,Op.operands,hy])) hbh;have hf:=hE.facts hT;cases mx with|none=>simp only[pW]at ab;split at ab;(·split at ab;(·rename_i y cg;rw[cg]at hx;obtain⟨hv,hl⟩:=eY hx;obtain⟨lf,ab⟩:=ab;obtain⟨d,hu,Jk⟩:=hf.sZ;(have hd:d= .string:=by cases d<;>first|rfl|cases Jk);subst hd;have hb:=lL (P:=E.P) (w:=w) (isSlice:=false) (cap:=y.length) oN hrh lf (x8);(have cY:(⟨y.toArray⟩:ByteArray).size=y.length:=by simp[ByteArray.size]);refine h.val ho (v:=.string ⟨(cut y bl bh).toArray⟩) ?_ (rS (by rw[HB];simp;omega)) ab;simp only[execOp,aK,hv,Instr.sliceAt,Sem.run_bind,run_underlying hu,Result.andThen_ok,Instr.slice,Option.map_none,Option.isSome_none,Bool.false_eq_true,if_false,Sem.run_pure,cY,hb,JN,HB]);·exact ab.elim);(·rename_i T;obtain⟨e,hu,hee,rQ,oK,rR⟩:=hf.elem hE;have cY:=rQ.sizeOf w;(have aT: ∀(aa:Option Addr)(len cap:Nat),a.eval x= .slice aa len cap→nH len bl bh→len≤cap→(execOp a.eval o).run E.P w= .ok (.value (.slice (if cap=dg bl then aa else aa.map (·.add (dg bl*T.cells))) (jl len bh-dg bl) (cap-dg bl))) w:=by intro aa len cap he lf hlc;have hb:=lL (P:=E.P) (w:=w) (isSlice:=true) oN hrh lf hlc;simp only[execOp,aK,he,Instr.sliceAt,Sem.run_bind,run_underlying hu,Result.andThen_ok,Instr.slice,Option.map_none,hb,cY,Sem.run_pure]);split at ab;(·rename_i U xs cg;split at ab;(·rename_i xs' mT;obtain⟨e',ov⟩:=Ty.bE mT;injection e' with e';subst e';simp only at ov;subst ov;rw[cg]at hx;simp only[ag]at hx;obtain⟨nB,dL⟩:=hx;obtain⟨lf,ab⟩:=ab;have JP:aH (.sl U) xs w ⟨S,aJ w0 S0⟩ [a.eval x]:=dL;obtain⟨aa,cap,hv,hle,ud,cZ⟩:=dL;injection hv with hv;obtain⟨aS,bd⟩:=mS lf;refine h.val ho (aT aa _ cap hv lf hle) ?_ ab;simp only[ag];refine⟨nB,?_⟩;rw[HB];rw[hv]at JP;rcases cZ with rfl|⟨g,ob,rfl,_⟩;(·simp only[List.length_nil]at bd aS;have h0:jl 0 bh=0:=v6;have h1:dg bl=0:=v6;simp only[List.length_nil,h0,h1,List.drop_nil,List.take_nil];exact JM v6);·exact Bl (off:=dg bl) (len:=jl xs.length bh-dg bl) JP v6 (fun cu=>⟨g,ob,rfl,by rw[if_neg v6];simp[eX]⟩));·exact ab.elim);(·rename_i id cg;split at ab;(·rename_i U xs te hl;obtain⟨hl,_⟩:=cM hl;split at ab;(·obtain⟨lf,ab⟩:=ab;rw[cg]at hx;simp only[ag]at hx;obtain⟨hd,cE,_⟩:=hx;obtain⟨kd,wk,u,jO,Ue,cZ⟩:=h.W.cD _ _ hl;simp only[List.cons.injEq,and_true]at jO;simp only[Full.c]at cE;obtain⟨aS,bd⟩:=mS lf;rcases cZ with⟨hn,rfl⟩|⟨g,ob,cap,cur,e',tp,hle,ud,_⟩;(·rw[hn]at jO;rw[jO]at cE;simp only[List.length_nil]at aS bd;refine h.val ho (aT none 0 0 cE lf (x8)) ?_ ab;simp only[ag];exact⟨hd,none,0,0,_,jO,by simp;omega,x8,rfl,fun h=>by omega⟩);·rw[tp]at jO;rw[jO]at cE;refine h.val ho (aT _ _ cap cE lf hle) ?_ ab;simp only[ag];exact⟨hd,_,xs.length,cap,_,jO,v6,hle,rfl,fun cu=>⟨g,ob,rfl,by rw[if_neg v6];simp[eX]⟩⟩);·exact ab.elim);·exact ab.elim);(·rename_i id sz off len cg;split at ab;(·rename_i aZ4;have aZ4:=y6 aZ4;obtain⟨lf,ab⟩:=ab;rw[cg]at hx;simp only[ag]at hx;obtain⟨hd,aa,m',cap,b,cE,hn,ud,hv,hb⟩:=hx;obtain⟨aS,bd⟩:=mS lf;refine h.val ho (aT b len (cap-off) hv lf v6) ?_ ab;simp only[ag];refine⟨hd,aa,m',cap,_,cE,v6,ud,by rw[Nat.sub_sub],fun cu=>?_⟩;obtain⟨g,ob,h1,h2⟩:=hb v6;exact⟨g,ob,h1,by rw[if_neg v6,h2];simp[eX,aZ4,Nat.add_mul,Nat.add_assoc]⟩);·exact ab.elim);(·rename_i cg;obtain⟨lf,ab⟩:=ab;rw[cg]at hx;simp only[ag]at hx;obtain⟨aS,bd⟩:=mS (n:=0) lf;have h0:jl 0 bh=0:=v6;have h1:dg bl=0:=v6;refine h.val ho (aT none 0 0 hx lf (x8)) ?_ ab;simp only[ag,h0,h1];rfl);·exact ab.elim);(·rename_i R;split at ab;(·rename_i U x0 cg;rw[cg]at hx;simp only[ag]at hx;obtain⟨_,g,ob,cs,kj,hg,gI,vY,dL⟩:=hx;split at ab;(·rename_i l hl;split at ab;(·rename_i FL;simp only[z8,Bool.not_eq_true']at FL;obtain⟨⟨⟨Ad,ug⟩,aa9⟩,hd3⟩:=FL;have Jj:=y6 Ad;have hc2:=Ty.dw ug;have hc3:=Nat.le_of_ble_eq_true hd3;clear Ad ug hd3;obtain⟨d,hu,Jk⟩:=hf.sZ;have tq:=hf.str R d rfl hu;cases d with|array m e=>simp only[di]at Jk;split at Jk;(·rename_i V hV;simp only[z8]at Jk;obtain⟨⟨⟨hR,hVv⟩,_⟩,h2⟩:=Jk;have hR:=Ty.dw hR;have h2:=Nat.le_of_ble_eq_true h2;subst hR;rw[tj V hVv m v6]at Jj;rw[(oL V hVv m 0 v6).2]at hc2;subst hc2;have cY:=(hE.facts hV).sizeOf w;have hb:=lL (P:=E.P) (w:=w) (isSlice:=false) (len:=m) (cap:=m) oN hrh trivial (x8);have ES:=JO U x0 l cs hl dL;refine h.val ho (v:=.slice (some ⟨g,ob,none⟩) m m) ?_ ?_ ab;(·simp only[execOp,aK,kj,Nat.add_zero,Instr.sliceAt,Instr.sureAddr,Sem.run_bind,run_underlying hu,Result.andThen_ok,Option.map_none,hb,cY,Sem.run_pure,dg,jl,Nat.sub_zero,Nat.zero_mul];rw[if_neg v6];rfl);·simp only[ag];refine⟨rfl,some ⟨g,ob,none⟩,m,by rw[Jj],v6,v6,.inr ⟨g,ob,rfl,hg,fun i y hy=>⟨[.func (.func y) #[] #[]],rfl,fun j v hj=>?_,rfl⟩⟩⟩;(have h0:j=0:=by cases j with|zero=>rfl|succ j=>simp at hj);subst h0;simp only[List.getElem?_cons_zero,y5]at hj;have:=vY i v (by rw[ES,List.getElem?_map,hy];simpa using hj);simpa[Ty.cells]using this);(·cases Jk)|struct fs=>have tq:E.str t=true:=tq;rw[tq]at aa9;cases aa9|_=>simp[di]at Jk);·exact ab.elim);·exact ab.elim);·exact ab.elim);(·exact ab.elim)|some m=>split at ab;(·rename_i hmx;cases hmx);·rename_i mm hmx;injection hmx with hmx;subst hmx;split at ab;(·rename_i km mv bQ2;have hm:=h.ev (aA ho (x:=m) (by simp[aK,Op.operands]));rw[bQ2]at hm;obtain⟨hvm,_⟩:=bp hm;simp only[sX]at ab;split at ab;(·rename_i T;obtain⟨e,hu,hee,rQ,oK,rR⟩:=hf.elem hE;have cY:=rQ.sizeOf w;(have key: ∀(xs:List T.den)(hh:Int),bh=some hh→nH xs.length bl bh→mv=hh→aH (.sl T) xs w ⟨S,aJ w0 S0⟩ [a.eval x]→(∃g' n',(execOp a.eval o).run E.P w= .ok (.value (.slice g' n' n')) w∧aH (.sl T) (cut xs bl bh) w ⟨S,aJ w0 S0⟩ [.slice g' n' n']):=by intro xs hh bQ3 lf hmh dL;subst bQ3 hmh;have JP:=dL;obtain⟨aa,cap,hv,hle,ud,cZ⟩:=dL;injection hv with hv;(obtain⟨vh,kh,hvh⟩: ∃vh kh,hi=some vh∧a.eval vh= .int kh mv:=by cases hi with|none=>exact hrh.elim|some vh=>obtain⟨k,hk⟩:=hrh;exact⟨vh,k,rfl,hk⟩);obtain⟨rfl,hvh⟩:=hvh;have hb:=yD (P:=E.P) (w:=w) (isSlice:=true) (k:=kh) (k':=km) oN lf hle;obtain⟨aS,bd⟩:=mS lf;simp only[jl]at aS bd;refine⟨if mv.toNat=dg bl then aa else aa.map (·.add (dg bl*T.cells)),mv.toNat-dg bl,?_,?_⟩;(·simp only[execOp,aK,hv,Instr.sliceAt,Sem.run_bind,run_underlying hu,Result.andThen_ok,Instr.slice,Option.map_some,hvh,hvm,hb,cY,Sem.run_pure]);·rw[HB];simp only[jl];rw[hv]at JP;rcases cZ with rfl|⟨g,ob,rfl,Ug⟩;(·simp only[List.length_nil]at bd aS;have h0:mv.toNat=0:=v6;have h1:dg bl=0:=v6;simp only[h0,h1,List.drop_nil,List.take_nil,Nat.sub_self];exact JM v6);·have h1:=Bl (b:=some ⟨g,ob+dg bl*T.cells,none⟩) (off:=dg bl) (len:=mv.toNat-dg bl) JP v6 (fun cu=>⟨g,ob,rfl,rfl⟩);obtain⟨a',rJ,e1,e2,e3,e4⟩:=h1;simp only[List.cons.injEq,Value.slice.injEq,and_true]at e1;obtain⟨e1,e1',bY9⟩:=e1;have hlen:((xs.drop (dg bl)).take (mv.toNat-dg bl)).length=mv.toNat-dg bl:=e1'.symm;refine⟨_,mv.toNat-dg bl,by rw[hlen],by rw[hlen];exact x8,v6,?_⟩;rcases e4 with e4|⟨g',o',e4,e5⟩;(·exact .inl e4);·by_cases hz:mv.toNat=dg bl;(·left;apply List.eq_nil_of_length_eq_zero;omega);·right;rw[←e1]at e4;refine⟨g',o',?_,e5⟩;rw[if_neg hz];simpa[eX]using e4);split at ab;(·rename_i U xs cg;split at ab;(·rename_i xs' hh mT;obtain⟨e',ov⟩:=Ty.bE mT;injection e' with e';subst e';simp only at ov;subst ov;rw[cg]at hx;simp only[ag]at hx;obtain⟨nB,dL⟩:=hx;obtain⟨⟨lf,hmh⟩,ab⟩:=ab;obtain⟨g',n',HD,pQ⟩:=key xs hh rfl lf hmh dL;refine h.val ho HD ?_ ab;simp only[ag];exact⟨nB,⟨g',n',rfl⟩,pQ⟩);·exact ab.elim);(·rename_i U xs cg;split at ab;(·rename_i xs' hh mT;obtain⟨e',ov⟩:=Ty.bE mT;injection e' with e';subst e';simp only at ov;subst ov;rw[cg]at hx;simp only[ag]at hx;obtain⟨nB,_,dL⟩:=hx;obtain⟨⟨lf,hmh⟩,ab⟩:=ab;obtain⟨g',n',HD,pQ⟩:=key xs hh rfl lf hmh dL;refine h.val ho HD ?_ ab;simp only[ag];exact⟨nB,⟨g',n',rfl⟩,pQ⟩);·exact ab.elim);·exact ab.elim);·exact ab.elim);·exact ab.elim)
 ·exact ab.elim
theorem JQ(h:Full n w0 S0 s a w ν S)(ho:bL n o=true) {f:Nat} {first ec:Array Operand} (aK:o.op= .makeFunc (.func f) first ec)(ab:aZ E (aq E F s o) (fun l=>K (s.fin o.dst l))):o.wp E.P a w (fun a' w'=> ∃s',K s'∧Rel n w0 S0 s' a' w') Q:=by
 simp only[aq,aK]at ab;split at ab;(·rename_i Na;(have hf:first= #[]:=by apply Array.toList_inj.1;simpa using Na);subst hf;have hc:=jo h ec.toList (fun x hx=>aA ho (by simp only[aK,Op.operands];simpa using hx));refine h.val ho (v:=.func (.func f) #[] (ec.map a.eval)) ?_ ?_ ab;(·simp only[execOp,aK,Instr.makeFunc,Sem.run_bind,Sem.run_pure,Result.andThen_ok];rw[show(#[]:Array Operand).map a.eval= #[]from by simp]);·simp only[ag];exact⟨ec.toList.map a.eval,by congr 1;exact Array.toList_inj.1 (by simp),hc⟩)
 ·rename_i y r Na;split at ab;(·rename_i Cr;(have hf:ec= #[]:=by apply Array.toList_inj.1;simpa using Cr);subst hf;have hc:=jo h first.toList (fun x hx=>aA ho (by simp only[aK,Op.operands];simpa using hx));rw[←Na]at ab;refine h.val ho (v:=.func (.func f) (first.map a.eval) #[]) ?_ ?_ ab;(·simp only[execOp,aK,Instr.makeFunc,Sem.run_bind,Sem.run_pure,Result.andThen_ok];rw[show(#[]:Array Operand).map a.eval= #[]from by simp]);·simp only[ag];exact⟨first.toList.map a.eval,by congr 1;exact Array.toList_inj.1 (by simp),hc⟩);·exact ab.elim
theorem FM {c:Ctx} : ∀(vs:List PV)(us:List Value)(i:Nat)(p:PV),aj c vs us→Fz vs i=some p→ ∃v,us[i]?=some v∧ag c p v|[],us,i,p,h,hv=>(by simp[Fz]at hv)|q::vs,us,0,p,h,hv=>(by simp only[aj]at h;obtain⟨u,r,rfl,h1,h2⟩:=h;simp[Fz]at hv;subst hv;exact⟨u,rfl,h1⟩)|q::vs,us,i+1,p,h,hv=>by simp only[aj]at h;obtain⟨u,r,rfl,h1,h2⟩:=h;simpa using FM vs r i p h2 hv
theorem ml {T:Ty} {x:T.den} {w:World} {M:Mem} {v:Value} (h:dc T x w M v):ra T x w M v:=by cases T<;>first|exact h|exact h.elim
theorem HE {c:Ctx} : ∀(T:Ty)(x:T.den)(us:List Value)(i:Nat)(p:PV),aR T=0→EL T x c.w c.M us→mI T x i=some p→ ∃v,us[i]?=some v∧ag c p v:=by
 intro T;induction T with|bG a b jE iP=>intro x us i p ho h hv;simp[aR]at ho;obtain⟨u,r,rfl,h1,h2⟩:=h;(cases i with|zero=>simp only[mI,y5]at hv;subst hv;refine⟨u,rfl,?_⟩;simp only[ag];exact⟨ho.1,ml h1⟩|succ i=>simpa using iP _ _ _ _ ho.2 h2 hv)|_=>intro x us i p ho h hv;obtain⟨u,rfl,h1⟩:=h;cases i with|zero=>simp only[mI,y5]at hv;subst hv;refine⟨u,rfl,?_⟩;simp only[ag];exact⟨ho,ml h1⟩|succ i=>simp[mI]at hv
theorem Nb(h:Full n w0 S0 s a w ν S)(ho:bL n o=true) {x:Operand} {i:Nat} (aK:o.op= .extract x i)(ab:aZ E (aq E F s o) (fun l=>K (s.fin o.dst l))):o.wp E.P a w (fun a' w'=> ∃s',K s'∧Rel n w0 S0 s' a' w') Q:=by
 simp only[aq,aK]at ab;have hx:=h.ev (aA ho (x:=x) (by simp[aK,Op.operands]));split at ab;(·rename_i p hp;(have key: ∃us:List Value,a.eval x= .tuple us.toArray∧ ∃v,us[i]?=some v∧ag h.c p v:=by cases cg:s.ev x with|bG vs=>rw[cg]at hx hp;simp only[ag]at hx;obtain⟨us,hv,hr⟩:=hx;exact⟨us,hv,FM vs us i p hr hp⟩|iv T y=>rw[cg]at hx hp;(cases T with|bG ta tb=>simp only[ag]at hx;obtain⟨jG,us,hv,hr⟩:=hx;exact⟨us,hv,HE _ y us i p jG hr hp⟩|_=>simp only[wi]at hp;cases hp)|_=>rw[cg]at hp;simp only[wi]at hp;cases hp);obtain⟨us,hv,v,ZP,hr⟩:=key;refine h.val ho (v:=v) ?_ hr ab;simp[execOp,aK,hv,Instr.extract,ZP])
 ·exact ab.elim
end
end
end Go.Proofs.YtimognngcagphaaGreat
